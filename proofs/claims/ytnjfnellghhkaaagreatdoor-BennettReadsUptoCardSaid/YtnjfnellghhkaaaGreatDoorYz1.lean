/- BennettReads: for every library of at most 5 functions of at most 60 nodes, name and state, of bulk at most 1048576 together, the law returns true: Output returns the specified values for every state that fits the variables, and ErrState for any other. No condition but the bulk (the tables of math/bits and strconv start as the program's text lays them: the card ties that). -/
import Derived.Test.YtnjfnellghhkaaaGreatDoorYg5
import Derived.Test.YtnjfnellghhkaaaGreatDoorYg4
import Derived.Test.YtnjfnellghhkaaaGreatDoorTie
import Derived.Test.YtnjfnellghhkaaaGreatDoorCards
import Derived.ProofKit
import Derived.LaidMore
import Derived.LaidLaws
import Derived.Lib.LaidTab
import Derived.SevenTiedAt
import Derived.OpenShut
import Derived.ChangeSame
import Derived.ChangeVars
import Derived.JoinedOf
import Derived.JoinedCond
import Derived.Stop.Joined
import Derived.MakeChecks
import Derived.Deep.DeepHandedRow
set_option linter.unusedSimpArgs false
set_option linter.unusedVariables false
set_option linter.unusedSectionVars false
set_option maxRecDepth 100000
namespace Go.Proofs.YtnjfnellghhkaaaGreatDoor
open Go.ChangeShapes Go.WideShapes Go.ChangeAt Go.WideMaps Go.WideElems Go.RowKit
abbrev laid_bennettReads:List (String×DataW Unit):=[("math/bits.deBruijn32tab",Rows.laid_math_bits_deBruijn32tab),("math/bits.deBruijn64tab",Rows.laid_math_bits_deBruijn64tab),("internal/strconv.uint64pow10",Rows.laid_internal_strconv_uint64pow10)]
theorem gPow:Tryz.prog.globalNamed "internal/strconv.uint64pow10"=some 0:=by kernel_rfl
theorem zeL(os:Os)(args:Array Value):laidMetH Tryz.prog laid_bennettReads ((World.doorLaid Tryz.prog 24 os).forCall (fun _ _=>0) ⟨#[],args,[]⟩).memory:=laidMetH_of_parts3 (fuel:=8) (laidMet_of_run' 8 (by kernel_rfl) (by kernel_rfl)) (by kernel_rfl) (by kernel_rfl)
theorem zcJ{W:World}(h:laidMetH Tryz.prog laid_bennettReads W):Tab W:=by rw[MakeChecks.laidMetH_plain _ _ _ (by kernel_rfl)]at h;obtain⟨ps,⟨g0,t0,cs0,f0,p0,q0,hg0,ht0,hv0,hd0,⟨g1,t1,cs1,f1,p1,q1,hg1,ht1,hv1,hd1,⟨g2,t2,cs2,f2,p2,q2,hg2,ht2,hv2,hd2,_,_⟩,_⟩,_⟩,_,_⟩:=h;obtain rfl:=Option.some.inj (gPow.symm.trans hg2);obtain rfl:=Option.some.inj ((show(Tryz.prog.globals[0]?).map (·.type)=some 253 by kernel_rfl).symm.trans ht2);unfold Tab Lib.TabIs;rw[hv2,←Lib.cells_of_tab (k:=.u64) (zs:=Lib.pow10Tab) Tryz.underlying253 Tryz.underlying223 (by kernel_rfl) (by kernel_rfl) hd2]
theorem zdb(os:Os){H:Type}(enc:TypeId×Value→H):∃x,DataW.whole enc Tryz.prog ((World.doorLaid Tryz.prog 24 os).forCall (fun _ _=>0) ⟨#[],#[.slice none 0 0,.string ⟨#[]⟩,.agg #[.slice none 0 0,.slice none 0 0,.slice none 0 0]],[]⟩).memory Tryz.f4.params.toList Rows.bennettReadsSpec.vars false (#[.slice none 0 0,.string ⟨#[]⟩,.agg #[.slice none 0 0,.slice none 0 0,.slice none 0 0]]:Array Value).toList 8=some x∧Rows.uptoSmall H (x.1++x.2.1)=true:=⟨([.nil,.lit (.string []),.agg [.nil,.nil,.nil]],[],[]),by kernel_rfl,by kernel_rfl⟩
theorem zcb(os:Os):Input.okWideB Tryz.prog ((World.doorLaid Tryz.prog 24 os).forCall (fun _ _=>0) ⟨#[],#[.slice none 0 0,.string ⟨#[]⟩,.agg #[.slice none 0 0,.slice none 0 0,.slice none 0 0]],[]⟩) 4 ⟨#[],#[.slice none 0 0,.string ⟨#[]⟩,.agg #[.slice none 0 0,.slice none 0 0,.slice none 0 0]],[]⟩=true:=by kernel_rfl
theorem lifted_bennettReads(os:Os)(started:os.Started)(H:Type)(enc:TypeId×Value→H)(F:Stop.Interp):ReturnsInHanded {} Tryz.checked os 4 .any ((Rows.OpenSpec.upto Rows.bennettReadsSpec).preRow enc Tryz.prog Tryz.f4 Rows.bennettReadsUptoRow.domain false laid_bennettReads) (((Rows.OpenSpec.upto Rows.bennettReadsSpec).at F).post enc Tryz.prog Tryz.f4 false true false false):=by
 obtain⟨x,hx,hx2⟩:=zdb os enc;refine returnsInHanded_of_row (C:=Tryz.checked) (s:=Rows.OpenSpec.upto Rows.bennettReadsSpec) own started (by kernel_rfl) Tryz.func4 ⟨World.doorLaid Tryz.prog 24 os,fun _ _=>0,⟨#[],#[.slice none 0 0,.string ⟨#[]⟩,.agg #[.slice none 0 0,.slice none 0 0,.slice none 0 0]],[]⟩,rfl,World.shaped_of_RefB (by kernel_rfl) (by kernel_rfl),(Input.okWide_of_okWideB (base:=0) (zcb os)).1,(Input.okWide_of_okWideB (zcb os)).2,OpenSpec.preRow_of_cond 8 hx (by kernel_rfl) (fun k hk=>by cases hk;exact hx2) (by kernel_rfl) (zeL os _),by simp only[Assume.holds];exact⟨by simp,by simp,fun _=>Modest.zero,by simp,by simp⟩⟩ ?_;intro W base args ds gs before hval0 hW _ hcond _ hL _ _;have hcd:=hcond _ rfl;have hbk:Rows.uptoBulkAll (ds++gs)≤1048576:=of_decide_eq_true hcd;have hval:∀(j:Nat)t v,Tryz.f4.params[j]?=some t→args[j]?=some v→Value.okWide Tryz.prog W .any base t v:=hval0;have HT:=zcJ hL;have hW':=hW;obtain⟨p,q,hA0,hV,rfl,hfz,hnd⟩:=hW;have hA:DataW.TrodAll enc Tryz.prog W 0 (fun _=>true) true Tryz.f4.params.toList args.toList ds p:=hA0;rw[Tryz.params4]at hA hval;obtain⟨v0,vs0,d0,ds0,p0,q0,hargs,rfl,rfl,h0,r0⟩:=trodAll_cons hA;obtain⟨v1,vs1,d1,ds1,p1,q1,rfl,rfl,rfl,h1,r1⟩:=trodAll_cons r0;obtain⟨v2,vs2,d2,ds2,p2,q2,rfl,rfl,rfl,h2,r2⟩:=trodAll_cons r1;obtain⟨rfl,rfl,rfl⟩:=trodAll_nil r2;obtain rfl:args=#[v0,v1,v2]:=by cases args;simp_all
 obtain⟨rfl,rfl⟩:=trodVars_none hV;have k0:=h0;have lt0:∀x∈p0,x.block<W.heap.size:=by obtain⟨m,hm⟩:=k0;exact DataW.trod_lt m _ _ _ hm
 have b0:Rows.uptoBulk d0≤1048576:=Nat.le_trans (zeG (by simp)) hbk;obtain⟨l0,i0,z0⟩:∃l,FnsAt Any W v0 l∧∀j,j<l.length→sizeN (at' l j).body≤1048576:=by obtain⟨a,len,cap,rfl⟩:=okWide_slice Tryz.underlying22 (hval 0 22 v0 rfl rfl);obtain⟨m,hm⟩:=h0;obtain⟨v,l,e,hl,hz⟩:=openFnsB hm;(have e2:Value.slice a len cap=v:=by simpa[Value.cells]using e);rw[e2];exact⟨l,hl,fun j hj=>Nat.le_trans (hz j hj) b0⟩
 have k1:=h1;have lt1:∀x∈p1,x.block<W.heap.size:=by obtain⟨m,hm⟩:=k1;exact DataW.trod_lt m _ _ _ hm
 obtain⟨s1,rfl,i1⟩:∃s,v1=.string s∧s.size≤maxLen:=by obtain⟨s,rfl⟩:=okWide_string Tryz.underlying9 (hval 1 9 v1 rfl rfl);obtain⟨m,hm⟩:=h1;obtain⟨s2,e,_,w2⟩:=DataW.trod_string Tryz.underlying9 hm;(have e2:s=s2:=by simpa[Value.cells]using e);exact⟨s,rfl,by rw[e2];exact w2⟩
 have k2:=h2;have lt2:∀x∈p2,x.block<W.heap.size:=by obtain⟨m,hm⟩:=k2;exact DataW.trod_lt m _ _ _ hm
 obtain⟨cv2,iv2,ov2,l2,rfl,i2⟩:=openStt (hval 2 59 v2 rfl rfl) h2;clear hA0 hval0;refine(walk_bennettReads W HT v0 l0 i0 z0 s1 cv2 iv2 ov2 l2 i2).mono fun e W'⟨he,bel⟩=>?_;subst he;exact⟨_,rfl,_,_,_,[],_,[],hW',trodAll_mk1 (shut_bool Tryz.underlying4 _),(trodAll_cons_mk (Below.trod laidOut (by kernel_rfl) (of_decide_eq_true (by kernel_rfl)) k0 bel lt0) (trodAll_cons_mk (Below.trod laidOut (by kernel_rfl) (of_decide_eq_true (by kernel_rfl)) k1 bel lt1) (trodAll_cons_mk (Below.trod laidOut (by kernel_rfl) (of_decide_eq_true (by kernel_rfl)) k2 bel lt2) trodAll_mk0))),rfl,bel.frame _,fun h=>by cases h⟩
theorem said_bennettReads:Rows.BennettReadsUptoSaid:=OpenClaim.holds_of_cond 4 Tryz.f4 rfl rfl rfl rfl rfl rfl rfl ⟨rfl,rfl,rfl,rfl,rfl⟩ rfl rfl rfl rfl rfl (by kernel_rfl) Tryz.func4 (by kernel_rfl) (of_decide_eq_true (by kernel_rfl)) (by unfold Func.isWrapper;first|(rw[if_pos (by decide+kernel)];kernel_rfl)|(rw[if_neg (by decide+kernel)];exact⟨rfl,rfl⟩)) (fun os started H enc _ F=>by rw[OpenClaim.pre_eq_preRow];exact lifted_bennettReads os started H enc F)
theorem proved_bennettReads:Rows.BennettReadsUptoCardSaid:=Claim7.holds_tied_plain_at .later [] [.data,.data,.data] true (Rows.bennettReadsUptoCard.stood.harness) (Rows.bennettReadsUptoCard.stood.looks) said_bennettReads (fun _ h=>by cases h) (by kernel_rfl) (fun _ h=>by cases h) bennettReadsUpto_row_tie rfl ⟨rfl,rfl⟩ (by kernel_rfl) rfl (fun f fn hf hfn=>by obtain rfl:f=4:=Option.some.inj ((show Tryz.prog.funcNamed "backstep/backsteplaw42.BennettReads"=some 4 by kernel_rfl).symm.trans hf)|>.symm;obtain rfl:fn=Tryz.f4:=(Option.some.inj (Tryz.func4.symm.trans hfn)).symm;exact⟨by kernel_rfl,fun j t ht=>by rw[Tryz.params4]at ht;have hm:=Array.mem_of_getElem? ht;(have hall:(#[22,9,59].all fun u=>!Tryz.prog.wantsStandIn u)=true:=by kernel_rfl);rw[Array.all_eq_true_iff_forall_mem]at hall;exact(show Tryz.prog.wantsStandIn t=false by simpa using hall t hm)⟩) (by kernel_rfl)
#print axioms proved_bennettReads
end Go.Proofs.YtnjfnellghhkaaaGreatDoor
