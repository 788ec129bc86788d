/- Contracts and plain lemmas (FexC, FstA): no statement of the seat is proved here. -/
import Derived.Test.YtjhimhlebbamoaaDoorZq15
import Derived.Test.YtjhimhlebbamoaaDoorZq14
import Derived.Test.YtjhimhlebbamoaaDoorZq13
import Derived.Test.YtjhimhlebbamoaaDoorZq09
import Derived.Test.YtjhimhlebbamoaaDoorZq02
/- expr and call of funeval,at every expression. -/
set_option linter.unusedSimpArgs false
set_option linter.unusedVariables false
set_option linter.unusedSectionVars false
set_option maxRecDepth 100000
set_option maxHeartbeats 3200000
namespace Go.Proofs.YtjhimhlebbamoaaDoor
open Go.RowKit
theorem ca0_any (d:Nat) (H:XEv d) (C:EC) (f:Int) (av:Value) (args:List Vl) (A:Nat→Prop) (w:World) (fuel active:Int) (h1:fuel.toNat < d) (h2:fuel≤1000000) (h3:0≤active∧active≤30) (h4:0≤f) (h5:f.toNat < C.lib.length) (h6:args.length=(fnAt C.lib f).params.length) (h7:∀ a ∈ args,VLen a) (hr:RowsAt VlE A w av args) (hst:EvS0 C A w fuel active):
 Calls Tryd.prog 51 #[.pointer (some ⟨C.ev,0,none⟩),.int .i64 f,av] w (C0Post C A w active (callN apI C.lib d f args fuel active)):=by
 by_cases h30:30≤active
 · exact ca_deep d C f av args A w fuel active h30 hst
 · obtain ⟨fi,rfl⟩:=Int.eq_ofNat_of_zero_le h4
   obtain ⟨_,a,c,rfl⟩:=hr.form
   exact ca_main d H C fi a c args A w fuel active h1 h2 ⟨h3.1,by omega⟩ (by simpa using h5) (by simpa [fnAt] using h6) h7 hr hst
theorem ca_any (d:Nat) (H:XEv d):XCa d:=by
 intro C f av args cb A w rv ts fuel active h1 h2 h3 h4 h5 h6 h7 hr hst
 refine (ca0_any d H C f av args A w fuel active h1 h2 h3 h4 h5 h6 h7 hr hst.s0).mono ?_
 rintro e w' ⟨A',v,rfl,hv,hs,ht⟩
 obtain ⟨r1,r2⟩:=hst.lift hs ht
 exact ⟨A',v,rfl,hv,r1,r2⟩
theorem expr_any:∀ d,XEv d:=by
 intro d
 induction d with
 | zero=>intro C n v cb mb A w rv ts env N fuel active h1;omega
 | succ d ih=>
   intro C n v cb mb A w rv ts env N fuel active h1 h2 h3 h4 h5 h6 h7 h8 h9 h10 h11
   by_cases h0:fuel≤0
   · exact ev_out C d n v cb mb A w rv ts env fuel active h0 h9 h10
   have h0':0 < fuel∧fuel≤1000000:=⟨by omega,h2⟩
   by_cases h80:n.kind=80
   · exact ev_num C d n v cb mb A w rv ts env fuel active h0' h80 h9 h10
   by_cases h81:n.kind=81
   · exact ev_var C d n v cb mb A w rv ts env N fuel active h0' h81 h9 h10 h11
   by_cases h83:n.kind=83
   · exact ev_if d ih C n v cb mb A w rv ts env N fuel active h1 h0' h3 h4 h5 h83 h6 h7 h8 h9 h10 h11
   by_cases h84:n.kind=84
   · exact ev_let d ih C n v cb mb A w rv ts env N fuel active h1 h0' h3 h4 h5 h84 h6 h7 h8 h9 h10 h11
   by_cases h85:n.kind=85
   · exact ev_call d ih (ca_any d ih) C n v cb mb A w rv ts env N fuel active h1 h0' h3 h4 h5 h85 h6 h7 h8 h9 h10 h11
   exact ev_op d ih C n v cb mb A w rv ts env N fuel active h1 h0' h3 h4 h5 h80 h81 h83 h84 h85 h6 h7 h8 h9 h10 h11
end Go.Proofs.YtjhimhlebbamoaaDoor
/- Walks of package funeval:start,Trace. -/
namespace Go.Proofs.YtjhimhlebbamoaaDoor
open Go.RowKit
def NewU (A:Nat→Prop) (w w':World) (k:Nat):Prop:=A k∧k < w.heap.size∨w.heap.size≤k∧k < w'.heap.size
def StPost (A:Nat→Prop) (X:CR) (w:World) (e:Ending) (w':World):Prop:=
 ∃ (f0:Int) (a1:Option Addr) (n1 k1:Nat) (b:Bool) (n:Int) (a3:Option Addr) (m3 k3:Nat) (a5:Option Addr) (n5 k5:Nat),e=.returned (.tuple #[.agg #[.int .i64 f0,.slice a1 n1 k1,.bool b,.int .i64 n,.slice a3 m3 k3,.slice a5 n5 k5],.int .i64 X.err])∧
   (X.err=0→TrC (NewU A w w') w' (fun i=>(#[.int .i64 f0,.slice a1 n1 k1,.bool b,.int .i64 n,.slice a3 m3 k3,.slice a5 n5 k5]:Array Value).getD i undef) X.tree)∧Below w.heap.size w w'
theorem st_no {A:Nat→Prop} {X:CR} {w w':World} {x:Int} (hx:X.err=x) (h0:x≠0) (hb:Below w.heap.size w w'):StPost A X w (.returned (.tuple #[.agg #[.int .i64 0,.slice none 0 0,.bool false,.int .i64 0,.slice none 0 0,.slice none 0 0],.int .i64 x])) w':=
 ⟨0,none,0,0,false,0,none,0,0,none,0,0,by rw [hx],fun h=>absurd (hx.symm.trans h) h0,hb⟩
theorem bel_sets6 {w0 w:World} {g:Nat} {x0 x1 x2 x3 x4 x5:Value} (h:Below w0.heap.size w0 w) (hg:w0.heap.size≤g):Below w0.heap.size w0 ((((((w.setCell ⟨g,0,none⟩ x0).setCell ⟨g,1,none⟩ x1).setCell ⟨g,2,none⟩ x2).setCell ⟨g,3,none⟩ x3).setCell ⟨g,4,none⟩ x4).setCell ⟨g,5,none⟩ x5):=(((((h.setCell hg _).setCell hg _).setCell hg _).setCell hg _).setCell hg _).setCell hg _
theorem start_any (la:Option Addr) (lc:Nat) (lib:List Fn) (name:ByteArray) (av:Option Addr) (ac:Nat) (args:List Vl) (A:Nat→Prop) (w:World) (fuel:Int) (hl:FnsAt A w (.slice la lib.length lc) lib) (hmod:Modest lib) (ha:RowsAt VlE A w (.slice av args.length ac) args) (hvl:∀ a ∈ args,VLen a) (hf:fuel≤1000000):
 Calls Tryd.prog 35 #[.slice la lib.length lc,.string name,.slice av args.length ac,.agg #[.slice la lib.length lc,.int .i64 fuel,.int .i64 0,.bool true]] w (StPost A (startN lib name args fuel) w):=by
 have hll:=hl.form.1
 have hal:=ha.form.1
 unfold maxLen at hll hal
 obtain ⟨W,hW⟩:∃ W,W=(w.alloc (.cells #[.slice la lib.length lc,.int .i64 fuel,.int .i64 0,.bool true] 88)).alloc (.cells #[.int .i64 0,.slice none 0 0,.bool false,.int .i64 0,.slice none 0 0,.slice none 0 0] 43):=⟨_,rfl⟩
 have hB:Below w.heap.size w W:=by subst hW;exact bel_alloc (bel_alloc (Below.refl _ _))
 have HEV:Hid (W.heap[w.heap.size]?=some (.cells #[.slice la lib.length lc,.int .i64 fuel,.int .i64 0,.bool true] 88 (0,0))):=Lib.hid (by subst hW;exact at_old w _ _)
 have HZ:Hid (W.heap[w.heap.size+1]?=some (.cells #[.int .i64 0,.slice none 0 0,.bool false,.int .i64 0,.slice none 0 0,.slice none 0 0] 43 (0,0))):=Lib.hid (by subst hW;exact at_new w _ _)
 have HSZ:Hid (W.heap.size=w.heap.size+2):=Lib.hid (by subst hW;simp)
 have HL:Hid (FnsAt (fun k=>A k∧k < w.heap.size) W (.slice la lib.length lc) lib):=Lib.hid ((hl.stays (A':=fun k=>A k∧k < w.heap.size) ⟨Nat.le_refl _,fun b hb a=>⟨rfl,a,hb⟩⟩).stays (Stays.of_below hB))
 have HA:Hid (RowsAt VlE (fun k=>A k∧k < w.heap.size) W (.slice av args.length ac) args):=Lib.hid ((ha.stays (A':=fun k=>A k∧k < w.heap.size) ⟨Nat.le_refl _,fun b hb a=>⟨rfl,a,hb⟩⟩).stays (Stays.of_below hB))
 have HB:=Lib.hid hB
 have HVL:=Lib.hid hvl
 have HV:=Lib.hid (valid_any _ lib _ W HL.out hmod)
 have HFI:Hid (∀ w1,Below W.heap.size W w1→Calls Tryd.prog 15 #[.slice la lib.length lc,.string name] w1 (fun e w'=>e=.returned (.int .i64 (findF lib name))∧Below w1.heap.size w1 w')):=Lib.hid (fun w1 h1=>find_any _ lib name _ w1 (HL.out.stays (Stays.of_below h1)))
 have HX:Hid (startN lib name args fuel=(if (validE lib).2≠0 then ⟨noVl,3,fuel,default⟩
  else if findF lib name < 0 then ⟨noVl,21,fuel,default⟩
  else if args.length≠(fnAt lib (findF lib name)).params.length then ⟨noVl,7,fuel,default⟩
  else if ¬ KindsOk (fnAt lib (findF lib name)).params args then ⟨noVl,7,fuel,default⟩
  else callN apI lib (fuel.toNat+1) (findF lib name) args fuel 0)):=Lib.hid rfl
 clear hl ha hmod hvl hB
 subst hW
 go_enter Tryd.func35,Tryd.ntmps35
 generalize startN lib name args fuel=X at HX ⊢
 go_wp2_with fail
 refine HV.out.mono ?_
 rintro e w1 ⟨rfl,hb1⟩
 have HB1:=Lib.hid hb1
 have HZ1:=Lib.hid (blk_below hb1 HZ.out)
 by_cases hv:(validE lib).2=0
 case neg=>
  have dv:((validE lib).2 != 0)=true:=by simp [hv]
  have hxe:X.err=3:=by rw [HX.out,if_pos hv]
  have HXE:=Lib.hid hxe
  obtain ⟨z0,z1,z2,z3,z4,z5⟩:=cells6 HZ1.out
  have zf:=unfrozen HZ1.out
  clear hb1 hv hxe HX
  go_wp2
  (try simp only [Exit.inBlock,Exit.then])
  refine bodyPost_ret (results_cell_row2 (P:=Tryd.prog) rfl _ _ (w.heap.size+1) _ _ _ _ _ rfl (set6 HZ1.out _ _ _ _ _ _) rfl Tryd.underlying43 rfl (by kernel_rfl)) rfl ?_
  exact st_no HXE.out (by omega) (bel_sets6 (HB.out.trans (HB1.out.mono HB.out.size)) (by omega))
 have dv:((validE lib).2 != 0)=false:=by simp [hv]
 have HVE:=Lib.hid hv
 have HX2:=Lib.hid (HX.out.trans (if_neg (fun h=>h hv)))
 clear HX hb1 hv
 go_wp2_with fail
 refine (HFI.out _ HB1.out).mono ?_
 rintro e w2 ⟨rfl,hb2⟩
 have HB2:=Lib.hid (HB1.out.trans (hb2.mono HB1.out.size))
 have HZ2:=Lib.hid (blk_below hb2 HZ1.out)
 clear hb2 HV
 by_cases hf0:findF lib name < 0
 · have hxe:X.err=21:=by rw [HX2.out,if_pos hf0]
   have HXE:=Lib.hid hxe
   obtain ⟨z0,z1,z2,z3,z4,z5⟩:=cells6 HZ2.out
   have zf:=unfrozen HZ2.out
   clear hxe HX2
   go_wp2
   (try simp only [Exit.inBlock,Exit.then])
   refine bodyPost_ret (results_cell_row2 (P:=Tryd.prog) rfl _ _ (w.heap.size+1) _ _ _ _ _ rfl (set6 HZ2.out _ _ _ _ _ _) rfl Tryd.underlying43 rfl (by kernel_rfl)) rfl ?_
   exact st_no HXE.out (by omega) (bel_sets6 (HB.out.trans (HB2.out.mono HB.out.size)) (by omega))
 have HX3:=Lib.hid (HX2.out.trans (if_neg hf0))
 obtain ⟨hfl0,hfl1⟩:=findF_lt hf0
 obtain ⟨fi,hfi⟩:=Int.eq_ofNat_of_zero_le hfl0
 rw [hfi] at hf0 hfl1
 have hfil:fi < lib.length:=by simpa using hfl1
 have HX4:Hid (X=(if args.length≠(at' lib fi).params.length then ⟨noVl,7,fuel,default⟩ else if ¬ KindsOk (at' lib fi).params args then ⟨noVl,7,fuel,default⟩ else callN apI lib (fuel.toNat+1) fi args fuel 0)):=Lib.hid (by rw [HX3.out,hfi];rfl)
 have HFF:=Lib.hid hfi
 clear HX2 HX3 hfl0 hfl1 HFI
 rw [hfi]
 clear hfi
 obtain ⟨b,off,cap,pa,pc,ka,kc,he,hb,_,_,c0,c1,c2,c3,c4,c5,c6,_,hpar,_⟩:=(HL.out.stays (Stays.of_below HB2.out)).at hfil
 simp only [Value.slice.injEq] at he
 obtain ⟨rfl,-,rfl⟩:=he
 have i0:(fi:Int) < (lib.length:Int):=by omega
 have i00:(0:Int)≤(fi:Int):=by omega
 have HC1:=Lib.hid c1
 have HPAR:=Lib.hid hpar
 have hpl:=hpar.form.1
 unfold maxLen at hpl
 clear hpar c0 c2 c3 c4 c5 c6
 by_cases hal2:args.length=(at' lib fi).params.length
 case neg=>
  have hxe:X.err=7:=by rw [HX4.out,if_pos hal2]
  have HXE:=Lib.hid hxe
  have da:((args.length:Int) != ((at' lib fi).params.length:Int))=true:=by simp;omega
  obtain ⟨z0,z1,z2,z3,z4,z5⟩:=cells6 HZ2.out
  have zf:=unfrozen HZ2.out
  clear hxe HX4 hal2
  go_wp2
  (try simp only [Exit.inBlock,Exit.then])
  refine bodyPost_ret (results_cell_row2 (P:=Tryd.prog) rfl _ _ (w.heap.size+1) _ _ _ _ _ rfl (set6 HZ2.out _ _ _ _ _ _) rfl Tryd.underlying43 rfl (by kernel_rfl)) rfl ?_
  exact st_no HXE.out (by omega) (bel_sets6 (HB.out.trans (HB2.out.mono HB.out.size)) (by omega))
 have HX5:=Lib.hid (HX4.out.trans (if_neg (fun h=>h hal2)))
 have da:((args.length:Int) != ((at' lib fi).params.length:Int))=false:=by simp;omega
 have HAL:=Lib.hid hal2
 clear HX4 hal2
 go_wp2
 go_loopw [43] (fun i wr=>∃ k:Nat,k≤args.length∧i=.int .i64 k∧(∀ j,j < k→(at' args j).list=(at' (at' lib fi).params j).list)∧Below w2.heap.size w2 wr) (fun i _=>args.length - (intOf i).toNat)
 case atStart=>exact ⟨0,Nat.zero_le _,rfl,fun j hj=>absurd hj (by omega),Below.refl _ _⟩
 case round=>
  obtain ⟨k,hkk,rfl,hno,hbl⟩:=hrel
  have HNO:=Lib.hid hno
  have HBL:=Lib.hid hbl
  clear hno
  by_cases hlt:k < args.length
  · obtain ⟨b2,off2,cap2,va,vc,he,_,_,_,q0,q1,q2,hvn,hvr⟩:=vls_at (HA.out.stays (Stays.of_below (HB2.out.trans (hbl.mono HB2.out.size)))) hlt
    simp only [Value.slice.injEq] at he
    obtain ⟨rfl,-,rfl⟩:=he
    have hbx:Below w2.heap.size w2 (wr.alloc (.cells #[.bool (at' args k).list,.int .i64 (at' args k).n,.slice va (at' args k).l.length vc] 40)):=bel_alloc hbl
    have HBX:=Lib.hid hbx
    have d1:=(hbx.cell (p:=⟨b,off+fi * 7+1,none⟩) hb).trans HC1.out
    obtain ⟨b',off',cap',he,hb',_,_,p0,p1,hs⟩:=(HPAR.out.stays (Stays.of_below hbx)).at (j:=k) (by have:=HAL.out;omega)
    simp only [Value.slice.injEq] at he
    obtain ⟨rfl,-,rfl⟩:=he
    have HZR:=Lib.hid (blk_below hbx HZ2.out)
    have i1:(k:Int) < ((at' lib fi).params.length:Int):=by have:=HAL.out;omega
    have i2:(0:Int)≤(k:Int):=by omega
    clear hbx hbl hvr
    by_cases hq:(at' args k).list=(at' (at' lib fi).params k).list
    · have dq:((at' args k).list != (at' (at' lib fi).params k).list)=false:=by simp [hq]
      have dq2:((at' args k).list == (at' (at' lib fi).params k).list)=true:=by simp [hq]
      have HQ:=Lib.hid hq
      clear hq
      go_wp2
      go_region
      all_goals
       go_wp2
       exact ⟨⟨k+1,by omega,by go_num,fun j hj=>(by
        by_cases e:j=k
        · rw [e];exact HQ.out
        · exact HNO.out j (by omega)),bel_drew HBX.out⟩,by simp [intOf];omega⟩
    · have dq:((at' args k).list != (at' (at' lib fi).params k).list)=true:=by simp [hq]
      have dq2:((at' args k).list == (at' (at' lib fi).params k).list)=false:=by simp [hq]
      have hxe:X.err=7:=by rw [HX5.out,if_pos (fun h=>hq (h k hlt))]
      have HXE:=Lib.hid hxe
      obtain ⟨z0,z1,z2,z3,z4,z5⟩:=cells6 HZR.out
      have zf:=unfrozen HZR.out
      clear hxe hq
      go_wp2
      go_region
      all_goals
       go_wp2
       (try simp only [Exit.inBlock,Exit.then])
       refine bodyPost_ret (results_cell_row2 (P:=Tryd.prog) rfl _ _ (w.heap.size+1) _ _ _ _ _ rfl (blk_drew (set6 HZR.out _ _ _ _ _ _)) rfl Tryd.underlying43 rfl (by kernel_rfl)) rfl ?_
       exact st_no HXE.out (by omega) (bel_drew (bel_sets6 (HB.out.trans ((HB2.out.trans (HBX.out.mono HB2.out.size)).mono HB.out.size)) (by omega)))
  · obtain rfl:k=args.length:=by omega
    have hlt':¬ (args.length:Int) < (args.length:Int):=by omega
    have hko:KindsOk (at' lib fi).params args:=fun i hi=>HNO.out i hi
    have HX6:=Lib.hid (HX5.out.trans (if_neg (fun h=>h hko)))
    clear hko hbl
    go_wp2
    have HBQ:=Lib.hid (HB2.out.trans (HBL.out.mono HB2.out.size))
    obtain ⟨wo,rfl⟩:∃ wo:World,wo=wr:=⟨_,rfl⟩
    go_loopw [64] (fun i wq=>∃ k:Nat,k≤args.length∧i=.int .i64 k∧Below wo.heap.size wo wq) (fun i _=>args.length - (intOf i).toNat)
    case atStart=>exact ⟨0,Nat.zero_le _,rfl,Below.refl _ _⟩
    case round=>
     obtain ⟨k,hkk,rfl,hbl⟩:=hrel
     have HBL2:=Lib.hid hbl
     by_cases hlt:k < args.length
     · obtain ⟨b2,off2,cap2,va,vc,he,_,_,_,q0,q1,q2,hvn,hvr⟩:=vls_at (HA.out.stays (Stays.of_below (HBQ.out.trans (hbl.mono HBQ.out.size)))) hlt
       simp only [Value.slice.injEq] at he
       obtain ⟨rfl,-,rfl⟩:=he
       have hvk:¬ (1000:Int) < ((at' args k).l.length:Int):=by have:=at_len HVL.out k;unfold VLen at this;omega
       clear hbl hvr
       cases hbk:(at' args k).list with
       | true=>
         rw [hbk] at q0
         clear hbk
         go_wp2
         go_roundw
         case rel=>exact ⟨k+1,by omega,by go_num,bel_alloc HBL2.out⟩
         case measure=>simp [intOf];omega
       | false=>
         rw [hbk] at q0
         clear hbk
         go_wp2
         go_roundw
         case rel=>exact ⟨k+1,by omega,by go_num,bel_alloc HBL2.out⟩
         case measure=>simp [intOf];omega
     · obtain rfl:k=args.length:=by omega
       have hlt2:¬ (args.length:Int) < (args.length:Int):=by omega
       have HW:=Lib.hid (HBQ.out.trans (HBL2.out.mono HBQ.out.size))
       have hC:∃ C:EC,C.ev=w.heap.size∧C.la=some ⟨b,off,none⟩∧C.lc=lc∧C.lib=lib∧C.tr=true:=⟨⟨w.heap.size,some ⟨b,off,none⟩,lc,lib,true,lib_ok HVE.out⟩,rfl,rfl,rfl,rfl,rfl⟩
       obtain ⟨C,hC1,hC2,hC3,hC4,hC5⟩:=hC
       have HC5:=Lib.hid hC5
       have hst:EvS0 C (fun k=>A k∧k < w.heap.size) wr fuel 0:={
        ev:=by rw [hC1,hC2,hC3,hC4,hC5];exact blk_below HW.out HEV.out
        lib:=by rw [hC2,hC3,hC4];exact HL.out.stays (Stays.of_below HW.out)
        alt:=fun k a=>by have:=a.2;have:=HW.out.size;have:=HSZ.out;omega
        mutA:=fun k m a=>by have:=a.2;have:=mu0 m;omega }
       have HCC:=Lib.hid (ca0_any (fuel.toNat+1) (expr_any _) C fi (.slice av args.length ac) args _ wr fuel 0 (by omega) hf (by omega) (by omega) (by rw [hC4];simpa using hfil) (by rw [hC4];simpa [fnAt] using HAL.out) HVL.out (HA.out.stays (Stays.of_below HW.out)) hst)
       have HE0:=Lib.hid (blk_below HW.out HZ.out)
       have HEQ:=Lib.hid (And.intro hC1 hC4)
       rw [hC1,hC4] at HCC
       rw [← HX6.out] at HCC
       clear hC1 hC2 hC3 hC4 hC5 hst hbl HX6
       go_wp2_with fail
       refine HCC.out.mono ?_
       rintro e w5 ⟨A',v,rfl,hv5,hs5,ht5⟩
       obtain ⟨f0,a1,n1,k1,a3,k3,a5,n5,k5,rfl,hv3,htr3⟩:=hv5
       have hb5:Below wr.heap.size wr w5∨True:=.inr trivial
       have hwsz:=HW.out.size
       have hwz:=HSZ.out
       have hK:Keeps wr w5 (fun k=>k=w.heap.size):=ht5.keeps.mono (fun k m=>(mu0 m).trans HEQ.out.1)
       have hBw:Below w.heap.size w w5:=(HB.out.trans (HW.out.mono HB.out.size)).trans (hK.below (B:=w.heap.size) (fun k e=>by omega) (by omega))
       have hz5:=(hK.block (w.heap.size+1) (by omega) (by omega)).trans HE0.out
       have HBW:=Lib.hid hBw
       have HZ5:=Lib.hid hz5
       have HTR:=Lib.hid (fun h=>htr3 h HC5.out)
       have HA5:=Lib.hid hs5.alt
       have HN5:=Lib.hid ht5.new
       obtain ⟨z0,z1,z2,z3,z4,z5⟩:=cells6 hz5
       have zf:=unfrozen hz5
       clear hb5 hwsz hwz hK hBw hz5 htr3 hs5 ht5 hv3 HCC
       go_wp2
       (try simp only [Exit.inBlock,Exit.then])
       refine bodyPost_ret (results_cell_row2 (P:=Tryd.prog) rfl _ _ (w.heap.size+1) _ _ _ _ _ rfl (set6 HZ5.out _ _ _ _ _ _) rfl Tryd.underlying43 rfl (by kernel_rfl)) rfl ?_
       have hKz:=keeps_set6 w5 (w.heap.size+1) (.int .i64 f0) (.slice a1 n1 k1) (.bool X.res.list) (.int .i64 X.res.n) (.slice a3 X.res.l.length k3) (.slice a5 n5 k5)
       refine ⟨f0,a1,n1,k1,_,_,a3,_,k3,a5,n5,k5,rfl,fun he=>?_,bel_sets6 HBW.out (by omega)⟩
       have hwsz:=HW.out.size
       have hwz:=HSZ.out
       have hnz:¬ A' (w.heap.size+1):=fun a=>by
        rcases HN5.out _ a with a|a
        · have:=a.2;omega
        · omega
       exact (HTR.out he).stays ⟨hKz.size,fun k hk a=>⟨hKz.block k hk (fun e=>hnz (e ▸ a)),by
        rcases HN5.out k a with b|b
        · exact .inl b
        · exact .inr ⟨by omega,Nat.lt_of_lt_of_le hk hKz.size⟩⟩⟩
theorem trace_any (la:Option Addr) (lc:Nat) (lib:List Fn) (name:ByteArray) (av:Option Addr) (ac:Nat) (args:List Vl) (A:Nat→Prop) (w:World) (fuel:Int) (hl:FnsAt A w (.slice la lib.length lc) lib) (hmod:Modest lib) (ha:RowsAt VlE A w (.slice av args.length ac) args) (hvl:∀ a ∈ args,VLen a) (hf:fuel≤1000000):
 Calls Tryd.prog 14 #[.slice la lib.length lc,.string name,.slice av args.length ac,.int .i64 fuel] w (StPost A (startN lib name args fuel) w):=by
 have hB:Below w.heap.size w (w.alloc (.cells #[.int .i64 0,.slice none 0 0,.bool false,.int .i64 0,.slice none 0 0,.slice none 0 0] 43)):=bel_alloc (Below.refl _ _)
 have HZ:=Lib.hid (at_new0 w (.cells #[.int .i64 0,.slice none 0 0,.bool false,.int .i64 0,.slice none 0 0,.slice none 0 0] 43))
 have HSZ:Hid ((w.alloc (.cells #[.int .i64 0,.slice none 0 0,.bool false,.int .i64 0,.slice none 0 0,.slice none 0 0] 43)).heap.size=w.heap.size+1):=Lib.hid (by simp)
 have h0:Stays A (fun k=>A k∧k < w.heap.size) w (w.alloc (.cells #[.int .i64 0,.slice none 0 0,.bool false,.int .i64 0,.slice none 0 0,.slice none 0 0] 43)):=⟨hB.size,fun b hb a=>⟨hB.block b hb,a,hb⟩⟩
 have HC:=Lib.hid (start_any la lc lib name av ac args _ _ fuel (hl.stays h0) hmod (ha.stays h0) hvl hf)
 have HB:=Lib.hid hB
 clear hl ha hB h0
 go_enter Tryd.func14,Tryd.ntmps14
 generalize startN lib name args fuel=X at HC ⊢
 go_wp2_with fail
 refine HC.out.mono ?_
 rintro e w5 ⟨f0,a1,n1,k1,b,n,a3,m3,k3,a5,n5,k5,rfl,htr,hb5⟩
 have HTR:=Lib.hid htr
 have HB5:=Lib.hid hb5
 have HZ5:=Lib.hid (blk_below hb5 HZ.out)
 obtain ⟨z0,z1,z2,z3,z4,z5⟩:=cells6 HZ5.out
 have zf:=unfrozen HZ5.out
 clear htr hb5 HC
 go_wp2
 (try simp only [Exit.inBlock,Exit.then])
 refine bodyPost_ret (results_cell_row2 (P:=Tryd.prog) rfl _ _ w.heap.size _ _ _ _ _ rfl (set6 HZ5.out _ _ _ _ _ _) rfl Tryd.underlying43 rfl (by kernel_rfl)) rfl ?_
 have hKz:=keeps_set6 w5 w.heap.size (.int .i64 f0) (.slice a1 n1 k1) (.bool b) (.int .i64 n) (.slice a3 m3 k3) (.slice a5 n5 k5)
 refine ⟨f0,a1,n1,k1,b,n,a3,m3,k3,a5,n5,k5,rfl,fun he=>?_,bel_sets6 (HB.out.trans (HB5.out.mono HB.out.size)) (Nat.le_refl _)⟩
 have hsz:=HSZ.out
 exact (HTR.out he).stays ⟨hKz.size,fun k hk a=>⟨hKz.block k hk (fun e=>by
  rcases a with a|a
  · have:=a.1.2;omega
  · have:=a.1;omega),by
  rcases a with a|a
  · exact .inl ⟨a.1.1,a.1.2⟩
  · exact .inr ⟨by have:=a.1;omega,Nat.lt_of_lt_of_le hk hKz.size⟩⟩⟩
end Go.Proofs.YtjhimhlebbamoaaDoor
