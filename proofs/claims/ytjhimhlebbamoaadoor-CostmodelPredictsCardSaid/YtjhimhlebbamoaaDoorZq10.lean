/- Contracts and plain lemmas (FcmA): no statement of the seat is proved here. -/
import Derived.Test.YtjhimhlebbamoaaDoorZq09
import Derived.Test.YtjhimhlebbamoaaDoorZq07
import Derived.StillTailTactics
/- Walks of package costmodel:result. -/
set_option linter.unusedSimpArgs false
set_option linter.unusedVariables false
set_option linter.unusedSectionVars false
set_option maxRecDepth 100000
set_option maxHeartbeats 3200000
namespace Go.Proofs.YtjhimhlebbamoaaDoor
open Go.RowKit
theorem MVm:SmapT Tryd.prog 109 9 40 (.agg #[.bool false,.int .i64 0,.slice none 0 0]):=⟨Tryd.underlying109,Tryd.underlying9,fun _=>by kernel_rfl⟩
theorem field_vl1 (a b c:Value) (w:World):(Instr.field 40 (.agg #[a,b,c]) 1).run Tryd.prog w=.ok b w:=by kernel_rfl
theorem field_vl2 (a b c:Value) (w:World):(Instr.field 40 (.agg #[a,b,c]) 2).run Tryd.prog w=.ok c w:=by kernel_rfl
theorem still_find {P:Program} {t kt et:TypeId} {z:Value} (M:SmapT P t kt et z) {w:World} {ops:Array Oper} {rest:List Oper} {o:Oper} {a:Act} {Q:Act→Prop} (hg:Region.wanted o (yielded ops a.tmps)=true) (x y:Operand) (c:Bool) (hop:o.op=Op.lookup t x y c)
 {b N:Nat} {m:ByteArray→Option Value} {s:ByteArray} (hx:a.eval x=.map (some b)) (hy:a.eval y=.string s) (h:SMapLe P kt w b m N) (hs:s.size≤maxLen) {r:Value} (hr:(if c then .tuple #[(m s).getD z,.bool (m s).isSome] else (m s).getD z)=r)
 (hK:wpStill P ops w Q rest (a.put o.dst r)):wpStill P ops w Q (o :: rest) a:=by
 refine wpStill_step (fun K hK'=>?_)
 rw [if_pos hg]
 have hrun:=h.find M hs c
 rw [hr] at hrun
 unfold Oper.still
 simp [execOp,hop,hx,hy,hrun,Result.andThen,Oper.stillUpon]
 exact hK' _ hK
def EnvN (A:Nat→Prop) (w:World) (mb:Nat) (env:VEnv) (N:Nat):Prop:=
 ∃ m:ByteArray→Option Value,SMapLe Tryd.prog 9 w mb m N∧∀ s,(∀ v,m s=some v→VlAt A w v (env s))∧(m s=none→env s=noVl)
theorem EnvN.find {A:Nat→Prop} {w:World} {mb N:Nat} {env:VEnv} (h:EnvN A w mb env N) (s:ByteArray):
 ∃ (m:ByteArray→Option Value) (a:Option Addr) (c:Nat),SMapLe Tryd.prog 9 w mb m N∧(m s).getD (.agg #[.bool false,.int .i64 0,.slice none 0 0])=.agg #[.bool (env s).list,.int .i64 (env s).n,.slice a (env s).l.length c]∧VlAt A w (.agg #[.bool (env s).list,.int .i64 (env s).n,.slice a (env s).l.length c]) (env s):=by
 obtain ⟨m,hm,hv⟩:=h
 obtain ⟨h1,h2⟩:=hv s
 cases e:m s with
 | none=>
   rw [h2 e]
   exact ⟨m,none,0,hm,by rw [e];rfl,vl_no _⟩
 | some v=>
   have h3:=h1 v e
   obtain ⟨a,c,rfl,h4,h5⟩:=h3
   exact ⟨m,a,c,hm,by rw [e];rfl,a,c,rfl,h4,h5⟩
def RsPost (x:Vl) (A:Nat→Prop) (w:World) (e:Ending) (w':World):Prop:=∃ v,e=.returned v∧VlAt (NewB A w) w' v x∧Below w.heap.size w w'
theorem wrap_u8 {n:Int} (h:0≤n∧n≤255):IntKind.u8.wrap n=n:=by
 unfold IntKind.wrap
 have e1:((2:Int) ^ IntKind.bits .u8)=256:=by decide
 simp only [e1,IntKind.signed,Bool.false_and,Bool.false_eq_true,if_false]
 omega
theorem rs_num (tn nm:ByteArray) (lst:Bool) (num:Int) (aa ha ea:Option Addr) (ac hn hc en ec:Nat) (args:List ByteArray) (mb N:Nat) (env:VEnv) (A:Nat→Prop) (w:World) (hi:In64 num) (hs:StrsAt A w (.slice aa args.length ac) args) (hen:EnvN A w mb env N):
 Calls Tryd.prog 43 #[.agg #[.string tn,.bool lst,.int .u8 80,.int .i64 num,.string nm,.slice aa args.length ac,.slice ha hn hc,.slice ea en ec],.map (some mb)] w (RsPost ⟨false,num,[]⟩ A w):=by
 have hA:Below w.heap.size w ((w.alloc (.cells #[.string tn,.bool lst,.int .u8 80,.int .i64 num,.string nm,.slice aa args.length ac,.slice ha hn hc,.slice ea en ec] 112)).alloc (.cells #[.bool false,.int .i64 0,.slice none 0 0] 40)):=bel_alloc (bel_alloc (Below.refl _ _))
 have HB:=Lib.hid hA
 have HZ:=Lib.hid (at_new w (.cells #[.string tn,.bool lst,.int .u8 80,.int .i64 num,.string nm,.slice aa args.length ac,.slice ha hn hc,.slice ea en ec] 112) (.cells #[.bool false,.int .i64 0,.slice none 0 0] 40))
 obtain ⟨x0,x1,x2,x3,x4,x5,x6,x7⟩:=cells8 (at_old w (.cells #[.string tn,.bool lst,.int .u8 80,.int .i64 num,.string nm,.slice aa args.length ac,.slice ha hn hc,.slice ea en ec] 112) (.cells #[.bool false,.int .i64 0,.slice none 0 0] 40))
 clear hA hs hen
 go_enter Tryd.func43,Tryd.ntmps43
 go_wp2
 (try simp only [Exit.inBlock,Exit.then])
 refine bodyPost_ret (results_cell_row (P:=Tryd.prog) rfl _ _ (w.heap.size+1) _ _ _ _ rfl (at_new w _ _) Tryd.underlying40 rfl (by kernel_rfl)) rfl ?_
 exact ⟨_,rfl,vl_int _ hi,bel_alloc (bel_alloc (Below.refl _ _))⟩
theorem rs_nil (tn nm:ByteArray) (lst:Bool) (num:Int) (aa ha ea:Option Addr) (ac hn hc en ec:Nat) (args:List ByteArray) (mb N:Nat) (env:VEnv) (A:Nat→Prop) (w:World) (hs:StrsAt A w (.slice aa args.length ac) args) (hen:EnvN A w mb env N):
 Calls Tryd.prog 43 #[.agg #[.string tn,.bool lst,.int .u8 86,.int .i64 num,.string nm,.slice aa args.length ac,.slice ha hn hc,.slice ea en ec],.map (some mb)] w (RsPost ⟨lst,0,[]⟩ A w):=by
 have hA:Below w.heap.size w ((w.alloc (.cells #[.string tn,.bool lst,.int .u8 86,.int .i64 num,.string nm,.slice aa args.length ac,.slice ha hn hc,.slice ea en ec] 112)).alloc (.cells #[.bool false,.int .i64 0,.slice none 0 0] 40)):=bel_alloc (bel_alloc (Below.refl _ _))
 have HB:=Lib.hid hA
 have HZ:=Lib.hid (at_new w (.cells #[.string tn,.bool lst,.int .u8 86,.int .i64 num,.string nm,.slice aa args.length ac,.slice ha hn hc,.slice ea en ec] 112) (.cells #[.bool false,.int .i64 0,.slice none 0 0] 40))
 obtain ⟨x0,x1,x2,x3,x4,x5,x6,x7⟩:=cells8 (at_old w (.cells #[.string tn,.bool lst,.int .u8 86,.int .i64 num,.string nm,.slice aa args.length ac,.slice ha hn hc,.slice ea en ec] 112) (.cells #[.bool false,.int .i64 0,.slice none 0 0] 40))
 clear hA hs hen
 go_enter Tryd.func43,Tryd.ntmps43
 go_wp2
 (try simp only [Exit.inBlock,Exit.then])
 refine bodyPost_ret (results_cell_row (P:=Tryd.prog) rfl _ _ (w.heap.size+1) _ _ _ _ rfl (at_new w _ _) Tryd.underlying40 rfl (by kernel_rfl)) rfl ?_
 exact ⟨_,rfl,⟨none,0,rfl,in64_0,RowsAt.nil _ _ _⟩,bel_alloc (bel_alloc (Below.refl _ _))⟩
theorem rs_var (tn nm:ByteArray) (lst:Bool) (num:Int) (aa ha ea:Option Addr) (ac hn hc en ec:Nat) (args:List ByteArray) (mb N:Nat) (env:VEnv) (A:Nat→Prop) (w:World) (hl:args.length=1) (hs:StrsAt A w (.slice aa args.length ac) args) (hen:EnvN A w mb env N):
 Calls Tryd.prog 43 #[.agg #[.string tn,.bool lst,.int .u8 81,.int .i64 num,.string nm,.slice aa args.length ac,.slice ha hn hc,.slice ea en ec],.map (some mb)] w (RsPost (env (at' args 0)) A w):=by
 have hA:Below w.heap.size w ((w.alloc (.cells #[.string tn,.bool lst,.int .u8 81,.int .i64 num,.string nm,.slice aa args.length ac,.slice ha hn hc,.slice ea en ec] 112)).alloc (.cells #[.bool false,.int .i64 0,.slice none 0 0] 40)):=bel_alloc (bel_alloc (Below.refl _ _))
 have HB:=Lib.hid hA
 have HZ:=Lib.hid (at_new w (.cells #[.string tn,.bool lst,.int .u8 81,.int .i64 num,.string nm,.slice aa args.length ac,.slice ha hn hc,.slice ea en ec] 112) (.cells #[.bool false,.int .i64 0,.slice none 0 0] 40))
 obtain ⟨x0,x1,x2,x3,x4,x5,x6,x7⟩:=cells8 (at_old w (.cells #[.string tn,.bool lst,.int .u8 81,.int .i64 num,.string nm,.slice aa args.length ac,.slice ha hn hc,.slice ea en ec] 112) (.cells #[.bool false,.int .i64 0,.slice none 0 0] 40))
 obtain ⟨b,off,cap,he,hb,_,_,y0,hs0⟩:=(hs.stays (Stays.of_below hA)).at (j:=0) (by omega)
 simp only [Value.slice.injEq] at he
 obtain ⟨rfl,-,rfl⟩:=he
 simp only [Nat.add_zero] at y0
 obtain ⟨m,a0,k0,hm,hg,hv⟩:=hen.find (at' args 0)
 have HM:=Lib.hid (hm.below hA)
 have HG:=Lib.hid hg
 have HV:=Lib.hid hv
 have i0:(0:Int) < (args.length:Int):=by omega
 have i0n:0 < args.length:=by omega
 clear hA hs hen hm hg hv hl
 have fl1:=field_vl1
 have fl2:=field_vl2
 go_enter Tryd.func43,Tryd.ntmps43
 go_wp2_with (refine wpl_find MVm rfl (.tmp 18) (.tmp 22) false rfl rfl rfl (by exact HM.out) hs0 (by exact HG.out) ?_)
 (try simp only [Exit.inBlock,Exit.then])
 refine bodyPost_ret (results_cell_row (P:=Tryd.prog) rfl _ _ (w.heap.size+1) _ _ _ _ rfl (at_new w _ _) Tryd.underlying40 rfl (by kernel_rfl)) rfl ?_
 exact ⟨_,rfl,HV.out.stays (stays_newB (bel_alloc (bel_alloc (Below.refl _ _)))),bel_alloc (bel_alloc (Below.refl _ _))⟩
theorem rs_op (tn nm:ByteArray) (lst:Bool) (num:Int) (aa ha ea:Option Addr) (ac hn hc en ec:Nat) (args:List ByteArray) (mb N:Nat) (env:VEnv) (A:Nat→Prop) (w:World) (hl:args.length=2) (hnum:8≤num∧num≤23) (hs:StrsAt A w (.slice aa args.length ac) args) (hen:EnvN A w mb env N):
 Calls Tryd.prog 43 #[.agg #[.string tn,.bool lst,.int .u8 82,.int .i64 num,.string nm,.slice aa args.length ac,.slice ha hn hc,.slice ea en ec],.map (some mb)] w (RsPost ⟨false,(apI num (env (at' args 0)).n (env (at' args 1)).n).1,[]⟩ A w):=by
 have hA:Below w.heap.size w ((w.alloc (.cells #[.string tn,.bool lst,.int .u8 82,.int .i64 num,.string nm,.slice aa args.length ac,.slice ha hn hc,.slice ea en ec] 112)).alloc (.cells #[.bool false,.int .i64 0,.slice none 0 0] 40)):=bel_alloc (bel_alloc (Below.refl _ _))
 have HB:=Lib.hid hA
 have HZ:=Lib.hid (at_new w (.cells #[.string tn,.bool lst,.int .u8 82,.int .i64 num,.string nm,.slice aa args.length ac,.slice ha hn hc,.slice ea en ec] 112) (.cells #[.bool false,.int .i64 0,.slice none 0 0] 40))
 obtain ⟨x0,x1,x2,x3,x4,x5,x6,x7⟩:=cells8 (at_old w (.cells #[.string tn,.bool lst,.int .u8 82,.int .i64 num,.string nm,.slice aa args.length ac,.slice ha hn hc,.slice ea en ec] 112) (.cells #[.bool false,.int .i64 0,.slice none 0 0] 40))
 obtain ⟨b,off,cap,he,hb,_,_,y0,hs0⟩:=(hs.stays (Stays.of_below hA)).at (j:=0) (by omega)
 simp only [Value.slice.injEq] at he
 obtain ⟨rfl,-,rfl⟩:=he
 simp only [Nat.add_zero] at y0
 obtain ⟨m,a0,k0,hm,hg,hv⟩:=hen.find (at' args 0)
 have HM:=Lib.hid (hm.below hA)
 have HG:=Lib.hid hg
 have HV:=Lib.hid hv
 have i0:(0:Int) < (args.length:Int):=by omega
 have i0n:0 < args.length:=by omega
 obtain ⟨b',off',cap',he,hb',_,_,y1,hs1⟩:=(hs.stays (Stays.of_below hA)).at (j:=1) (by omega)
 simp only [Value.slice.injEq,Option.some.injEq,Addr.mk.injEq,and_true] at he
 obtain ⟨⟨rfl,rfl⟩,-,-⟩:=he
 obtain ⟨m',a1,k1,hm',hg',hv'⟩:=hen.find (at' args 1)
 have HM':=Lib.hid (hm'.below hA)
 have HG':=Lib.hid hg'
 have HV':=Lib.hid hv'
 have i1:(1:Int) < (args.length:Int):=by omega
 have i1n:1 < args.length:=by omega
 clear hA hs hen hm hg hv hl hm' hg' hv'
 have fl1:=field_vl1
 have fl2:=field_vl2
 go_enter Tryd.func43,Tryd.ntmps43
 have hw8:IntKind.u8.wrap num=num:=wrap_u8 (by omega)
 have HI:=Lib.hid (apI_in64 num (env (at' args 0)).n (env (at' args 1)).n (by obtain ⟨_,_,_,h,_⟩:=HV.out;exact h))
 obtain ⟨z0,z1,z2⟩:=cells3 HZ.out
 have zf:=unfrozen HZ.out
 go_wp2
 generalize ((w.alloc (.cells #[.string tn,.bool lst,.int .u8 82,.int .i64 num,.string nm,.slice (some ⟨b,off,none⟩) args.length ac,.slice ha hn hc,.slice ea en ec] 112)).alloc (.cells #[.bool false,.int .i64 0,.slice none 0 0] 40))=W at *
 refine wp_region_still_lit (by kernel_rfl) (by kernel_rfl) ?_
 repeat still_step
 refine still_find MVm rfl (.tmp 30) (.tmp 34) false rfl rfl rfl (by exact HM.out) hs0 (by exact HG.out) ?_
 repeat still_step
 refine still_find MVm rfl (.tmp 37) (.tmp 41) false rfl rfl rfl (by exact HM'.out) hs1 (by exact HG'.out) ?_
 repeat still_step
 still_call (show Calls Tryd.prog 55 #[.int .u8 num,.int .i64 (env (at' args 0)).n,.int .i64 (env (at' args 1)).n] W.drew (fun e w''=>e=.returned (.tuple #[.int .i64 (apI num (env (at' args 0)).n (env (at' args 1)).n).1,.int .i64 (apI num (env (at' args 0)).n (env (at' args 1)).n).2])∧w''=W.drew) from (apply_A num (env (at' args 0)).n (env (at' args 1)).n _ hnum).mono (fun e w' h=>⟨h.1,h.2.symm⟩))
 repeat still_step
 refine wpStill_nil ?_
 go_wp2
 (try simp only [Exit.inBlock,Exit.then])
 refine bodyPost_ret (results_cell_row (P:=Tryd.prog) rfl _ _ (w.heap.size+1) _ _ _ _ rfl (set3 (w:=W.drew) HZ.out _ _ _) Tryd.underlying40 rfl (by kernel_rfl)) rfl ?_
 exact ⟨_,rfl,vl_int _ HI.out,bel_sets3 (bel_drew HB.out) (by omega)⟩
theorem rs_head (tn nm:ByteArray) (lst:Bool) (num:Int) (aa ha ea:Option Addr) (ac hn hc en ec:Nat) (args:List ByteArray) (mb N:Nat) (env:VEnv) (A:Nat→Prop) (w:World) (hl:args.length=1) (hne:(env (at' args 0)).l.length≠0) (hs:StrsAt A w (.slice aa args.length ac) args) (hen:EnvN A w mb env N):
 Calls Tryd.prog 43 #[.agg #[.string tn,.bool lst,.int .u8 88,.int .i64 num,.string nm,.slice aa args.length ac,.slice ha hn hc,.slice ea en ec],.map (some mb)] w (RsPost ⟨false,nth (env (at' args 0)).l 0,[]⟩ A w):=by
 have hA:Below w.heap.size w ((w.alloc (.cells #[.string tn,.bool lst,.int .u8 88,.int .i64 num,.string nm,.slice aa args.length ac,.slice ha hn hc,.slice ea en ec] 112)).alloc (.cells #[.bool false,.int .i64 0,.slice none 0 0] 40)):=bel_alloc (bel_alloc (Below.refl _ _))
 have HB:=Lib.hid hA
 have HZ:=Lib.hid (at_new w (.cells #[.string tn,.bool lst,.int .u8 88,.int .i64 num,.string nm,.slice aa args.length ac,.slice ha hn hc,.slice ea en ec] 112) (.cells #[.bool false,.int .i64 0,.slice none 0 0] 40))
 obtain ⟨x0,x1,x2,x3,x4,x5,x6,x7⟩:=cells8 (at_old w (.cells #[.string tn,.bool lst,.int .u8 88,.int .i64 num,.string nm,.slice aa args.length ac,.slice ha hn hc,.slice ea en ec] 112) (.cells #[.bool false,.int .i64 0,.slice none 0 0] 40))
 obtain ⟨b,off,cap,he,hb,_,_,y0,hs0⟩:=(hs.stays (Stays.of_below hA)).at (j:=0) (by omega)
 simp only [Value.slice.injEq] at he
 obtain ⟨rfl,-,rfl⟩:=he
 simp only [Nat.add_zero] at y0
 obtain ⟨m,a0,k0,hm,hg,hv⟩:=hen.find (at' args 0)
 have HM:=Lib.hid (hm.below hA)
 have HG:=Lib.hid hg
 have HV:=Lib.hid hv
 have i0:(0:Int) < (args.length:Int):=by omega
 have i0n:0 < args.length:=by omega
 clear hA hs hen hm hg hv hl
 have fl1:=field_vl1
 have fl2:=field_vl2
 have j0:(0:Int) < ((env (at' args 0)).l.length:Int):=by omega
 have HRW:Hid (RowsAt IntE A w (.slice a0 (env (at' args 0)).l.length k0) (env (at' args 0)).l):=Lib.hid (by
  obtain ⟨a',c',he,_,h⟩:=HV.out
  cases he
  exact h)
 have HRR:=Lib.hid (HRW.out.stays (Stays.of_below HB.out))
 obtain ⟨b1,off1,cap1,he,hb1,hcap,q0,hq⟩:=ints_at HRR.out (j:=0) (by omega)
 simp only [Value.slice.injEq] at he
 obtain ⟨rfl,-,rfl⟩:=he
 simp only [Nat.add_zero] at q0
 go_enter Tryd.func43,Tryd.ntmps43
 go_wp2_with (refine wpl_find MVm rfl (.tmp 72) (.tmp 76) false rfl rfl rfl (by exact HM.out) hs0 (by exact HG.out) ?_)
 (try simp only [Exit.inBlock,Exit.then])
 refine bodyPost_ret (results_cell_row (P:=Tryd.prog) rfl _ _ (w.heap.size+1) _ _ _ _ rfl (at_new w _ _) Tryd.underlying40 rfl (by kernel_rfl)) rfl ?_
 exact ⟨_,rfl,vl_int _ hq,bel_alloc (bel_alloc (Below.refl _ _))⟩
theorem rs_tail (tn nm:ByteArray) (lst:Bool) (num:Int) (aa ha ea:Option Addr) (ac hn hc en ec:Nat) (args:List ByteArray) (mb N:Nat) (env:VEnv) (A:Nat→Prop) (w:World) (hl:args.length=1) (hne:(env (at' args 0)).l.length≠0) (hs:StrsAt A w (.slice aa args.length ac) args) (hen:EnvN A w mb env N):
 Calls Tryd.prog 43 #[.agg #[.string tn,.bool lst,.int .u8 89,.int .i64 num,.string nm,.slice aa args.length ac,.slice ha hn hc,.slice ea en ec],.map (some mb)] w (RsPost ⟨true,0,(env (at' args 0)).l.tail⟩ A w):=by
 have hA:Below w.heap.size w ((w.alloc (.cells #[.string tn,.bool lst,.int .u8 89,.int .i64 num,.string nm,.slice aa args.length ac,.slice ha hn hc,.slice ea en ec] 112)).alloc (.cells #[.bool false,.int .i64 0,.slice none 0 0] 40)):=bel_alloc (bel_alloc (Below.refl _ _))
 have HB:=Lib.hid hA
 have HZ:=Lib.hid (at_new w (.cells #[.string tn,.bool lst,.int .u8 89,.int .i64 num,.string nm,.slice aa args.length ac,.slice ha hn hc,.slice ea en ec] 112) (.cells #[.bool false,.int .i64 0,.slice none 0 0] 40))
 obtain ⟨x0,x1,x2,x3,x4,x5,x6,x7⟩:=cells8 (at_old w (.cells #[.string tn,.bool lst,.int .u8 89,.int .i64 num,.string nm,.slice aa args.length ac,.slice ha hn hc,.slice ea en ec] 112) (.cells #[.bool false,.int .i64 0,.slice none 0 0] 40))
 obtain ⟨b,off,cap,he,hb,_,_,y0,hs0⟩:=(hs.stays (Stays.of_below hA)).at (j:=0) (by omega)
 simp only [Value.slice.injEq] at he
 obtain ⟨rfl,-,rfl⟩:=he
 simp only [Nat.add_zero] at y0
 obtain ⟨m,a0,k0,hm,hg,hv⟩:=hen.find (at' args 0)
 have HM:=Lib.hid (hm.below hA)
 have HG:=Lib.hid hg
 have HV:=Lib.hid hv
 have i0:(0:Int) < (args.length:Int):=by omega
 have i0n:0 < args.length:=by omega
 clear hA hs hen hm hg hv hl
 have fl1:=field_vl1
 have fl2:=field_vl2
 have j0:(0:Int) < ((env (at' args 0)).l.length:Int):=by omega
 have HRW:Hid (RowsAt IntE A w (.slice a0 (env (at' args 0)).l.length k0) (env (at' args 0)).l):=Lib.hid (by
  obtain ⟨a',c',he,_,h⟩:=HV.out
  cases he
  exact h)
 have HRR:=Lib.hid (HRW.out.stays (Stays.of_below HB.out))
 obtain ⟨b1,off1,cap1,he,hb1,hcap,q0,hq⟩:=ints_at HRR.out (j:=0) (by omega)
 simp only [Value.slice.injEq] at he
 obtain ⟨rfl,-,rfl⟩:=he
 simp only [Nat.add_zero] at q0
 have HT:=Lib.hid (ints_tail HRW.out (by omega))
 go_enter Tryd.func43,Tryd.ntmps43
 go_wp2_with (refine wpl_find MVm rfl (.tmp 84) (.tmp 88) false rfl rfl rfl (by exact HM.out) hs0 (by exact HG.out) ?_)
 all_goals
  (try simp only [Exit.inBlock,Exit.then])
  refine bodyPost_ret (results_cell_row (P:=Tryd.prog) rfl _ _ (w.heap.size+1) _ _ _ _ rfl (at_new w _ _) Tryd.underlying40 rfl (by kernel_rfl)) rfl ?_
  have ht:(env (at' args 0)).l.tail.length=(env (at' args 0)).l.length - 1:=by simp
  refine ⟨_,rfl,⟨_,_,by rw [ht],in64_0,?_⟩,bel_alloc (bel_alloc (Below.refl _ _))⟩
 · exact ints_none (by rw [ht];omega)
 · show RowsAt IntE (NewB A w) _ (.slice _ (env (at' args 0)).l.tail.length _) (env (at' args 0)).l.tail
   rw [ht]
   exact HT.out.stays (stays_newB (bel_alloc (bel_alloc (Below.refl _ _))))
theorem rs_null (tn nm:ByteArray) (lst:Bool) (num:Int) (aa ha ea:Option Addr) (ac hn hc en ec:Nat) (args:List ByteArray) (mb N:Nat) (env:VEnv) (A:Nat→Prop) (w:World) (hl:args.length=1) (x:Vl) (hxe:x=if (env (at' args 0)).l.length=0 then ⟨false,1,[]⟩ else noVl) (hs:StrsAt A w (.slice aa args.length ac) args) (hen:EnvN A w mb env N):
 Calls Tryd.prog 43 #[.agg #[.string tn,.bool lst,.int .u8 90,.int .i64 num,.string nm,.slice aa args.length ac,.slice ha hn hc,.slice ea en ec],.map (some mb)] w (RsPost x A w):=by
 have hA:Below w.heap.size w ((w.alloc (.cells #[.string tn,.bool lst,.int .u8 90,.int .i64 num,.string nm,.slice aa args.length ac,.slice ha hn hc,.slice ea en ec] 112)).alloc (.cells #[.bool false,.int .i64 0,.slice none 0 0] 40)):=bel_alloc (bel_alloc (Below.refl _ _))
 have HB:=Lib.hid hA
 have HZ:=Lib.hid (at_new w (.cells #[.string tn,.bool lst,.int .u8 90,.int .i64 num,.string nm,.slice aa args.length ac,.slice ha hn hc,.slice ea en ec] 112) (.cells #[.bool false,.int .i64 0,.slice none 0 0] 40))
 obtain ⟨x0,x1,x2,x3,x4,x5,x6,x7⟩:=cells8 (at_old w (.cells #[.string tn,.bool lst,.int .u8 90,.int .i64 num,.string nm,.slice aa args.length ac,.slice ha hn hc,.slice ea en ec] 112) (.cells #[.bool false,.int .i64 0,.slice none 0 0] 40))
 obtain ⟨b,off,cap,he,hb,_,_,y0,hs0⟩:=(hs.stays (Stays.of_below hA)).at (j:=0) (by omega)
 simp only [Value.slice.injEq] at he
 obtain ⟨rfl,-,rfl⟩:=he
 simp only [Nat.add_zero] at y0
 obtain ⟨m,a0,k0,hm,hg,hv⟩:=hen.find (at' args 0)
 have HM:=Lib.hid (hm.below hA)
 have HG:=Lib.hid hg
 have HV:=Lib.hid hv
 have i0:(0:Int) < (args.length:Int):=by omega
 have i0n:0 < args.length:=by omega
 clear hA hs hen hm hg hv hl
 have fl1:=field_vl1
 have fl2:=field_vl2
 by_cases h0:(env (at' args 0)).l.length=0
 · have d0:(((env (at' args 0)).l.length:Int) == 0)=true:=by simp [h0]
   have HE:Hid (x=⟨false,1,[]⟩):=Lib.hid (by rw [hxe,if_pos h0])
   clear h0 hxe
   go_enter Tryd.func43,Tryd.ntmps43
   go_wp2_with (refine wpl_find MVm rfl (.tmp 95) (.tmp 99) false rfl rfl rfl (by exact HM.out) hs0 (by exact HG.out) ?_)
   (try simp only [Exit.inBlock,Exit.then])
   refine bodyPost_ret (results_cell_row (P:=Tryd.prog) rfl _ _ (w.heap.size+1) _ _ _ _ rfl (at_new w _ _) Tryd.underlying40 rfl (by kernel_rfl)) rfl ?_
   rw [HE.out]
   exact ⟨_,rfl,vl_int _ (by unfold In64;omega),bel_alloc (bel_alloc (Below.refl _ _))⟩
 · have d0:(((env (at' args 0)).l.length:Int) == 0)=false:=by simp [h0]
   have HE:Hid (x=noVl):=Lib.hid (by rw [hxe,if_neg h0])
   clear h0 hxe
   go_enter Tryd.func43,Tryd.ntmps43
   go_wp2_with (refine wpl_find MVm rfl (.tmp 95) (.tmp 99) false rfl rfl rfl (by exact HM.out) hs0 (by exact HG.out) ?_)
   (try simp only [Exit.inBlock,Exit.then])
   refine bodyPost_ret (results_cell_row (P:=Tryd.prog) rfl _ _ (w.heap.size+1) _ _ _ _ rfl (at_new w _ _) Tryd.underlying40 rfl (by kernel_rfl)) rfl ?_
   rw [HE.out]
   exact ⟨_,rfl,vl_no _,bel_alloc (bel_alloc (Below.refl _ _))⟩
theorem rs_cons (tn nm:ByteArray) (lst:Bool) (num:Int) (aa ha ea:Option Addr) (ac hn hc en ec:Nat) (args:List ByteArray) (mb N:Nat) (env:VEnv) (A:Nat→Prop) (w:World) (hl:args.length=2) (hsl:(env (at' args 1)).l.length≤100000) (hs:StrsAt A w (.slice aa args.length ac) args) (hen:EnvN A w mb env N):
 Calls Tryd.prog 43 #[.agg #[.string tn,.bool lst,.int .u8 87,.int .i64 num,.string nm,.slice aa args.length ac,.slice ha hn hc,.slice ea en ec],.map (some mb)] w (RsPost ⟨true,0,(env (at' args 0)).n :: (env (at' args 1)).l⟩ A w):=by
 have hA:Below w.heap.size w ((w.alloc (.cells #[.string tn,.bool lst,.int .u8 87,.int .i64 num,.string nm,.slice aa args.length ac,.slice ha hn hc,.slice ea en ec] 112)).alloc (.cells #[.bool false,.int .i64 0,.slice none 0 0] 40)):=bel_alloc (bel_alloc (Below.refl _ _))
 have HB:=Lib.hid hA
 have HZ:=Lib.hid (at_new w (.cells #[.string tn,.bool lst,.int .u8 87,.int .i64 num,.string nm,.slice aa args.length ac,.slice ha hn hc,.slice ea en ec] 112) (.cells #[.bool false,.int .i64 0,.slice none 0 0] 40))
 obtain ⟨x0,x1,x2,x3,x4,x5,x6,x7⟩:=cells8 (at_old w (.cells #[.string tn,.bool lst,.int .u8 87,.int .i64 num,.string nm,.slice aa args.length ac,.slice ha hn hc,.slice ea en ec] 112) (.cells #[.bool false,.int .i64 0,.slice none 0 0] 40))
 obtain ⟨b,off,cap,he,hb,_,_,y0,hs0⟩:=(hs.stays (Stays.of_below hA)).at (j:=0) (by omega)
 simp only [Value.slice.injEq] at he
 obtain ⟨rfl,-,rfl⟩:=he
 simp only [Nat.add_zero] at y0
 obtain ⟨m,a0,k0,hm,hg,hv⟩:=hen.find (at' args 0)
 have HM:=Lib.hid (hm.below hA)
 have HG:=Lib.hid hg
 have HV:=Lib.hid hv
 have i0:(0:Int) < (args.length:Int):=by omega
 have i0n:0 < args.length:=by omega
 obtain ⟨b',off',cap',he,hb',_,_,y1,hs1⟩:=(hs.stays (Stays.of_below hA)).at (j:=1) (by omega)
 simp only [Value.slice.injEq,Option.some.injEq,Addr.mk.injEq,and_true] at he
 obtain ⟨⟨rfl,rfl⟩,-,-⟩:=he
 obtain ⟨m',a1,k1,hm',hg',hv'⟩:=hen.find (at' args 1)
 have HM':=Lib.hid (hm'.below hA)
 have HG':=Lib.hid hg'
 have HV':=Lib.hid hv'
 have i1:(1:Int) < (args.length:Int):=by omega
 have i1n:1 < args.length:=by omega
 clear hA hs hen hm hg hv hl hm' hg' hv'
 have fl1:=field_vl1
 have fl2:=field_vl2
 go_enter Tryd.func43,Tryd.ntmps43
 have hn0:In64 (env (at' args 0)).n:=by obtain ⟨_,_,_,h,_⟩:=HV.out;exact h
 have HR1:Hid (RowsAt IntE (fun j=>A j∧j < w.heap.size) ((w.alloc (.cells #[.string tn,.bool lst,.int .u8 87,.int .i64 num,.string nm,.slice (some ⟨b,off,none⟩) args.length ac,.slice ha hn hc,.slice ea en ec] 112)).alloc (.cells #[.bool false,.int .i64 0,.slice none 0 0] 40)) (.slice a1 (env (at' args 1)).l.length k1) (env (at' args 1)).l):=Lib.hid (by
  obtain ⟨a',c',he,_,h⟩:=HV'.out
  cases he
  exact h.stays ⟨HB.out.size,fun j hj a=>⟨HB.out.block j hj,a,hj⟩⟩)
 have HSZ:Hid (((w.alloc (.cells #[.string tn,.bool lst,.int .u8 87,.int .i64 num,.string nm,.slice (some ⟨b,off,none⟩) args.length ac,.slice ha hn hc,.slice ea en ec] 112)).alloc (.cells #[.bool false,.int .i64 0,.slice none 0 0] 40)).heap.size=w.heap.size+2):=Lib.hid (by simp)
 go_wp2
 generalize ((w.alloc (.cells #[.string tn,.bool lst,.int .u8 87,.int .i64 num,.string nm,.slice (some ⟨b,off,none⟩) args.length ac,.slice ha hn hc,.slice ea en ec] 112)).alloc (.cells #[.bool false,.int .i64 0,.slice none 0 0] 40))=W at *
 refine wp_region_still_lit (by kernel_rfl) (by kernel_rfl) ?_
 repeat still_step
 refine still_find MVm rfl (.tmp 51) (.tmp 55) false rfl rfl rfl (by exact HM.out) hs0 (by exact HG.out) ?_
 repeat still_step
 refine still_find MVm rfl (.tmp 58) (.tmp 62) false rfl rfl rfl (by exact HM'.out) hs1 (by exact HG'.out) ?_
 repeat still_step
 refine wpStill_nil ?_
 go_upto_region 11 with fail
 go_wp2_with (at_builtin;refine wpl_rows (E:=IntE) (D:=fun j=>(A j∧j < w.heap.size)∨W.heap.size≤j) (D':=fun j=>A j∧j < w.heap.size) (base:=W.heap.size) (v:=.slice (some ⟨W.heap.size,0,none⟩) 1 1) (l:=[(env (at' args 0)).n]) (m:=(env (at' args 1)).l) TInt rfl (by decide) rfl (.tmp 66) (.tmp 67) rfl rfl rfl (own_int1 (by (repeat (with_reducible first|(refine blk_new ?_;(simp;done))|(refine blk_new ?_;rfl)|refine blk_drew ?_|refine blk_alloc ?_|(apply blk_below;focus assumption)))) (Nat.le_refl _) hn0) (HR1.out.stays (Stays.of_below (by (repeat (with_reducible first|exact Below.refl _ _|refine bel_drew ?_|refine bel_alloc ?_|(apply bel_step;focus assumption)))))) (fun b _ hb2=>⟨.inl hb2,fun e=>by simp [Value.ownBlock] at e;have:=HSZ.out;omega⟩) (by unfold maxLen;simp;omega) (by simp;omega) (by simp) ?_;intro a2 c2 w4 h4 hg4 hn4;have hz4:w4.heap[w.heap.size+1]?=some (.cells #[.bool false,.int .i64 0,.slice none 0 0] 40 (0,0)):=(hg4.block (w.heap.size+1) (by have:=HSZ.out;simp;omega) (fun e=>by simp [Value.ownBlock] at e;have:=HSZ.out;omega)).trans (by (repeat (with_reducible first|exact HZ.out|(refine blk_new ?_;(simp;done))|refine blk_drew ?_|refine blk_alloc ?_|(apply blk_below;focus assumption))));obtain ⟨z0,z1,z2⟩:=cells3 hz4;have zf:=unfrozen hz4;have HZ4:=Lib.hid hz4;have hb4:Below W.heap.size W w4:=Below.grown (by (repeat (with_reducible first|exact Below.refl _ _|refine bel_drew ?_|refine bel_alloc ?_|(apply bel_step;focus assumption)))) hg4 (by simp) (fun k e=>by simp [Value.ownBlock] at e;omega);have HB4:=Lib.hid hb4;have H4:=Lib.hid h4;clear h4 hg4 hn4 hz4 hb4)
 (try simp only [Exit.inBlock,Exit.then])
 refine bodyPost_ret (results_cell_row (P:=Tryd.prog) rfl _ _ (w.heap.size+1) _ _ _ _ rfl (set3 HZ4.out _ _ _) Tryd.underlying40 rfl (by kernel_rfl)) rfl ?_
 have hsz:=HSZ.out
 have hB4:Below w.heap.size w w4:=HB.out.trans (HB4.out.mono HB.out.size)
 have hlen:[(env (at' args 0)).n].length+(env (at' args 1)).l.length=((env (at' args 0)).n :: (env (at' args 1)).l).length:=by simp;omega
 have h4:=H4.out
 have hsh:=(h4.shut (A:=fun j=>(A j∧j < w.heap.size)∨W.heap.size≤j) (fun j d=>d) (fun j e=>.inr (h4.lt e).1) (by unfold maxLen;simp;omega)).stays (stays_keep (keeps_set3 w4 (w.heap.size+1) (.bool true) (.int .i64 0) (.slice a2 (1+(env (at' args 1)).l.length) c2)) (fun k hk _=>by rcases hk with hk|hk <;> omega))
 refine ⟨_,rfl,⟨a2,c2,by simp [Nat.add_comm],in64_0,?_⟩,bel_sets3 hB4 (by omega)⟩
 rw [hlen] at hsh
 exact hsh.young (fun k _ hk=>by
  rcases hk with hk|hk
  · exact .inl hk.1
  · exact .inr (by omega))
theorem result_any (tn nm:ByteArray) (lst:Bool) (op num:Int) (aa ha ea:Option Addr) (ac hn hc en ec:Nat) (args:List ByteArray) (mb N:Nat) (env:VEnv) (A:Nat→Prop) (w:World) (x:Vl) (hx:resultB apI op num lst args env=some x) (hi:In64 num)
 (hg:op=80∨op=81∧args.length=1∨op=82∧(8≤num∧num≤23)∧args.length=2∨op=86∨op=87∧args.length=2∨(op=88∨op=89∨op=90)∧args.length=1) (hsl:LenE env 100000) (hs:StrsAt A w (.slice aa args.length ac) args) (hen:EnvN A w mb env N):
 Calls Tryd.prog 43 #[.agg #[.string tn,.bool lst,.int .u8 op,.int .i64 num,.string nm,.slice aa args.length ac,.slice ha hn hc,.slice ea en ec],.map (some mb)] w (RsPost x A w):=by
 unfold resultB at hx
 rcases hg with rfl|⟨rfl,hl⟩|⟨rfl,hnum,hl⟩|rfl|⟨rfl,hl⟩|⟨rfl|rfl|rfl,hl⟩
 · simp at hx;subst hx
   exact rs_num tn nm lst num aa ha ea ac hn hc en ec args mb N env A w hi hs hen
 · simp at hx;subst hx
   exact rs_var tn nm lst num aa ha ea ac hn hc en ec args mb N env A w hl hs hen
 · simp at hx;subst hx
   exact rs_op tn nm lst num aa ha ea ac hn hc en ec args mb N env A w hl hnum hs hen
 · simp at hx;subst hx
   exact rs_nil tn nm lst num aa ha ea ac hn hc en ec args mb N env A w hs hen
 · simp at hx;subst hx
   exact rs_cons tn nm lst num aa ha ea ac hn hc en ec args mb N env A w hl (hsl _) hs hen
 · simp at hx
   obtain ⟨hne,rfl⟩:=hx
   exact rs_head tn nm lst num aa ha ea ac hn hc en ec args mb N env A w hl (by intro h;exact hne (by simpa using h)) hs hen
 · simp at hx
   obtain ⟨hne,rfl⟩:=hx
   exact rs_tail tn nm lst num aa ha ea ac hn hc en ec args mb N env A w hl (by intro h;exact hne (by simpa using h)) hs hen
 · simp at hx
   exact rs_null tn nm lst num aa ha ea ac hn hc en ec args mb N env A w hl x (by rw [← hx];simp) hs hen
end Go.Proofs.YtjhimhlebbamoaaDoor
