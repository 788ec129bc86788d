/- Contracts and plain lemmas (WkV, WkW, WkY): no statement of the seat is proved here. -/
import Derived.Test.YtpobmoegmdhbpaaGreatDoorXw1
import Derived.Test.YtpobmoegmdhbpaaGreatDoorXq13
import Derived.RangeFuncCalls
import Derived.Shelf.RegionOpen
import Derived.WalkKit
import Derived.OwnWalkIn
import Derived.TacticsInMore
import Derived.LoopNIn
import Derived.LoopIn
import Derived.Stop.RegionWithIn
import Derived.Sort.CutIn
set_option linter.unusedSimpArgs false
set_option linter.unusedVariables false
set_option linter.unusedSectionVars false
set_option maxRecDepth 100000
set_option maxHeartbeats 6400000
namespace Go.Proofs.YtpobmoegmdhbpaaGreatDoor
open Go.RowKit Go.Shelf
attribute [local go_sem] Oper.semAt_some
theorem KM.blk {n0:Nat} {M:World→Nat→Prop} {W W':World} (h:KM n0 M W W') {b:Nat} {o:Obj} (ho:W.heap[b]?=some o) (hm:¬ M W b):W'.heap[b]?=some o:=
 (h.2 b (Array.getElem?_eq_some_iff.1 ho).1 hm).1.trans ho
theorem zlP {l Y P V n0:Nat} {J:List Nd→World→Prop} {M:World→Nat→Prop} {XS:List Nd}
 (hY:∀ pre (x:Hand) W1,J pre W1→NdAt (fun b=>b≠l) W1 (ndV x) x.2.1→pre ++ [x.2.1] <+:XS→YieldAt Fence.wide 9 Tryz.prog l (hands x) W1 fun e W'=>e=.returned (.bool true)∧J (pre ++ [x.2.1]) W'∧KM n0 M W1 W') (m:Nat):
 ∀ (n:Nd) (v:Value) (A:Nat→Prop) (W:World) (pre:List Nd) (d:Nat),sizeN n≤m→sizeN n≤100000→d+sizeN n≤1000000→l < W.heap.size→VS l Y P V n0 A J M pre d W→NdAt A W v n→pre ++ preN n <+:XS→
   CallsIn Fence.wide 9 Tryz.prog 178 #[v,.pointer (some ⟨Y,0,none⟩),.pointer (some ⟨P,0,none⟩),.pointer (some ⟨V,0,none⟩)] W fun e W'=>e=.returned (.bool true)∧VS l Y P V n0 A J M (pre ++ preN n) d W'∧KM n0 (Oth P M) W W':=by
 induction m with
 | zero=>intro n v A W pre d hm;have:=zaH n;omega
 | succ m ih=>
   intro n v A W pre d hm h1 h2 hlW hvs hv hpx
   have HPX:=Lib.hid hpx
   have hp1:pre ++ [n] <+:XS:=by have:=zlE 0 hpx;rwa [List.take_zero,preL] at this
   have IH:=Lib.hid ih
   have HY:=Lib.hid hY
   clear ih hY
   obtain ⟨hok,hlen,ka,kc,rfl,hk⟩:=hv.open
   have HSZ:Hid (∀ j,j < n.kids.length→sizeN (at' n.kids j)≤m∧sizeN (at' n.kids j)≤100000∧(d+1)+sizeN (at' n.kids j)≤1000000):=Lib.hid (fun j hj=>by have:=zaC n j hj;omega)
   have hln:n.kids.length≤100000:=by
    have h1:=zer n.kids
    have h2:=zbd n
    omega
   have hd:d≤1000000:=by omega
   obtain ⟨W1,hW1⟩:∃ W1,W1=W.alloc (.cells #[.int .u8 n.kind,.int .i64 n.num,.string n.name,.slice ka n.kids.length kc] 34):=⟨_,rfl⟩
   have hA1:Below W.heap.size W W1:=by subst hW1;exact (Below.refl _ _).alloc (Nat.le_refl _) _
   have hbx:W1.heap[W.heap.size]?=some (.cells #[.int .u8 n.kind,.int .i64 n.num,.string n.name,.slice ka n.kids.length kc] 34 (0,0)):=by subst hW1;exact zah _ _
   obtain ⟨hvs1,hkm1,hoth⟩:=hvs.new hA1
   have hnb:¬ Oth P M W1 W.heap.size:=fun e=>by have:=Oth.lt hvs (hoth _ e);omega
   have hvs1':=hvs1.more (B:=W.heap.size) (Array.getElem?_eq_some_iff.1 hbx).1 hnb
   have HK:=Lib.hid (hv.stays (A':=fun b=>A b∨b=W.heap.size) ⟨hA1.size,fun b hb ha=>⟨hA1.block b hb,.inl ha⟩⟩)
   have HVS:=Lib.hid hvs1'
   have HBX:=Lib.hid hbx
   have HNB:=Lib.hid hnb
   have HKM1:=Lib.hid hkm1
   have HA1S:Hid (W.heap.size≤W1.heap.size):=Lib.hid hA1.size
   have HLE:Hid (∀ b,A b→A b∨b=W.heap.size):=Lib.hid (fun b h=>.inl h)
   obtain ⟨pv,xs,hp,ho,hxd⟩:=hvs1'.p
   have HCP:Hid (∀ w1,Below W1.heap.size W1 w1→Calls Tryz.prog 53 #[pv] w1 fun e w'=>∃ v',e=.returned v'∧Below w1.heap.size w1 w'):=Lib.hid (fun w1 h=>clonePath pv xs w1 (ho.ints.below h) (by omega))
   have HCN:Hid (∀ w1,Below W1.heap.size W1 w1→Calls Tryz.prog 176 #[.agg #[.int .u8 n.kind,.int .i64 n.num,.string n.name,.slice ka n.kids.length kc]] w1 fun e w'=>∃ xa xc,e=.returned (.agg #[.int .u8 n.kind,.int .i64 n.num,.string n.name,.slice xa n.kids.length xc])∧NdAt (fun b=>b≠l) w' (.agg #[.int .u8 n.kind,.int .i64 n.num,.string n.name,.slice xa n.kids.length xc]) n∧Below w1.heap.size w1 w'):=
    Lib.hid (fun w1 h=>(zcn n _ _ w1 h1 (HK.out.stays (Stays.of_below h))).mono fun e w' ⟨xa,xc,he,hn,hb⟩=>⟨xa,xc,he,hn.stays ⟨Nat.le_refl _,fun b _ ha=>⟨rfl,fun e=>by
     have q1:w1.heap.size≤b:=ha
     have q2:=h.size
     have q3:=hA1.size
     omega⟩⟩,hb⟩)
   have HX:Hid (∀ w1,Below W1.heap.size W1 w1→w1.cell? ⟨Y,0,none⟩=some (.func (.yield l) #[] #[])∧w1.cell? ⟨P,0,none⟩=some pv∧(w1.cell? ⟨W.heap.size,0,none⟩=some (.int .u8 n.kind)∧w1.cell? ⟨W.heap.size,1,none⟩=some (.int .i64 n.num)∧w1.cell? ⟨W.heap.size,2,none⟩=some (.string n.name)∧w1.cell? ⟨W.heap.size,3,none⟩=some (.slice ka n.kids.length kc))):=
    Lib.hid (fun w1 h=>⟨zae (zad h hvs1'.y) 0 rfl,zae (zad h hp) 0 rfl,cells4 (zad h hbx)⟩)
   have HRD:Hid (∀ v' xa xc w3,Below W1.heap.size W1 w3→NdAt (fun b=>b≠l) w3 (.agg #[.int .u8 n.kind,.int .i64 n.num,.string n.name,.slice xa n.kids.length xc]) n→YieldAt Fence.wide 9 Tryz.prog l #[v',.agg #[.int .u8 n.kind,.int .i64 n.num,.string n.name,.slice xa n.kids.length xc]] w3 fun e W'=>e=.returned (.bool true)∧VS l Y P V n0 (fun b=>A b∨b=W.heap.size) J M (pre ++ [n]) d W'∧KM n0 (Oth P M) W1 W'):=
    Lib.hid (fun v' xa xc w3 h hn=>by
     obtain ⟨hv3,hk3,_⟩:=hvs1'.new h
     exact zjD (HY.out pre (v',n,xa,xc) w3 hv3.j hn hp1) (fun e w' ⟨he,hj,hk⟩=>by
      obtain ⟨a,b⟩:=hv3.round hj hk
      exact ⟨he,a,hk3.trans b⟩))
   obtain ⟨cY,cP,c0,c1,c2,c3⟩:=HX.out W1 (Below.refl _ _)
   clear hpx hp1 hv hk hok hm h1 h2 hvs hvs1 hkm1 hoth hnb hvs1' hbx hp ho hxd hA1
   refine callsIn_of_wp Tryz.func178 rfl trivial ?_ rfl
   simp only [Tryz.ntmps178,List.size_toArray,List.length_cons,List.length_nil,Nat.reduceAdd,Nat.reduceSub,Array.replicate_succ,Array.replicate_zero,List.push_toArray,List.append_toArray,List.nil_append,List.cons_append]
   gi_upto_region 1 with fail
   rw [← hW1]
   clear hW1
   gi_cut [14] from 37 (fun s w'=>s=.bool false∧VS l Y P V n0 (fun b=>A b∨b=W.heap.size) J M (pre ++ [n]) d w'∧KM n0 (Oth P M) W1 w')
   case first=>
    gi_region_with (first
     | (refine ⟨trivial,?_⟩;gi_at_call 53;refine (callsIn_wide.2 (HCP.out _ (by (repeat (with_reducible first|exact Below.refl _ _|refine zab ?_|refine zaa ?_|(apply zac;focus assumption)))))).mono ?_;rintro e w2 ⟨v',rfl,hb2⟩;have hB2:Below W1.heap.size W1 w2:=(by (repeat (with_reducible first|exact Below.refl _ _|refine zab ?_|refine zaa ?_|(apply zac;focus assumption))));obtain ⟨cY,cP,c0,c1,c2,c3⟩:=HX.out w2 hB2)
     | (refine ⟨trivial,?_⟩;gi_at_call 176;refine (callsIn_wide.2 (HCN.out _ (by (repeat (with_reducible first|exact Below.refl _ _|refine zab ?_|refine zaa ?_|(apply zac;focus assumption)))))).mono ?_;rintro e w3 ⟨xa,xc,rfl,hn3,hb3⟩;have hB3:Below W1.heap.size W1 w3:=(by (repeat (with_reducible first|exact Below.refl _ _|refine zab ?_|refine zaa ?_|(apply zac;focus assumption))));obtain ⟨cY,cP,c0,c1,c2,c3⟩:=HX.out w3 hB3;obtain ⟨fn,tmps,assign,body,hy,hR⟩:=HRD.out v' xa xc w3 hB3 hn3;clear hn3)
     | (refine (zke hR).mono ?_;rintro e w4 ⟨rfl,hv4,hk4⟩))
    all_goals (gi_wp2_with fail;gi_meet;exact ⟨rfl,hv4,hk4⟩)
   case rest=>
    obtain ⟨rfl,hvs2,hkm2⟩:=hcut
    clear cY cP c0 c1 c2 c3
    have HN1:Hid (W1.heap.size≤W1.heap.size):=Lib.hid (Nat.le_refl _)
    obtain ⟨c0,c1,c2,c3⟩:=cells4 (hkm2.blk HBX.out HNB.out)
    have HV2:=Lib.hid hvs2
    have HK2:=Lib.hid hkm2
    clear hvs2 hkm2 HX HCN HCP HRD
    gi_wp2_with fail
    gi_loopw [18] (fun i wr=>∃ k:Nat,i=.int .i64 k∧k≤n.kids.length∧VS l Y P V n0 (fun b=>A b∨b=W.heap.size) J M (pre ++ n :: preL (n.kids.take k)) d wr∧KM n0 (Oth P M) W1 wr) (fun i _=>n.kids.length - (intOf i).toNat)
    case atStart=>exact ⟨0,rfl,Nat.zero_le _,by rw [List.take_zero,preL];exact HV2.out,HK2.out⟩
    case round=>
     obtain ⟨k,rfl,hk,hvr,hkr⟩:=hrel
     clear c0 c1 c2 c3
     by_cases hlt:k < n.kids.length
     · obtain ⟨-,-,ka',kc',he1,hkk⟩:=(HK.out.stays (HVS.out.stays hkr)).open
       simp only [Value.agg.injEq,Array.mk.injEq,List.cons.injEq,Value.slice.injEq,true_and,and_true] at he1
       obtain ⟨rfl,rfl⟩:=he1
       obtain ⟨b,off,cap,kb,kd,he,hb,_,hAb,c0,c1,c2,c3,hnd⟩:=hkk.at hlt
       simp only [Value.slice.injEq] at he
       obtain ⟨rfl,-,rfl⟩:=he
       obtain ⟨X1,hX1⟩:∃ X1,X1=wr.alloc (.cells #[.int .u8 (at' n.kids k).kind,.int .i64 (at' n.kids k).num,.string (at' n.kids k).name,.slice kb (at' n.kids k).kids.length kd] 34):=⟨_,rfl⟩
       have hXb:Below wr.heap.size wr X1:=by subst hX1;exact zaa (Below.refl _ _)
       have hkb:X1.heap[wr.heap.size]?=some (.cells #[.int .u8 (at' n.kids k).kind,.int .i64 (at' n.kids k).num,.string (at' n.kids k).name,.slice kb (at' n.kids k).kids.length kd] 34 (0,0)):=by subst hX1;exact zah _ _
       obtain ⟨hvx,hkx,hox⟩:=hvr.new hXb
       have hnk:¬ Oth P M X1 wr.heap.size:=fun e=>by have:=Oth.lt hvr (hox _ e);omega
       have hvx':=hvx.more (B:=wr.heap.size) (Array.getElem?_eq_some_iff.1 hkb).1 hnk
       obtain ⟨pv,xs,hpr,hor,hxd⟩:=hvr.p
       have hp:=zad hXb hpr
       have ho:=hor.below hXb
       have hndx:=(hnd.stays (Stays.of_below hXb)).stays (A':=fun b=>(A b∨b=W.heap.size)∨b=wr.heap.size) ⟨Nat.le_refl _,fun _ _ a=>⟨rfl,.inl a⟩⟩
       have cP:=zae hp 0 rfl
       rw [hX1] at cP
       have HVX:=Lib.hid hvx'
       have HKX:=Lib.hid (hkr.trans hkx)
       have HKB:=Lib.hid hkb
       have HNK:=Lib.hid hnk
       have HOW:=Lib.hid ho
       have HPP:=Lib.hid hp
       have HLW:Hid (l < wr.heap.size):=Lib.hid (Nat.lt_of_lt_of_le hlW (Nat.le_trans HA1S.out hkr.1.size))
       have HXS:Hid (X1.heap.size=wr.heap.size+1):=Lib.hid (by rw [hX1];simp)
       have HND:=Lib.hid hndx
       have HTK:Hid (pre ++ n :: preL (n.kids.take k) ++ preN (at' n.kids k)=pre ++ n :: preL (n.kids.take (k+1))):=Lib.hid (by rw [zlI hlt];simp)
       have i1:(0:Int)≤(k:Int):=by omega
       have i2:(k:Int) < (n.kids.length:Int):=by omega
       have PX:P < X1.heap.size:=(Array.getElem?_eq_some_iff.1 hp).1
       have hnb2:n0≤X1.heap.size:=by have:=hvx'.nP;omega
       clear hkr hvr hvx hvx' hkx hox hnk hp ho hpr hor hnd hndx hkk hkb hXb hAb hb
       gi_upto_region 7 with (gi_at_builtin;rw [← hX1];refine zhq TIntP rfl (.tmp 23) (.tmp 25) rfl rfl (by rw [HXS.out];rfl) HOW.out (by omega) (by omega) hnb2 ?_;intro v' w1 hown hg hn;obtain ⟨a',c',rfl⟩:=hown.form;have hpush:=HVX.out.push HPP.out HOW.out hg hown hn;have HPU:=Lib.hid hpush;have HP1:Hid (w1.heap[P]?=some (.cells #[pv] 45 (0,0))):=Lib.hid ((hg.block P PX (fun e=>(HVX.out.oO _ _ _ _ HPP.out e.symm).2 rfl)).trans HPP.out);have cP1:=zae HP1.out 0 rfl;have fP1:=unfrozen HP1.out 0;clear hpush hown hg hn)
       obtain ⟨hvp,hkp⟩:=HPU.out
       have hxl:(xs ++ [(k:Int)]).length=d+1:=by simp [hxd]
       rw [hxl] at hvp hkp
       have hkb2:=hkp.blk HKB.out HNK.out
       have hv2:=hvp.v
       have hnd2:=HND.out.stays (HVX.out.stays hkp)
       have hvp0:wr.heap.size≤(w1.setCell ⟨P,0,none⟩ (.slice a' (d+1) c')).heap.size:=Nat.le_trans (by have:=HXS.out;omega) hkp.1.size
       have HVP:=Lib.hid hvp
       have HKP:=Lib.hid (HKX.out.trans hkp)
       have HIH:=Lib.hid (IH.out (at' n.kids k) _ _ _ (pre ++ n :: preL (n.kids.take k)) (d+1) (HSZ.out k hlt).1 (HSZ.out k hlt).2.1 (HSZ.out k hlt).2.2 (Nat.lt_of_lt_of_le HLW.out hvp0) hvp hnd2 (by rw [HTK.out];exact zlE _ HPX.out))
       clear hvp0
       have hkm7:=HKP.out
       generalize w1.setCell ⟨P,0,none⟩ (.slice a' (xs ++ [(k:Int)]).length c')=W2 at *
       obtain ⟨b0,b1,b2,b3⟩:=cells4 hkb2
       have cV:=zae hv2 0 rfl
       clear hvp hkp hkb2 hv2 hnd2 hkm7
       gi_wp2_with (first
        | (refine ⟨trivial,?_⟩;gi_at_call 178;refine (callsIn_wide.2 (callsIn_wide.1 HIH.out)).mono ?_;rintro e w5 ⟨rfl,hv5,hk5⟩;obtain ⟨g5,q5,xs5,hp5,ho5,hq5,hl5⟩:=hv5.form;have c5:=zae hp5 0 rfl;have f5:=unfrozen hp5 0))
       obtain ⟨hv6,hk6⟩:=hv5.pop hp5 ho5 hl5
       rw [HTK.out] at hv6
       exact ⟨⟨k+1,by go_num,by omega,hv6.less (fun b h=>.inl h),(HKP.out.trans hk5).trans hk6⟩,by simp [intOf];omega⟩
     · obtain rfl:k=n.kids.length:=by omega
       have hlt':¬ (n.kids.length:Int) < (n.kids.length:Int):=by omega
       rw [List.take_length] at hvr
       gi_wp2_with fail
       go_ret
       rw [zly]
       exact ⟨rfl,hvr.less HLE.out,HKM1.out.trans hkr⟩
end Go.Proofs.YtpobmoegmdhbpaaGreatDoor
namespace Go.Proofs.YtpobmoegmdhbpaaGreatDoor
open Go.RowKit Go.Shelf
attribute [local go_sem] Oper.semAt_some
theorem VS.start {l n0:Nat} {A:Nat→Prop} {J:List Nd→World→Prop} {M:World→Nat→Prop} {W W4:World} (hJM:JM n0 J M) (hn0:n0≤W.heap.size) (hJ:J [] W) (hb:Below W.heap.size W W4) (hA:∀ b,A b→b < W.heap.size∧¬ M W b)
 (hY:W4.heap[W.heap.size]?=some (.cells #[.func (.yield l) #[] #[]] 244 (0,0)))
 (hP:W4.heap[W.heap.size+1]?=some (.cells #[.slice none 0 0] 45 (0,0)))
 (hV:W4.heap[W.heap.size+1+1]?=some (.cells #[.func (.func 178) #[] #[.pointer (some ⟨W.heap.size,0,none⟩),.pointer (some ⟨W.heap.size+1,0,none⟩),.pointer (some ⟨W.heap.size+1+1,0,none⟩)]] 140 (0,0))):
 VS l W.heap.size (W.heap.size+1) (W.heap.size+1+1) n0 A J M [] 0 W4:=by
 obtain ⟨hj4,hm4⟩:=hJM.stay [] W W4 hJ ⟨hb.mono hn0,fun b hm=>hb.block b (hJM.lt _ _ _ hJ hm)⟩
 have hno:∀ b,¬ M W b→b≠W.heap.size+1→¬ Oth (W.heap.size+1) M W4 b:=fun b h1 h2 h=>by
  rcases h with h|h|⟨pv,t,fz,e1,e2⟩
  · exact h1 (hm4 b h)
  · exact h2 h
  · rw [hP] at e1
    simp only [Option.some.injEq,Obj.cells.injEq,Array.mk.injEq,List.cons.injEq,and_true] at e1
    obtain ⟨rfl,-,-⟩:=e1
    cases e2
 have hlt:∀ b,M W b→b < W.heap.size:=fun b hm=>hJM.lt _ _ _ hJ hm
 refine ⟨hJM,by omega,hY,hV,⟨_,[],hP,Own.nil _ _ _,rfl⟩,hj4,hno _ (fun h=>by have:=hlt _ h;omega) (by omega),hno _ (fun h=>by have:=hlt _ h;omega) (by omega),fun h=>by have:=hlt _ (hm4 _ h);omega,?_,?_⟩
 · intro pv t fz b e1 e2
   rw [hP] at e1
   simp only [Option.some.injEq,Obj.cells.injEq,Array.mk.injEq,List.cons.injEq,and_true] at e1
   obtain ⟨rfl,-,-⟩:=e1
   cases e2
 · intro b hb'
   obtain ⟨h1,h2⟩:=hA b hb'
   exact ⟨Nat.lt_of_lt_of_le h1 hb.size,hno b h2 (by omega)⟩
theorem walk_gives {n0 rb:Nat} {A0:Nat→Prop} {w:World} {n:Nd} {ka:Option Addr} {kc:Nat} (hn0:n0≤w.heap.size) (hs:sizeN n≤100000)
 (hbox:w.heap[rb]?=some (.cells #[.int .u8 n.kind,.int .i64 n.num,.string n.name,.slice ka n.kids.length kc] 34 (0,0)))
 (hnd:NdAt A0 w (.agg #[.int .u8 n.kind,.int .i64 n.num,.string n.name,.slice ka n.kids.length kc]) n):
 Gives Tryz.prog n0 177 #[.pointer (some ⟨rb,0,none⟩)] (fun b=>(A0 b∨b=rb)∧b < w.heap.size) w (preN n):=by
 intro l W J M hJM hBW hlW hA hY hJ0
 obtain ⟨W4,hW4⟩:∃ W4,W4=((W.alloc (.cells #[.func (.yield l) #[] #[]] 244)).alloc (.cells #[.slice none 0 0] 45)).alloc (.cells #[.func (.func 178) #[] #[.pointer (some ⟨W.heap.size,0,none⟩),.pointer (some ⟨W.heap.size+1,0,none⟩),.pointer (some ⟨W.heap.size+1+1,0,none⟩)]] 140):=⟨_,rfl⟩
 have hb4:Below W.heap.size W W4:=by subst hW4;exact zaa (zaa (zaa (Below.refl _ _)))
 have hY4:W4.heap[W.heap.size]?=some (.cells #[.func (.yield l) #[] #[]] 244 (0,0)):=by subst hW4;exact zag (zag (zah _ _))
 have hP4:W4.heap[W.heap.size+1]?=some (.cells #[.slice none 0 0] 45 (0,0)):=by subst hW4;exact zag (zaj (by simp))
 have hV4:W4.heap[W.heap.size+1+1]?=some (.cells #[.func (.func 178) #[] #[.pointer (some ⟨W.heap.size,0,none⟩),.pointer (some ⟨W.heap.size+1,0,none⟩),.pointer (some ⟨W.heap.size+1+1,0,none⟩)]] 140 (0,0)):=by subst hW4;exact zaj (by simp)
 have hwW:=hBW.size
 have hvs:=VS.start (A:=fun b=>(A0 b∨b=rb)∧b < w.heap.size) hJM (by omega) hJ0 hb4 (fun b hb=>⟨by have:=hb.2;omega,hA b hb⟩) hY4 hP4 hV4
 have hB:Below w.heap.size w W4:=hBW.trans (hb4.mono hwW)
 have hrb:rb < w.heap.size:=(Array.getElem?_eq_some_iff.1 hbox).1
 have hnd4:NdAt (fun b=>(A0 b∨b=rb)∧b < w.heap.size) W4 (.agg #[.int .u8 n.kind,.int .i64 n.num,.string n.name,.slice ka n.kids.length kc]) n:=hnd.stays ⟨hB.size,fun b hb ha=>⟨hB.block b hb,.inl ha,hb⟩⟩
 have HV:=Lib.hid (zlP hY (sizeN n) n _ _ W4 [] 0 (Nat.le_refl _) hs (by omega) (Nat.lt_of_lt_of_le hlW hb4.size) hvs hnd4 (by rw [List.nil_append];exact List.prefix_refl _))
 obtain ⟨r0,r1,r2,r3⟩:=cells4 (zad hB hbox)
 rw [hW4] at r0 r1 r2 r3
 have HW4:=Lib.hid hW4
 clear hvs hY4 hP4 hV4 hb4 hB hnd4 hbox hnd hA hY hJ0 hJM hwW hBW hW4
 refine callsIn_of_wp Tryz.func177 rfl trivial ?_ rfl
 simp only [Tryz.ntmps177,List.size_toArray,List.length_cons,List.length_nil,Nat.reduceAdd,Nat.reduceSub,Array.replicate_succ,Array.replicate_zero,List.push_toArray,List.append_toArray,List.nil_append,List.cons_append]
 gi_wp2_with (refine ⟨trivial,?_⟩;gi_at_call 178;rw [← HW4.out];refine (callsIn_wide.2 (callsIn_wide.1 HV.out)).mono ?_;rintro e w5 ⟨rfl,hv5,hk5⟩)
 go_end0
 exact ⟨⟨_,rfl⟩,by have:=hv5.j;rwa [List.nil_append] at this⟩
theorem walk_any (n:Nd) (v:Value) (A:Nat→Prop) (w:World) (h:sizeN n≤100000) (hv:NdAt A w v n):
 Calls Tryz.prog 134 #[v] w fun e w'=>∃ rb ka kc,e=.returned (.func (.func 177) #[] #[.pointer (some ⟨rb,0,none⟩)])∧w.heap.size≤rb∧
  w'.heap[rb]?=some (.cells #[.int .u8 n.kind,.int .i64 n.num,.string n.name,.slice ka n.kids.length kc] 34 (0,0))∧NdAt (Up w.heap.size) w' (.agg #[.int .u8 n.kind,.int .i64 n.num,.string n.name,.slice ka n.kids.length kc]) n∧Below w.heap.size w w':=by
 obtain ⟨hok,hlen,ka,kc,rfl,hk⟩:=hv.open
 have hA1:Below w.heap.size w (w.alloc (.cells #[.int .u8 n.kind,.int .i64 n.num,.string n.name,.slice ka n.kids.length kc] 34)):=zaa (Below.refl _ _)
 have HC:=Lib.hid (zcn n _ _ _ h (hv.stays (Stays.of_below hA1)))
 have HA1:=Lib.hid hA1
 clear hv hk hok hlen hA1
 go_enter Tryz.func134,Tryz.ntmps134
 go_wp2_with (go_at_call 176;refine HC.out.mono ?_;rintro e w1 ⟨xa,xc,rfl,hn1,hb1⟩;have HN1:=Lib.hid hn1;have HB1:=Lib.hid hb1;clear hn1 hb1)
 go_ret
 have hb:Below w.heap.size w w1:=zac HB1.out HA1.out
 refine ⟨w1.heap.size,xa,xc,rfl,hb.size,zah _ _,?_,zaa hb⟩
 have h0:=HN1.out
 have hbx:Below w1.heap.size w1 (w1.alloc (.cells #[.int .u8 n.kind,.int .i64 n.num,.string n.name,.slice xa n.kids.length xc] 34)):=zaa (Below.refl _ _)
 exact (h0.stays (A':=Up w.heap.size) ⟨Nat.le_refl _,fun b hb ha=>⟨rfl,by have h1:(w.alloc (.cells #[.int .u8 n.kind,.int .i64 n.num,.string n.name,.slice ka n.kids.length kc] 34)).heap.size≤b:=ha;simp at h1;show w.heap.size≤b;omega⟩⟩).stays (Stays.of_below hbx)
end Go.Proofs.YtpobmoegmdhbpaaGreatDoor
namespace Go.Proofs.YtpobmoegmdhbpaaGreatDoor
open Go.RowKit
def NoM (_:World) (_:Nat):Prop:=False
def boxed (a:Act) (p q s:Nat) (x:Hand) (B:Nat):Act:={ tmps:=((a.tmps.setIfInBounds p x.1).setIfInBounds q (.agg #[.int .u8 x.2.1.kind,.int .i64 x.2.1.num,.string x.2.1.name,.slice x.2.2.1 x.2.1.kids.length x.2.2.2])).setIfInBounds s (.pointer (some ⟨B,0,none⟩)),defers:=[] }
theorem zfi {P:Program} {g:Operand} {p q:Tmp} {assign body:Code} {Q:Exit→Act→World→Prop} {a:Act} {w:World} {n0:Nat} (hn0:n0≤w.heap.size) (s:Nat) (t:TypeId)
 {gf:Nat} {lb:Array Value} (hg:a.eval g=.func (.func gf) #[] lb) (eg:∀ args w,(callFunc gf args).run P w=.ok (.enter gf args) w)
 {A:Nat→Prop} {xs:List Nd} (hgives:Gives P n0 gf lb A w xs)
 (I:List Nd→World→Prop) (MB:World→Nat→Prop) (hI:JM n0 I MB) (hcells:∀ pre W b,I pre W→MB W b→∃ o:Obj,W.heap[b]?=some o∧o.isCl=true)
 (h0:I [] w) (hA:∀ b,A b→b < w.heap.size∧¬ MB w b)
 (hassign:∀ (l:Nat) (x:Hand) (W:World) (K:Act→World→Prop),
   (∀ W1 B,W1.heap[B]?=some (.cells #[.int .u8 x.2.1.kind,.int .i64 x.2.1.num,.string x.2.1.name,.slice x.2.2.1 x.2.1.kids.length x.2.2.2] t (0,0))→Below W.heap.size W W1→K (boxed a p q s x B) W1)→
   assign.wpIn (Fence.wide.inRound l) 9 P (Exit.then K (fun _ _ _=>False)) { tmps:=(a.tmps.setIfInBounds p x.1).setIfInBounds q (.agg #[.int .u8 x.2.1.kind,.int .i64 x.2.1.num,.string x.2.1.name,.slice x.2.2.1 x.2.1.kids.length x.2.2.2]),defers:=[] } W)
 (hbody:∀ (l:Nat) (pre:List Nd) (x:Hand) (W:World) (B:Nat),I pre W→NdAt (fun b=>b≠l) W (ndV x) x.2.1→pre ++ [x.2.1] <+:xs→W.heap[B]?=some (.cells #[.int .u8 x.2.1.kind,.int .i64 x.2.1.num,.string x.2.1.name,.slice x.2.2.1 x.2.1.kids.length x.2.2.2] t (0,0))→
   body.wpIn (Fence.wide.inRound l) 9 P (fun e _ W'=>e=.normal∧I (pre ++ [x.2.1]) W'∧KM n0 MB W W') (boxed a p q s x B) W)
 (hdone:∀ (D:Nat) (W:World),n0≤D→I xs W→W.heap[D]?=some (.deferred (some []))→Q .normal { a with defers:={ target:=.collected D,args:=#[] } :: a.defers } W):
 (Code.rangeFunc g #[p,q] assign body).wp P Q a w:=by
 refine zcP hn0 hg eg hgives rfl I MB hI hcells h0 hA
  (fun x a1 W=>∃ B,W.heap[B]?=some (.cells #[.int .u8 x.2.1.kind,.int .i64 x.2.1.num,.string x.2.1.name,.slice x.2.2.1 x.2.1.kids.length x.2.2.2] t (0,0))∧a1=boxed a p q s x B) ?_ ?_ ?_ hdone
 · rintro x a1 W l o o' ⟨B,hB,he⟩ hl ho
   refine ⟨B,(World.putObj_heap_other (fun e=>?_)).trans hB,he⟩
   subst e
   rw [hB] at hl
   cases hl
   cases ho
 · intro l x W K hK
   have e:(#[p,q].zip (hands x))=#[(p,x.1),(q,.agg #[.int .u8 x.2.1.kind,.int .i64 x.2.1.num,.string x.2.1.name,.slice x.2.2.1 x.2.1.kids.length x.2.2.2])]:=by simp [hands]
   rw [e]
   simp only [List.foldl_toArray',List.size_toArray,List.length_cons,List.length_nil,List.foldl_cons,List.foldl_nil]
   exact hassign l x W K (fun W1 B h1 h2=>hK _ _ ⟨B,h1,rfl⟩ h2)
 · rintro l pre x a1 W hi hn hp ⟨B,hB,rfl⟩
   exact hbody l pre x W B hi hn hp hB
end Go.Proofs.YtpobmoegmdhbpaaGreatDoor
