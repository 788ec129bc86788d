/- The walk of scope.Check at programs without a fault. -/
import Derived.Test.YtpobmoegmdhbpaaGreatDoorXl2
set_option linter.unusedSimpArgs false
set_option linter.unusedVariables false
set_option linter.unusedSectionVars false
set_option maxRecDepth 100000
set_option maxHeartbeats 6400000
namespace Go.Proofs.YtpobmoegmdhbpaaGreatDoor
open Go.RowKit
theorem zlY {α:Type} [Inhabited α] {l:List α} {k j:Nat} (h:j < k):at' (l.take k) j=at' l j:=by
 simp [at',List.getD_eq_getElem?_getD,List.getElem?_take,h]
theorem RowsAt.take {α:Type} [Inhabited α] {E:Elem α} {A:Nat→Prop} {w:World} {a:Option Addr} {n c:Nat} {l:List α} (h:RowsAt E A w (.slice a n c) l) {k:Nat} (hk:k≤l.length):RowsAt E A w (.slice a k c) (l.take k):=by
 obtain ⟨cs,⟨h1,a',c',e,h2,h3,h4⟩,h5⟩:=h
 simp only [Value.slice.injEq] at e
 obtain ⟨rfl,rfl,rfl⟩:=e
 have hl:(l.take k).length=k:=by simp;omega
 refine ⟨cs,⟨by omega,a,c,by rw [hl],by omega,h3,fun h0=>?_⟩,fun j hj=>?_⟩
 · obtain ⟨b,off,e1,e2,e3,e4⟩:=h4 (by omega)
   exact ⟨b,off,e1,e2,e3,fun j hj=>e4 j (by omega)⟩
 · rw [zlY (by omega)];exact h5 j (by omega)
theorem RowsAt.vcap {α:Type} [Inhabited α] {E:Elem α} {A:Nat→Prop} {w:World} {a:Option Addr} {n c:Nat} {l:List α} (h:RowsAt E A w (.slice a n c) l):l.length≤c:=by
 obtain ⟨cs,⟨h1,a',c',e,h2,h3,h4⟩,h5⟩:=h
 simp only [Value.slice.injEq] at e
 obtain ⟨rfl,rfl,rfl⟩:=e
 exact h2
theorem cells3' {w:World} {b e:Nat} {v0 v1 v2:Value} (h:w.heap[b]?=some (.cells #[v0,v1,v2] e (0,0))):w.cell? ⟨b,0,none⟩=some v0∧w.cell? ⟨b,1,none⟩=some v1∧w.cell? ⟨b,2,none⟩=some v2:=⟨zae h 0 rfl,zae h 1 rfl,zae h 2 rfl⟩
def NilB (w:World) (e:Ending) (w':World):Prop:=e=.returned (.slice none 0 0)∧Below w.heap.size w w'
theorem zgX (p:Prg) (hok:ProgOk p) (va:Option Addr) (vc:Nat) (pa:Option Addr) (pc:Nat) (ka:Option Addr) (kc:Nat) (w:World) (hv:PrgAt Any w va vc pa pc ka kc p):
 Calls Tryz.prog 40 #[PrgV va vc pa pc ka kc p] w (NilB w):=by
 obtain ⟨o1,o2,o3,o4,o5,o6,_,_⟩:=hok
 have hA:Below w.heap.size w (w.alloc (bxP va vc pa pc ka kc p)):=zaa (Below.refl _ _)
 have HVA:=Lib.hid (zdN p o1 va vc pa pc ka kc Any _ (hv.stays (Stays.of_below hA)))
 have hbx:=zah w (bxP va vc pa pc ka kc p)
 obtain ⟨x0,x1,x2,x3,x4,x5⟩:=cells6' hbx
 have HX:=Lib.hid hbx
 have HA:=Lib.hid hA
 have HPR:=Lib.hid hv
 have h2:=o1.vlen
 have h3:=o1.plen
 have HOK:=Lib.hid o1
 have HVF:=Lib.hid o2
 have HID:=Lib.hid o3
 have HPF:=Lib.hid o4
 have HPV:=Lib.hid o5
 have HMV:=Lib.hid o6
 clear o1 o2 o3 o4 o5 o6 hv hA hbx
 unfold PrgV
 go_enter Tryz.func40,Tryz.ntmps40
 go_wp2_with fail
 refine HVA.out.mono ?_
 rintro e w1 ⟨rfl,hb1⟩
 have hb01:=HA.out.trans (hb1.mono HA.out.size)
 have hx1:=zad hb1 HX.out
 have hsz:w.heap.size < w1.heap.size:=by have:=hb1.size;simp at this;omega
 have HB01:=Lib.hid hb01
 have hA2:Below w1.heap.size w1 ((w1.alloc (.cells #[.slice none 0 0] 89)).alloc (.cells #[.func (.func 75) #[] #[.pointer (some ⟨w1.heap.size,0,none⟩)]] 143)):=zaa (zaa (Below.refl _ _))
 have hF:=zaI w1 (.cells #[.slice none 0 0] 89) (.cells #[.func (.func 75) #[] #[.pointer (some ⟨w1.heap.size,0,none⟩)]] 143)
 have hR:=zaw w1 (.cells #[.slice none 0 0] 89) (.cells #[.func (.func 75) #[] #[.pointer (some ⟨w1.heap.size,0,none⟩)]] 143)
 have hx2:=zad hA2 hx1
 have HP1:=Lib.hid hx1
 clear x0 x1 x2 x3 x4 x5 hb1 HVA
 obtain ⟨x0,x1,x2,x3,x4,x5⟩:=cells6' hx1
 clear hx1
 go_upto_region 5 with fail
 clear x0 x1 x2 x3 x4 x5
 generalize hW:((w1.alloc (.cells #[.slice none 0 0] 89)).alloc (.cells #[.func (.func 75) #[] #[.pointer (some ⟨w1.heap.size,0,none⟩)]] 143))=W at *
 have HW:Hid (∀ w',Below W.heap.size W w'→(w'.cell? ⟨w.heap.size,0,none⟩=some (.slice va p.vars.length vc)∧w'.cell? ⟨w.heap.size,1,none⟩=some (.slice pa p.procs.length pc)∧w'.cell? ⟨w.heap.size,2,none⟩=some (.int .u8 p.main.kind)∧w'.cell? ⟨w.heap.size,3,none⟩=some (.int .i64 p.main.num)∧w'.cell? ⟨w.heap.size,4,none⟩=some (.string p.main.name)∧w'.cell? ⟨w.heap.size,5,none⟩=some (.slice ka p.main.kids.length kc))∧(w'.cell? ⟨w1.heap.size+1,0,none⟩=some (.func (.func 75) #[] #[.pointer (some ⟨w1.heap.size,0,none⟩)]))∧w'.cell? ⟨w1.heap.size,0,none⟩=some (.slice none 0 0)):=Lib.hid (fun w' h=>⟨cells6' (zad h hx2),zae (zad h hR) 0 rfl,zae (zad h hF) 0 rfl⟩)
 have HRB:Hid (∀ w',Below W.heap.size W w'→RepBox w' (w1.heap.size+1) w1.heap.size):=Lib.hid (fun w' h=>zad h hR)
 have HXB:Hid (∀ w',Below W.heap.size W w'→w'.heap[w.heap.size]?=some (bxP va vc pa pc ka kc p)):=Lib.hid (fun w' h=>zad h hx2)
 have HFW:Hid (∀ w',Below W.heap.size W w'→Below w.heap.size w w'):=Lib.hid (fun w' h=>(hb01.trans (hA2.mono hb01.size)).trans (h.mono (hb01.trans (hA2.mono hb01.size)).size))
 obtain ⟨⟨x0,x1,x2,x3,x4,x5⟩,xr,xf⟩:=HW.out W (Below.refl _ _)
 clear hW hA2 hF hR hx2 hb01
 go_wp2
 go_loopw [18] (fun i wr=>∃ k:Nat,k≤p.vars.length∧i=.int .i64 k∧Below W.heap.size W wr) (fun i _=>p.vars.length - (intOf i).toNat)
 case atStart=>exact ⟨0,Nat.zero_le _,rfl,Below.refl _ _⟩
 case round=>
  obtain ⟨k,hkk,rfl,hbl⟩:=hrel
  have HBL:=Lib.hid hbl
  have HBW:=Lib.hid (HFW.out _ hbl)
  clear x0 x1 x2 x3 x4 x5 xr xf
  by_cases hlt:k < p.vars.length
  · have hrow:=HPR.out.hv.stays (Stays.of_below HBW.out) (A':=Any)
    have hcap:=hrow.vcap
    obtain ⟨b,off,he,hb,c0,c1,c2⟩:=zdn hrow hlt
    subst he
    have i0:(0:Int)≤(k:Int):=by omega
    have i1:(k:Int) < (p.vars.length:Int):=by omega
    have i2:(k:Int)≤(vc:Int):=by omega
    have i3:¬ vc=0:=by omega
    have i4:k≤vc:=by omega
    have hA3:Below wr.heap.size wr (wr.alloc (.cells #[.string (at' p.vars k).name,.int .u8 (at' p.vars k).kind,.int .i64 0] 100)):=zaa (Below.refl _ _)
    have hk3:=zah wr (.cells #[.string (at' p.vars k).name,.int .u8 (at' p.vars k).kind,.int .i64 0] 100)
    go_upto_region 8 with fail
    generalize hX:(wr.alloc (.cells #[.string (at' p.vars k).name,.int .u8 (at' p.vars k).kind,.int .i64 0] 100))=X at *
    have HBX:=Lib.hid (hbl.trans (hA3.mono hbl.size))
    have HFX:Hid (∀ w',Below X.heap.size X w'→Below W.heap.size W w'):=Lib.hid (fun w' h=>HBX.out.trans (h.mono HBX.out.size))
    have HX3:Hid (∀ w',Below X.heap.size X w'→((w'.cell? ⟨w.heap.size,0,none⟩=some (.slice (some ⟨b,off,none⟩) p.vars.length vc)∧w'.cell? ⟨w.heap.size,1,none⟩=some (.slice pa p.procs.length pc)∧w'.cell? ⟨w.heap.size,2,none⟩=some (.int .u8 p.main.kind)∧w'.cell? ⟨w.heap.size,3,none⟩=some (.int .i64 p.main.num)∧w'.cell? ⟨w.heap.size,4,none⟩=some (.string p.main.name)∧w'.cell? ⟨w.heap.size,5,none⟩=some (.slice ka p.main.kids.length kc))∧(w'.cell? ⟨w1.heap.size+1,0,none⟩=some (.func (.func 75) #[] #[.pointer (some ⟨w1.heap.size,0,none⟩)])))∧(w'.cell? ⟨wr.heap.size,0,none⟩=some (.string (at' p.vars k).name)∧w'.cell? ⟨wr.heap.size,1,none⟩=some (.int .u8 (at' p.vars k).kind)∧w'.cell? ⟨wr.heap.size,2,none⟩=some (.int .i64 0))):=Lib.hid (fun w' h=>⟨⟨(HW.out w' (HFX.out _ h)).1,(HW.out w' (HFX.out _ h)).2.1⟩,cells3' (zad h hk3)⟩)
    have HFR:Hid (∀ w',Below X.heap.size X w'→Calls Tryz.prog 76 #[.slice (some ⟨b,off,none⟩) k vc,.string (at' p.vars k).name] w' fun e w2=>e=.returned (.int .i64 0)∧Below w'.heap.size w' w2):=Lib.hid (fun w' h=>by
     have hr:=(HPR.out.hv.stays (A':=Any) (Stays.of_below (HFW.out _ (HFX.out _ h)))).take (k:=k) (by omega)
     have hl:(p.vars.take k).length=k:=by simp;omega
     have:=zdJ (p.vars.take k) (at' p.vars k).name (some ⟨b,off,none⟩) vc Any w' (by rw [hl];exact hr) (HVF.out k hlt)
     rwa [hl] at this)
    clear hbl hA3 hk3 hX hrow hcap
    go_region_held3 (fun w'=>((w'.cell? ⟨w.heap.size,0,none⟩=some (.slice (some ⟨b,off,none⟩) p.vars.length vc)∧w'.cell? ⟨w.heap.size,1,none⟩=some (.slice pa p.procs.length pc)∧w'.cell? ⟨w.heap.size,2,none⟩=some (.int .u8 p.main.kind)∧w'.cell? ⟨w.heap.size,3,none⟩=some (.int .i64 p.main.num)∧w'.cell? ⟨w.heap.size,4,none⟩=some (.string p.main.name)∧w'.cell? ⟨w.heap.size,5,none⟩=some (.slice ka p.main.kids.length kc))∧(w'.cell? ⟨w1.heap.size+1,0,none⟩=some (.func (.func 75) #[] #[.pointer (some ⟨w1.heap.size,0,none⟩)])))∧(w'.cell? ⟨wr.heap.size,0,none⟩=some (.string (at' p.vars k).name)∧w'.cell? ⟨wr.heap.size,1,none⟩=some (.int .u8 (at' p.vars k).kind)∧w'.cell? ⟨wr.heap.size,2,none⟩=some (.int .i64 0)))
     (with_reducible exact HX3.out _ (by (repeat (with_reducible first|exact Below.refl _ _|refine zab ?_|refine zaa ?_|(apply zac;focus assumption)))))
     (first
     | (go_at_call 76;(with_reducible refine (HFR.out _ (by (repeat (with_reducible first|exact Below.refl _ _|refine zab ?_|refine zaa ?_|(apply zac;focus assumption))))).mono ?_);rintro e w4 ⟨rfl,hb4⟩)
     | (go_at_call 75;(with_reducible refine (report1 _ _ _ _ _).mono ?_);rintro e w5 ⟨rfl,hb5⟩))
    all_goals
     have HB5:Hid (Below X.heap.size X w5):=Lib.hid (by (repeat (with_reducible first|exact Below.refl _ _|refine zab ?_|refine zaa ?_|(apply zac;focus assumption))))
     clear hb4 hb5
     go_wp2
     go_roundw
     case rel=>exact ⟨k+1,by omega,by go_num,HBX.out.trans (HB5.out.mono HBX.out.size)⟩
     case measure=>simp [intOf];omega
  · obtain rfl:k=p.vars.length:=by omega
    have hlt':¬ (p.vars.length:Int) < (p.vars.length:Int):=by omega
    obtain ⟨⟨x0,x1,x2,x3,x4,x5⟩,xr,xf⟩:=HW.out wr hbl
    rename_i wr1 _
    clear hbl HBW
    go_wp2
    go_loopw [40] (fun i wr=>∃ k:Nat,k≤p.procs.length∧i=.int .i64 k∧Below W.heap.size W wr) (fun i _=>p.procs.length - (intOf i).toNat)
    case atStart=>exact ⟨0,Nat.zero_le _,rfl,HBL.out⟩
    case round=>
     obtain ⟨k,hkk,rfl,hbl⟩:=hrel
     have HBL2:=Lib.hid hbl
     have HBW:=Lib.hid (HFW.out _ hbl)
     clear x0 x1 x2 x3 x4 x5 xr xf HBL
     by_cases hlt:k < p.procs.length
     · generalize wr=wq at *
       obtain ⟨b,off,qa,qc,ja,jc,he,hb,_,_,_,c0,c1,c2,c3,c4,c5,hr,hn,hsz⟩:=zdP (HPR.out.hp.stays (Stays.of_below HBW.out) (A':=Any)) hlt
       subst he
       have i0:(0:Int)≤(k:Int):=by omega
       have i1:(k:Int) < (p.procs.length:Int):=by omega
       have hA3:Below wq.heap.size wq ((wq.alloc (.cells #[.int .i64 k] 3)).alloc (.cells #[.string (at' p.procs k).name,.slice qa (at' p.procs k).params.length qc,.int .u8 (at' p.procs k).body.kind,.int .i64 (at' p.procs k).body.num,.string (at' p.procs k).body.name,.slice ja (at' p.procs k).body.kids.length jc] 83)):=zaa (zaa (Below.refl _ _))
       have hi3:=zaI wq (.cells #[.int .i64 k] 3) (.cells #[.string (at' p.procs k).name,.slice qa (at' p.procs k).params.length qc,.int .u8 (at' p.procs k).body.kind,.int .i64 (at' p.procs k).body.num,.string (at' p.procs k).body.name,.slice ja (at' p.procs k).body.kids.length jc] 83)
       have hq3:=zaw wq (.cells #[.int .i64 k] 3) (.cells #[.string (at' p.procs k).name,.slice qa (at' p.procs k).params.length qc,.int .u8 (at' p.procs k).body.kind,.int .i64 (at' p.procs k).body.num,.string (at' p.procs k).body.name,.slice ja (at' p.procs k).body.kids.length jc] 83)
       have HQR:=Lib.hid hr
       have HQN:=Lib.hid hn
       clear hr hn
       go_upto_region 13 with fail
       generalize ((wq.alloc (.cells #[.int .i64 k] 3)).alloc (.cells #[.string (at' p.procs k).name,.slice qa (at' p.procs k).params.length qc,.int .u8 (at' p.procs k).body.kind,.int .i64 (at' p.procs k).body.num,.string (at' p.procs k).body.name,.slice ja (at' p.procs k).body.kids.length jc] 83))=X at *
       have HBX:=Lib.hid (hbl.trans (hA3.mono hbl.size))
       have HWX:=Lib.hid hA3
       have HFX:Hid (∀ w',Below X.heap.size X w'→Below W.heap.size W w'):=Lib.hid (fun w' h=>HBX.out.trans (h.mono HBX.out.size))
       have HX3:Hid (∀ w',Below X.heap.size X w'→((w'.cell? ⟨w.heap.size,0,none⟩=some (.slice va p.vars.length vc)∧w'.cell? ⟨w.heap.size,1,none⟩=some (.slice (some ⟨b,off,none⟩) p.procs.length pc)∧w'.cell? ⟨w.heap.size,2,none⟩=some (.int .u8 p.main.kind)∧w'.cell? ⟨w.heap.size,3,none⟩=some (.int .i64 p.main.num)∧w'.cell? ⟨w.heap.size,4,none⟩=some (.string p.main.name)∧w'.cell? ⟨w.heap.size,5,none⟩=some (.slice ka p.main.kids.length kc))∧(w'.cell? ⟨w1.heap.size+1,0,none⟩=some (.func (.func 75) #[] #[.pointer (some ⟨w1.heap.size,0,none⟩)])))∧w'.cell? ⟨wq.heap.size,0,none⟩=some (.int .i64 k)∧(w'.cell? ⟨wq.heap.size+1,0,none⟩=some (.string (at' p.procs k).name)∧w'.cell? ⟨wq.heap.size+1,1,none⟩=some (.slice qa (at' p.procs k).params.length qc)∧w'.cell? ⟨wq.heap.size+1,2,none⟩=some (.int .u8 (at' p.procs k).body.kind)∧w'.cell? ⟨wq.heap.size+1,3,none⟩=some (.int .i64 (at' p.procs k).body.num)∧w'.cell? ⟨wq.heap.size+1,4,none⟩=some (.string (at' p.procs k).body.name)∧w'.cell? ⟨wq.heap.size+1,5,none⟩=some (.slice ja (at' p.procs k).body.kids.length jc))):=Lib.hid (fun w' h=>⟨⟨(HW.out w' (HFX.out _ h)).1,(HW.out w' (HFX.out _ h)).2.1⟩,zae (zad h hi3) 0 rfl,cells6' (zad h hq3)⟩)
       have HIB:Hid (∀ w',Below X.heap.size X w'→w'.heap[wq.heap.size]?=some (.cells #[.int .i64 k] 3 (0,0))):=Lib.hid (fun w' h=>zad h hi3)
       have HPC:Hid (∀ w',Below X.heap.size X w'→Calls Tryz.prog 77 #[(.agg #[.slice va p.vars.length vc,.slice (some ⟨b,off,none⟩) p.procs.length pc,.int .u8 p.main.kind,.int .i64 p.main.num,.string p.main.name,.slice ka p.main.kids.length kc]),.string (at' p.procs k).name] w' fun e w2=>e=.returned (.int .i64 k)∧Below w'.heap.size w' w2):=Lib.hid (fun w' h=>zhH p (at' p.procs k).name k va vc (some ⟨b,off,none⟩) pc ka kc Any w' (HPR.out.stays (Stays.of_below (HFW.out _ (HFX.out _ h)))) (HID.out k hlt))
       have dk:decide ((k:Int) < (k:Int))=false:=by simp
       clear hbl hA3 hi3 hq3
       go_region_held3 (fun w'=>((w'.cell? ⟨w.heap.size,0,none⟩=some (.slice va p.vars.length vc)∧w'.cell? ⟨w.heap.size,1,none⟩=some (.slice (some ⟨b,off,none⟩) p.procs.length pc)∧w'.cell? ⟨w.heap.size,2,none⟩=some (.int .u8 p.main.kind)∧w'.cell? ⟨w.heap.size,3,none⟩=some (.int .i64 p.main.num)∧w'.cell? ⟨w.heap.size,4,none⟩=some (.string p.main.name)∧w'.cell? ⟨w.heap.size,5,none⟩=some (.slice ka p.main.kids.length kc))∧(w'.cell? ⟨w1.heap.size+1,0,none⟩=some (.func (.func 75) #[] #[.pointer (some ⟨w1.heap.size,0,none⟩)])))∧w'.cell? ⟨wq.heap.size,0,none⟩=some (.int .i64 k)∧(w'.cell? ⟨wq.heap.size+1,0,none⟩=some (.string (at' p.procs k).name)∧w'.cell? ⟨wq.heap.size+1,1,none⟩=some (.slice qa (at' p.procs k).params.length qc)∧w'.cell? ⟨wq.heap.size+1,2,none⟩=some (.int .u8 (at' p.procs k).body.kind)∧w'.cell? ⟨wq.heap.size+1,3,none⟩=some (.int .i64 (at' p.procs k).body.num)∧w'.cell? ⟨wq.heap.size+1,4,none⟩=some (.string (at' p.procs k).body.name)∧w'.cell? ⟨wq.heap.size+1,5,none⟩=some (.slice ja (at' p.procs k).body.kids.length jc)))
        (with_reducible exact HX3.out _ (by (repeat (with_reducible first|exact Below.refl _ _|refine zab ?_|refine zaa ?_|(apply zac;focus assumption)))))
        (first|(go_at_call 77;(with_reducible refine (HPC.out _ (by (repeat (with_reducible first|exact Below.refl _ _|refine zab ?_|refine zaa ?_|(apply zac;focus assumption))))).mono ?_);rintro e w4 ⟨rfl,hb4⟩))
       have HB4:Hid (Below X.heap.size X w4):=Lib.hid (by (repeat (with_reducible first|exact Below.refl _ _|refine zab ?_|refine zaa ?_|(apply zac;focus assumption))))
       obtain ⟨⟨⟨x0,x1,x2,x3,x4,x5⟩,xr⟩,xi,q0,q1,q2,q3,q4,q5⟩:=HX3.out w4 HB4.out
       have hpl8:=(HOK.out.procs _ (zaT hlt)).plen
       clear hb4
       go_wp2
       go_loopw [59] (fun i wr=>∃ j:Nat,j≤(at' p.procs k).params.length∧i=.int .i64 j∧Below X.heap.size X wr) (fun i _=>(at' p.procs k).params.length - (intOf i).toNat)
       case atStart=>exact ⟨0,Nat.zero_le _,rfl,HB4.out⟩
       case round=>
        obtain ⟨j,hjj,rfl,hbl⟩:=hrel
        have HBJ:=Lib.hid hbl
        clear x0 x1 x2 x3 x4 x5 xr xi q0 q1 q2 q3 q4 q5 HB4
        by_cases hltj:j < (at' p.procs k).params.length
        · have hrow:=HQR.out.stays (Stays.of_below (HWX.out.trans (hbl.mono HWX.out.size))) (A':=Any)
          have hcap:=hrow.vcap
          obtain ⟨bq,oq,he,hb,d0,d1,d2⟩:=zdn hrow hltj
          subst he
          have j0:(0:Int)≤(j:Int):=by omega
          have j1:(j:Int) < ((at' p.procs k).params.length:Int):=by omega
          have j2:(j:Int)≤(qc:Int):=by omega
          have j3:¬ qc=0:=by omega
          have j4:j≤qc:=by omega
          have hA3:Below wr.heap.size wr (wr.alloc (.cells #[.string (at' (at' p.procs k).params j).name,.int .u8 (at' (at' p.procs k).params j).kind,.int .i64 0] 100)):=zaa (Below.refl _ _)
          have hk3:=zah wr (.cells #[.string (at' (at' p.procs k).params j).name,.int .u8 (at' (at' p.procs k).params j).kind,.int .i64 0] 100)
          go_upto_region 18 with fail
          generalize hY:(wr.alloc (.cells #[.string (at' (at' p.procs k).params j).name,.int .u8 (at' (at' p.procs k).params j).kind,.int .i64 0] 100))=Y at *
          have HBY:=Lib.hid (hbl.trans (hA3.mono hbl.size))
          have HFY:Hid (∀ w',Below Y.heap.size Y w'→Below X.heap.size X w'):=Lib.hid (fun w' h=>HBY.out.trans (h.mono HBY.out.size))
          have HY3:Hid (∀ w',Below Y.heap.size Y w'→(((w'.cell? ⟨w.heap.size,0,none⟩=some (.slice va p.vars.length vc)∧w'.cell? ⟨w.heap.size,1,none⟩=some (.slice (some ⟨b,off,none⟩) p.procs.length pc)∧w'.cell? ⟨w.heap.size,2,none⟩=some (.int .u8 p.main.kind)∧w'.cell? ⟨w.heap.size,3,none⟩=some (.int .i64 p.main.num)∧w'.cell? ⟨w.heap.size,4,none⟩=some (.string p.main.name)∧w'.cell? ⟨w.heap.size,5,none⟩=some (.slice ka p.main.kids.length kc))∧(w'.cell? ⟨w1.heap.size+1,0,none⟩=some (.func (.func 75) #[] #[.pointer (some ⟨w1.heap.size,0,none⟩)])))∧w'.cell? ⟨wq.heap.size,0,none⟩=some (.int .i64 k)∧(w'.cell? ⟨wq.heap.size+1,0,none⟩=some (.string (at' p.procs k).name)∧w'.cell? ⟨wq.heap.size+1,1,none⟩=some (.slice (some ⟨bq,oq,none⟩) (at' p.procs k).params.length qc)∧w'.cell? ⟨wq.heap.size+1,2,none⟩=some (.int .u8 (at' p.procs k).body.kind)∧w'.cell? ⟨wq.heap.size+1,3,none⟩=some (.int .i64 (at' p.procs k).body.num)∧w'.cell? ⟨wq.heap.size+1,4,none⟩=some (.string (at' p.procs k).body.name)∧w'.cell? ⟨wq.heap.size+1,5,none⟩=some (.slice ja (at' p.procs k).body.kids.length jc)))∧(w'.cell? ⟨wr.heap.size,0,none⟩=some (.string (at' (at' p.procs k).params j).name)∧w'.cell? ⟨wr.heap.size,1,none⟩=some (.int .u8 (at' (at' p.procs k).params j).kind)∧w'.cell? ⟨wr.heap.size,2,none⟩=some (.int .i64 0))):=Lib.hid (fun w' h=>⟨HX3.out w' (HFY.out _ h),cells3' (zad h hk3)⟩)
          have HFR:Hid (∀ w',Below Y.heap.size Y w'→Calls Tryz.prog 76 #[.slice (some ⟨bq,oq,none⟩) j qc,.string (at' (at' p.procs k).params j).name] w' fun e w2=>e=.returned (.int .i64 0)∧Below w'.heap.size w' w2):=Lib.hid (fun w' h=>by
           have hb:=HFY.out _ h
           have hr:=(HQR.out.stays (A':=Any) (Stays.of_below (HWX.out.trans (hb.mono HWX.out.size)))).take (k:=j) (by omega)
           have hl:((at' p.procs k).params.take j).length=j:=by simp;omega
           have:=zdJ ((at' p.procs k).params.take j) (at' (at' p.procs k).params j).name (some ⟨bq,oq,none⟩) qc Any w' (by rw [hl];exact hr) (HPF.out k hlt j hltj)
           rwa [hl] at this)
          clear hbl hA3 hk3 hY hrow hcap
          go_region_held3 (fun w'=>(((w'.cell? ⟨w.heap.size,0,none⟩=some (.slice va p.vars.length vc)∧w'.cell? ⟨w.heap.size,1,none⟩=some (.slice (some ⟨b,off,none⟩) p.procs.length pc)∧w'.cell? ⟨w.heap.size,2,none⟩=some (.int .u8 p.main.kind)∧w'.cell? ⟨w.heap.size,3,none⟩=some (.int .i64 p.main.num)∧w'.cell? ⟨w.heap.size,4,none⟩=some (.string p.main.name)∧w'.cell? ⟨w.heap.size,5,none⟩=some (.slice ka p.main.kids.length kc))∧(w'.cell? ⟨w1.heap.size+1,0,none⟩=some (.func (.func 75) #[] #[.pointer (some ⟨w1.heap.size,0,none⟩)])))∧w'.cell? ⟨wq.heap.size,0,none⟩=some (.int .i64 k)∧(w'.cell? ⟨wq.heap.size+1,0,none⟩=some (.string (at' p.procs k).name)∧w'.cell? ⟨wq.heap.size+1,1,none⟩=some (.slice (some ⟨bq,oq,none⟩) (at' p.procs k).params.length qc)∧w'.cell? ⟨wq.heap.size+1,2,none⟩=some (.int .u8 (at' p.procs k).body.kind)∧w'.cell? ⟨wq.heap.size+1,3,none⟩=some (.int .i64 (at' p.procs k).body.num)∧w'.cell? ⟨wq.heap.size+1,4,none⟩=some (.string (at' p.procs k).body.name)∧w'.cell? ⟨wq.heap.size+1,5,none⟩=some (.slice ja (at' p.procs k).body.kids.length jc)))∧(w'.cell? ⟨wr.heap.size,0,none⟩=some (.string (at' (at' p.procs k).params j).name)∧w'.cell? ⟨wr.heap.size,1,none⟩=some (.int .u8 (at' (at' p.procs k).params j).kind)∧w'.cell? ⟨wr.heap.size,2,none⟩=some (.int .i64 0)))
           (with_reducible exact HY3.out _ (by (repeat (with_reducible first|exact Below.refl _ _|refine zab ?_|refine zaa ?_|(apply zac;focus assumption)))))
           (first
           | (go_at_call 76;(with_reducible refine (HFR.out _ (by (repeat (with_reducible first|exact Below.refl _ _|refine zab ?_|refine zaa ?_|(apply zac;focus assumption))))).mono ?_);rintro e w4 ⟨rfl,hb4⟩)
           | (go_at_call 75;(with_reducible refine (report1 _ _ _ _ _).mono ?_);rintro e w5 ⟨rfl,hb5⟩))
          all_goals
           have HB5:Hid (Below Y.heap.size Y w5):=Lib.hid (by (repeat (with_reducible first|exact Below.refl _ _|refine zab ?_|refine zaa ?_|(apply zac;focus assumption))))
           clear hb4 hb5
           go_wp2
           go_roundw
           case rel=>exact ⟨j+1,by omega,by go_num,HBY.out.trans (HB5.out.mono HBY.out.size)⟩
           case measure=>simp [intOf];omega
        · obtain rfl:j=(at' p.procs k).params.length:=by omega
          have hlt':¬ ((at' p.procs k).params.length:Int) < ((at' p.procs k).params.length:Int):=by omega
          obtain ⟨⟨⟨x0,x1,x2,x3,x4,x5⟩,xr⟩,xi,q0,q1,q2,q3,q4,q5⟩:=HX3.out wr hbl
          have hbw:=HFW.out _ (HFX.out _ hbl)
          have hsz:=(HOK.out.procs _ (zaT hlt)).size
          have HVC:=Lib.hid (zex p va vc (some ⟨b,off,none⟩) pc ka kc _ (at' p.procs k).body (at' p.procs k).params [] _ qa qc none 0 _ Any wr (Nat.le_refl _) (by simp;omega) (by omega) (HPV.out k hlt) (HPR.out.stays (Stays.of_below hbw))
           (HQN.out.stays (A':=Any) (Stays.of_below (HWX.out.trans (hbl.mono HWX.out.size)))) (HQR.out.stays (A':=Any) (Stays.of_below (HWX.out.trans (hbl.mono HWX.out.size)))) (RowsAt.nil _ _ _) (zjq k (w1.heap.size+1) w1.heap.size wq.heap.size wr (HRB.out wr (HFX.out _ hbl)) (HIB.out wr hbl)))
          clear hbl hbw hsz
          go_wp2_with (first|(go_at_call 78;refine HVC.out.mono ?_;rintro e w5 ⟨rfl,hb5⟩))
          have HB5:Hid (Below wr.heap.size wr w5):=Lib.hid hb5
          clear hb5 x0 x1 x2 x3 x4 x5 xr xi q0 q1 q2 q3 q4 q5
          go_wp2
          go_roundw
          case rel=>exact ⟨k+1,by omega,by go_num,HFX.out _ (HBJ.out.trans (HB5.out.mono HBJ.out.size))⟩
          case measure=>simp [intOf];omega
     · obtain rfl:k=p.procs.length:=by omega
       have hlt':¬ (p.procs.length:Int) < (p.procs.length:Int):=by omega
       obtain ⟨⟨x0,x1,x2,x3,x4,x5⟩,xr,xf⟩:=HW.out wr hbl
       have hds:=HOK.out.size
       have hvl:=HOK.out.vlen
       have HVC:=Lib.hid (zex p va vc pa pc ka kc _ p.main p.vars [] _ va vc none 0 _ Any wr (Nat.le_refl _) (by simp;omega) (by omega) HMV.out (HPR.out.stays (Stays.of_below HBW.out)) (HPR.out.hm.stays (A':=Any) (Stays.of_below HBW.out)) (HPR.out.hv.stays (A':=Any) (Stays.of_below HBW.out)) (RowsAt.nil _ _ _) (ziZ p va vc pa pc ka kc (w1.heap.size+1) w1.heap.size w.heap.size wr (HRB.out wr hbl) (HXB.out wr hbl)))
       clear hbl hds hvl
       go_wp2_with (first|(go_at_call 78;refine HVC.out.mono ?_;rintro e w5 ⟨rfl,hb5⟩;have xf5:=(HW.out w5 (HBL2.out.trans (hb5.mono HBL2.out.size))).2.2))
       have HB5:Hid (Below w.heap.size w w5):=Lib.hid (HBW.out.trans (hb5.mono HBW.out.size))
       clear hb5 x0 x1 x2 x3 x4 x5 xr xf
       go_wp2
       go_ret
       exact ⟨rfl,HB5.out⟩
end Go.Proofs.YtpobmoegmdhbpaaGreatDoor
