/- Contracts and plain lemmas (ChkB, ChkC, ChkD, ChkE, ChkF, ChkG, ChkH): no statement of the seat is proved here. -/
import Derived.Test.YtpobmoegmdhbpaaGreatDoorXc1
import Derived.Test.YtpobmoegmdhbpaaGreatDoorXs4
import Derived.Test.YtpobmoegmdhbpaaGreatDoorXw2
import Derived.Test.YtpobmoegmdhbpaaGreatDoorXl1
import Derived.Test.YtpobmoegmdhbpaaGreatDoorXs5
import Derived.Test.YtpobmoegmdhbpaaGreatDoorXf1
import Derived.Test.YtpobmoegmdhbpaaGreatDoorXl2
import Derived.Deep.RegionHeld3
import Derived.RangeFuncCalls
set_option linter.unusedSimpArgs false
set_option linter.unusedVariables false
set_option linter.unusedSectionVars false
set_option maxRecDepth 100000
set_option maxHeartbeats 3200000
namespace Go.Proofs.YtpobmoegmdhbpaaGreatDoor
open Go.RowKit Go.Shelf
attribute [local go_sem] Oper.semAt_some
theorem zfF {fn:Func} {p:Tmp} (h:fn.results=#[.cell p 4]) (tmps:Array Value) (w:World) (g:Nat) (v:Value) (hp:tmps.getD p undef=.pointer (some ⟨g,0,none⟩)) (hc:w.cell? ⟨g,0,none⟩=some v):(results fn tmps).run Tryz.prog w=.ok v w:=by
 have hp':tmps[p]?.getD undef=.pointer (some ⟨g,0,none⟩):=by simpa using hp
 simp [results,h,hp',asAddr,loadVar,isAgg,Tryz.underlying4,hc,go_sem]
theorem ziu (w:World):JM w.heap.size (fun _ W=>Below w.heap.size w W) NoM where
 lt:=fun _ _ _ _ h=>h.elim
 stay:=fun _ _ _ h hs=>⟨h.trans hs.1,fun _ h=>h.elim⟩
theorem leaveM1 {P:Program} {fn:Func} {tmps:Array Value} {R:Ending→World→Prop} {w:World} {v:Value} {D:Nat} (hK:w.heap[D]?=some (.deferred (some []))) (hr:(results fn tmps).run P (w.putObj D (.deferred none))=.ok v (w.putObj D (.deferred none))) (h:R (.returned v) (w.putObj D (.deferred none))):
 LeavesInM Fence.wide 9 P fn tmps R [{ target:=.collected D,args:=#[] }] .returning w:=⟨by simp,.inl ⟨_,_,rfl,run_takeDeferred hK,_,hr,h⟩⟩
def FalB (w:World) (e:Ending) (w':World):Prop:=e=.returned (.bool false)∧Below w.heap.size w w'
theorem zfe (n:Nd) (s:ByteArray) (hsz:sizeN n≤100000) (hno:∀ m ∈ preN n,m.name≠s) (v:Value) (A:Nat→Prop) (w:World) (hv:NdAt A w v n):
 Calls Tryz.prog 180 #[v,.string s] w (FalB w):=by
 obtain ⟨hok,hlen,ka,kc,rfl,hkk⟩:=hv.open
 have hA:Below w.heap.size w (((w.alloc (.cells #[.int .u8 n.kind,.int .i64 n.num,.string n.name,.slice ka n.kids.length kc] 34)).alloc (.cells #[.string s] 9)).alloc (.cells #[.bool false] 4)):=zaa (zaa (zaa (Below.refl _ _)))
 have HWK:=Lib.hid (walk_any n _ A _ hsz (hv.stays (Stays.of_below hA)))
 obtain ⟨hO,hS,hR⟩:=zeg w (.cells #[.int .u8 n.kind,.int .i64 n.num,.string n.name,.slice ka n.kids.length kc] 34) (.cells #[.string s] 9) (.cells #[.bool false] 4)
 have HA:=Lib.hid hA
 have HS:=Lib.hid hS
 have HR:=Lib.hid hR
 have HNO:=Lib.hid hno
 obtain ⟨n0,n1,n2,n3⟩:=cells4 hO
 clear hv hA hS hR hO hok hlen hkk hno
 refine (callsIn_wide (n:=9)).1 (callsIn_of_wp_marks Tryz.func180 rfl trivial ?_ rfl)
 simp only [Tryz.ntmps180,List.size_toArray,List.length_cons,List.length_nil,Nat.reduceAdd,Nat.reduceSub,Array.replicate_succ,Array.replicate_zero,List.push_toArray,List.append_toArray,List.nil_append,List.cons_append]
 refine wpIn_wide.2 ?_
 go_wp2_with fail
 refine HWK.out.mono ?_
 rintro e w5 ⟨rb,ka5,kc5,rfl,hrb,hbox,hn5,hb5⟩
 have HB5:=Lib.hid (HA.out.trans (hb5.mono HA.out.size))
 have HS5:=Lib.hid (zad hb5 HS.out)
 have HR5:=Lib.hid (zad hb5 HR.out)
 clear n0 n1 n2 n3 HWK
 go_wp2_with fail
 refine zfi (n0:=w5.heap.size) (Nat.le_refl _) 6 34 (gf:=177) (lb:=#[.pointer (some ⟨rb,0,none⟩)]) rfl (enters_of Tryz.func177 (by kernel_rfl) rfl)
  (walk_gives (Nat.le_refl _) hsz hbox hn5) (fun _ W=>Below w5.heap.size w5 W) NoM (ziu w5) (fun _ _ _ _ h=>h.elim) (Below.refl _ _) (fun b hb=>⟨hb.2,fun h=>h.elim⟩) ?assign ?body ?done
 case assign=>
  intro l x W K hK
  simp only [List.setIfInBounds_toArray,List.set_cons_succ,List.set_cons_zero]
  gi_wp2_with fail
  have:=hK _ W.heap.size (zah _ _) (zaa (Below.refl _ _))
  simp only [boxed,List.setIfInBounds_toArray,List.set_cons_succ,List.set_cons_zero] at this
  exact this
 case body=>
  intro l pre x W Bx hI hnx hpx hbx
  simp only [boxed,List.setIfInBounds_toArray,List.set_cons_succ,List.set_cons_zero]
  obtain ⟨r0,r1,r2,r3⟩:=cells4 hbx
  have hmem:x.2.1 ∈ preN n:=hpx.subset (List.mem_append.2 (.inr (List.mem_singleton.2 rfl)))
  have hne:=HNO.out _ hmem
  have en:(x.2.1.name.toList == s.toList)=false:=beq_eq_false_iff_ne.2 (fun h=>hne (toList_inj h))
  have cs:=zae (zad hI HS5.out) 0 rfl
  have HI:=Lib.hid hI
  clear hne hmem hI hnx hpx hbx
  by_cases h2:x.2.1.kind=2
  · have e2:(x.2.1.kind == 2)=true:=by simp [h2]
    clear h2
    gi_wp2_with fail
    exact ⟨HI.out,KM.refl _ _ _⟩
  · have e2:(x.2.1.kind == 2)=false:=by simp [h2]
    clear h2
    by_cases h3:x.2.1.kind=3
    · have e3:(x.2.1.kind == 3)=true:=by simp [h3]
      clear h3
      gi_wp2_with fail
      exact ⟨HI.out,KM.refl _ _ _⟩
    · have e3:(x.2.1.kind == 3)=false:=by simp [h3]
      clear h3
      by_cases h4:x.2.1.kind=4
      · have e4:(x.2.1.kind == 4)=true:=by simp [h4]
        clear h4
        gi_wp2_with fail
        exact ⟨HI.out,KM.refl _ _ _⟩
      · have e4:(x.2.1.kind == 4)=false:=by simp [h4]
        clear h4
        by_cases h5:x.2.1.kind=5
        · have e5:(x.2.1.kind == 5)=true:=by simp [h5]
          clear h5
          gi_wp2_with fail
          exact ⟨HI.out,KM.refl _ _ _⟩
        · have e5:(x.2.1.kind == 5)=false:=by simp [h5]
          clear h5
          gi_wp2_with fail
          exact ⟨HI.out,KM.refl _ _ _⟩
 case done=>
  intro D W hD hI hK
  have hRW:=zad hI HR5.out
  have HI:=Lib.hid hI
  have HK:=Lib.hid hK
  have HD:=Lib.hid hD
  have f:=unfrozen hRW
  have c0:=zae hRW 0 rfl
  have HRW:=Lib.hid hRW
  clear hI hK hD hRW hb5 hbox hn5 hrb
  go_wp2
  (try simp only [Exit.inBlock,Exit.then])
  have hlt:w.heap.size+1+1 < w5.heap.size:=(Array.getElem?_eq_some_iff.1 HR5.out).1
  have hD:=HD.out
  have hs:=heap_setCell_same W (w.heap.size+1+1) 0 _ _ (.bool false) HRW.out
  simp only [List.setIfInBounds_toArray,List.set_cons_zero] at hs
  have hp:((W.setCell ⟨w.heap.size+1+1,0,none⟩ (.bool false)).putObj D (.deferred none)).heap[w.heap.size+1+1]?=some (.cells #[.bool false] 4 (0,0)):=(World.putObj_heap_other (by omega)).trans hs
  refine leaveM1 (D:=D) (zga HK.out (by omega)) (zfF rfl _ _ (w.heap.size+1+1) (.bool false) rfl (zae hp 0 rfl)) ?_
  have h5:=HB5.out.size
  exact ⟨rfl,(((HB5.out.trans (HI.out.mono HB5.out.size)).setCell (show w.heap.size≤w.heap.size+1+1 by omega) _)).trans (zcz _ _ (show w.heap.size≤D by omega))⟩
end Go.Proofs.YtpobmoegmdhbpaaGreatDoor
namespace Go.Proofs.YtpobmoegmdhbpaaGreatDoor
open Go.RowKit
def OkR (w:World) (e:Ending) (w':World):Prop:=e=.returned (.tuple #[.string ⟨#[]⟩,.int .i64 0])∧Below w.heap.size w w'
theorem zlM (l:List Nd) (hk:∀ n ∈ l,n.kind≠3) (names:List ByteArray) (ka:Option Addr) (kc:Nat) (na:Option Addr) (nc:Nat) (A B:Nat→Prop) (w:World) (hl:KidsAt A w (.slice ka l.length kc) l) (hn:StrsAt B w (.slice na names.length nc) names):
 Calls Tryz.prog 181 #[.slice ka l.length kc,.slice na names.length nc] w (OkR w):=by
 have hll:=hl.form.1
 have hnl:=hn.form.1
 have HL:=Lib.hid hl
 have HN:=Lib.hid hn
 have HK:=Lib.hid hk
 unfold maxLen at hll hnl
 clear hl hn hk
 go_enter Tryz.func181,Tryz.ntmps181
 go_wp2
 go_loopw [12] (fun i wr=>∃ k:Nat,k≤l.length∧i=.int .i64 k∧Below w.heap.size w wr) (fun i _=>l.length - (intOf i).toNat)
 case atStart=>exact ⟨0,Nat.zero_le _,rfl,Below.refl _ _⟩
 case round=>
  obtain ⟨k,hkk,rfl,hbl⟩:=hrel
  have HBL:=Lib.hid hbl
  by_cases hlt:k < l.length
  · obtain ⟨b,off,cap,kb,kd,he,hb,_,_,c0,c1,c2,c3,hnd⟩:=(HL.out.stays (Stays.of_below hbl)).at hlt
    simp only [Value.slice.injEq] at he
    obtain ⟨rfl,-,rfl⟩:=he
    have i0:(0:Int)≤(k:Int):=by omega
    have i1:(k:Int) < (l.length:Int):=by omega
    have hA3:Below wr.heap.size wr (wr.alloc (.cells #[.int .u8 (at' l k).kind,.int .i64 (at' l k).num,.string (at' l k).name,.slice kb (at' l k).kids.length kd] 34)):=zaa (Below.refl _ _)
    have hk3:=zah wr (.cells #[.int .u8 (at' l k).kind,.int .i64 (at' l k).num,.string (at' l k).name,.slice kb (at' l k).kids.length kd] 34)
    have hk3':=HK.out _ (zaT hlt)
    have HBX:=Lib.hid (hbl.trans (hA3.mono hbl.size))
    have HX3:Hid (∀ w',Below (wr.alloc (.cells #[.int .u8 (at' l k).kind,.int .i64 (at' l k).num,.string (at' l k).name,.slice kb (at' l k).kids.length kd] 34)).heap.size (wr.alloc (.cells #[.int .u8 (at' l k).kind,.int .i64 (at' l k).num,.string (at' l k).name,.slice kb (at' l k).kids.length kd] 34)) w'→w'.heap[wr.heap.size]?=some (.cells #[.int .u8 (at' l k).kind,.int .i64 (at' l k).num,.string (at' l k).name,.slice kb (at' l k).kids.length kd] 34)):=Lib.hid (fun w' h=>zad h hk3)
    have HIX:Hid (∀ (s:ByteArray) w',Below (wr.alloc (.cells #[.int .u8 (at' l k).kind,.int .i64 (at' l k).num,.string (at' l k).name,.slice kb (at' l k).kids.length kd] 34)).heap.size (wr.alloc (.cells #[.int .u8 (at' l k).kind,.int .i64 (at' l k).num,.string (at' l k).name,.slice kb (at' l k).kids.length kd] 34)) w'→Calls Tryz.prog 179 #[(.agg #[.int .u8 (at' l k).kind,.int .i64 (at' l k).num,.string (at' l k).name,.slice kb (at' l k).kids.length kd]),.string s] w' fun e w2=>e=.returned (.bool false)∧Below w'.heap.size w' w2):=Lib.hid (fun s w' h=>zdm (at' l k) hk3' s _ A w' ((hnd.stays (Stays.of_below hA3)).stays (Stays.of_below h)))
    clear hbl hA3 hk3 hk3' hnd
    generalize wr=wo at *
    go_wp2
    generalize (wo.alloc (.cells #[.int .u8 (at' l k).kind,.int .i64 (at' l k).num,.string (at' l k).name,.slice kb (at' l k).kids.length kd] 34))=X at *
    go_loopw [18] (fun i wr=>∃ j:Nat,j≤names.length∧i=.int .i64 j∧Below X.heap.size X wr) (fun i _=>names.length - (intOf i).toNat)
    case atStart=>exact ⟨0,Nat.zero_le _,rfl,Below.refl _ _⟩
    case round=>
     obtain ⟨j,hjj,rfl,hbl⟩:=hrel
     have HBJ:=Lib.hid (HBX.out.trans (hbl.mono HBX.out.size))
     have HBX2:=Lib.hid hbl
     by_cases hltj:j < names.length
     · obtain ⟨bq,oq,cq,he,hb2,_,_,d0,hsz⟩:=(HN.out.stays (Stays.of_below HBJ.out)).at hltj
       simp only [Value.slice.injEq] at he
       obtain ⟨rfl,-,rfl⟩:=he
       have j0:(0:Int)≤(j:Int):=by omega
       have j1:(j:Int) < (names.length:Int):=by omega
       obtain ⟨e0,e1,e2,e3⟩:=cells4 (HX3.out wr hbl)
       have HC:=Lib.hid (HIX.out (at' names j) wr hbl)
       clear hbl c0 c1 c2 c3
       go_wp2_with fail
       refine HC.out.mono ?_
       rintro e w5 ⟨rfl,hb5⟩
       have HB5:=Lib.hid (HBX2.out.trans (hb5.mono HBX2.out.size))
       clear hb5 e0 e1 e2 e3 d0
       go_wp2
       go_roundw
       case rel=>exact ⟨j+1,by omega,by go_num,HB5.out⟩
       case measure=>simp [intOf];omega
     · obtain rfl:j=names.length:=by omega
       have hlt':¬ (names.length:Int) < (names.length:Int):=by omega
       clear hbl
       go_wp2
       go_roundw
       case rel=>exact ⟨k+1,by omega,by go_num,HBJ.out⟩
       case measure=>simp [intOf];omega
  · obtain rfl:k=l.length:=by omega
    have hlt':¬ (l.length:Int) < (l.length:Int):=by omega
    clear hbl
    go_wp2
    go_ret2
    exact ⟨rfl,HBL.out⟩
end Go.Proofs.YtpobmoegmdhbpaaGreatDoor
namespace Go.Proofs.YtpobmoegmdhbpaaGreatDoor
open Go.RowKit
theorem zjr (m a:Nd) (g:Nat) (ka:Option Addr) (kc:Nat) (ja:Option Addr) (jc:Nat) (w:World) (hg:w.heap[g]?=some (.cells #[.int .u8 a.kind,.int .i64 a.num,.string a.name,.slice ja a.kids.length jc] 34)) (hne:m.name≠a.name):
 Calls Tryz.prog 183 #[(.agg #[.int .u8 m.kind,.int .i64 m.num,.string m.name,.slice ka m.kids.length kc]),.pointer (some ⟨g,0,none⟩)] w (FalB w):=by
 have hA:Below w.heap.size w (w.alloc (.cells #[.int .u8 m.kind,.int .i64 m.num,.string m.name,.slice ka m.kids.length kc] 34)):=zaa (Below.refl _ _)
 have c2:=zae (zad hA hg) 2 rfl
 obtain ⟨n0,n1,n2,n3⟩:=cells4 (zah w (.cells #[.int .u8 m.kind,.int .i64 m.num,.string m.name,.slice ka m.kids.length kc] 34))
 have HA:=Lib.hid hA
 have he:(m.name.toList == a.name.toList)=false:=beq_eq_false_iff_ne.2 (fun e=>hne (toList_inj e))
 clear hA hg hne
 go_enter Tryz.func183,Tryz.ntmps183
 go_wp2
 go_ret
 exact ⟨rfl,HA.out⟩
theorem zhV (l:List Nd) (a:Nd) (g:Nat) (ka:Option Addr) (kc:Nat) (ja:Option Addr) (jc:Nat) (A:Nat→Prop) (w:World) (hv:KidsAt A w (.slice ka l.length kc) l) (hg:w.heap[g]?=some (.cells #[.int .u8 a.kind,.int .i64 a.num,.string a.name,.slice ja a.kids.length jc] 34)) (hne:∀ m ∈ l,m.name≠a.name):
 Calls Tryz.prog 221 #[.slice ka l.length kc,.func (.func 183) #[] #[.pointer (some ⟨g,0,none⟩)]] w fun e w'=>e=.returned (.int .i64 (-1))∧Below w.heap.size w w':=by
 have hlen:=hv.form.1
 have HV:Hid (KidsAt A w (.slice ka l.length kc) l):=Lib.hid hv
 have HG:=Lib.hid hg
 have HNO:=Lib.hid hne
 unfold maxLen at hlen
 clear hv hg hne
 go_enter Tryz.func221,Tryz.ntmps221
 go_wp2
 go_loopw [8] (fun i wr=>∃ j:Nat,j≤l.length∧i=.int .i64 j∧Below w.heap.size w wr) (fun i _=>l.length - (intOf i).toNat)
 case atStart=>exact ⟨0,Nat.zero_le _,rfl,Below.refl _ _⟩
 case round=>
  obtain ⟨j,hjk,rfl,hbl⟩:=hrel
  have HBL:=Lib.hid hbl
  by_cases hlt:j < l.length
  · obtain ⟨b,off,cap,kb,kd,he,hb,_,_,c0,c1,c2,c3,hnd⟩:=(HV.out.stays (Stays.of_below hbl)).at hlt
    simp only [Value.slice.injEq] at he
    obtain ⟨rfl,-,rfl⟩:=he
    have i0:(0:Int)≤(j:Int):=by omega
    have i1:(j:Int) < (l.length:Int):=by omega
    have HC:=Lib.hid (zjr (at' l j) a g kb kd ja jc wr (zad hbl HG.out) (HNO.out _ (zaT hlt)))
    clear hbl hnd
    go_wp2_with fail
    refine HC.out.mono ?_
    rintro e w1 ⟨rfl,hb1⟩
    have HB1:=Lib.hid (HBL.out.trans (hb1.mono HBL.out.size))
    clear hb1 HC
    go_wp2
    go_roundw
    case rel=>exact ⟨j+1,by omega,by go_num,HB1.out⟩
    case measure=>simp [intOf];omega
  · obtain rfl:j=l.length:=by omega
    have hlt':¬ (l.length:Int) < (l.length:Int):=by omega
    clear hbl
    go_wp2
    go_ret
    exact ⟨rfl,HBL.out⟩
theorem zfh (l:List Nd) (a:Nd) (g:Nat) (ka:Option Addr) (kc:Nat) (ja:Option Addr) (jc:Nat) (A:Nat→Prop) (w:World) (hv:KidsAt A w (.slice ka l.length kc) l) (hg:w.heap[g]?=some (.cells #[.int .u8 a.kind,.int .i64 a.num,.string a.name,.slice ja a.kids.length jc] 34)) (hne:∀ m ∈ l,m.name≠a.name):
 Calls Tryz.prog 182 #[.slice ka l.length kc,.func (.func 183) #[] #[.pointer (some ⟨g,0,none⟩)]] w (FalB w):=by
 have HC:=Lib.hid (zhV l a g ka kc ja jc A w hv hg hne)
 clear hv hg hne
 go_enter Tryz.func182,Tryz.ntmps182
 go_wp2_with (go_at_call 221;refine HC.out.mono ?_;rintro e w1 ⟨rfl,hb1⟩;have HB1:=Lib.hid hb1;clear hb1)
 go_ret
 exact ⟨rfl,HB1.out⟩
theorem znu (n:Nd) (hk:(1≤n.kind∧n.kind≤23)∨n.kind=54∨n.kind=55∨n.kind=57) (v:Value) (A:Nat→Prop) (w:World) (hv:NdAt A w v n):Calls Tryz.prog 135 #[v] w (OkR w):=by
 obtain ⟨_,_,ka,kc,rfl,_⟩:=hv.open
 have hA:Below w.heap.size w (w.alloc (.cells #[.int .u8 n.kind,.int .i64 n.num,.string n.name,.slice ka n.kids.length kc] 34)):=zaa (Below.refl _ _)
 obtain ⟨n0,n1,n2,n3⟩:=cells4 (zah w (.cells #[.int .u8 n.kind,.int .i64 n.num,.string n.name,.slice ka n.kids.length kc] 34))
 have HA:=Lib.hid hA
 have ne:∀ x:Int,x=56∨(40≤x∧x≤53)→(n.kind == x)=false:=fun x hx=>by simp;omega
 have e56:=ne 56 (by omega)
 have e40:=ne 40 (by omega)
 have e41:=ne 41 (by omega)
 have e42:=ne 42 (by omega)
 have e43:=ne 43 (by omega)
 have e44:=ne 44 (by omega)
 have e45:=ne 45 (by omega)
 have e46:=ne 46 (by omega)
 have e47:=ne 47 (by omega)
 have e48:=ne 48 (by omega)
 have e49:=ne 49 (by omega)
 have e50:=ne 50 (by omega)
 have e51:=ne 51 (by omega)
 have e52:=ne 52 (by omega)
 have e53:=ne 53 (by omega)
 clear hv hA hk ne
 go_enter Tryz.func135,Tryz.ntmps135
 go_wp2
 go_ret2
 exact ⟨rfl,HA.out⟩
end Go.Proofs.YtpobmoegmdhbpaaGreatDoor
namespace Go.Proofs.YtpobmoegmdhbpaaGreatDoor
open Go.RowKit
theorem zns (k num:Int) (s x:ByteArray) (e:Nd) (hk:k=40∨k=41∨k=42) (hz:sizeN e≤100000) (hm:∀ m ∈ preN e,m.name≠x) (v:Value) (A:Nat→Prop) (w:World) (hv:NdAt A w v (.mk k num s [vN x,e])):Calls Tryz.prog 135 #[v] w (OkR w):=by
 obtain ⟨_,_,ka,kc,he0,hkk⟩:=hv.open
 have he':v=.agg #[.int .u8 k,.int .i64 num,.string s,.slice ka 2 kc]:=he0
 subst he'
 obtain ⟨b,off,cap,kb,kd,he,hb,_,_,c0,c1,c2,c3,hnd⟩:=hkk.at (j:=0) (by simp [Nd.kids])
 obtain ⟨b',off',cap',kb',kd',he2,_,_,_,d0,d1,d2,d3,hnd2⟩:=hkk.at (j:=1) (by simp [Nd.kids])
 simp only [Value.slice.injEq] at he he2
 obtain ⟨rfl,-,rfl⟩:=he
 obtain ⟨he2,-,-⟩:=he2
 simp only [Option.some.injEq,Addr.mk.injEq,and_true] at he2
 obtain ⟨rfl,rfl⟩:=he2
 have e0:at' (Nd.mk k num s [vN x,e]).kids 0=vN x:=rfl
 have e1:at' (Nd.mk k num s [vN x,e]).kids 1=e:=rfl
 rw [e0] at c0 c1 c2 c3 hnd
 rw [e1] at d0 d1 d2 d3 hnd2
 simp only [Nat.zero_mul,Nat.add_zero,Nat.one_mul] at c0 c1 c2 c3 d0 d1 d2 d3
 have hA:Below w.heap.size w (w.alloc (.cells #[.int .u8 k,.int .i64 num,.string s,.slice (some ⟨b,off,none⟩) 2 kc] 34)):=zaa (Below.refl _ _)
 have hO:=zah w (.cells #[.int .u8 k,.int .i64 num,.string s,.slice (some ⟨b,off,none⟩) 2 kc] 34)
 have HX:Hid (∀ w',Below w.heap.size w w'→(w'.cell? ⟨b,off,none⟩=some (.int .u8 (vN x).kind)∧w'.cell? ⟨b,off+1,none⟩=some (.int .i64 (vN x).num)∧w'.cell? ⟨b,off+2,none⟩=some (.string (vN x).name)∧w'.cell? ⟨b,off+3,none⟩=some (.slice kb (vN x).kids.length kd))∧(w'.cell? ⟨b,off+4,none⟩=some (.int .u8 e.kind)∧w'.cell? ⟨b,off+4+1,none⟩=some (.int .i64 e.num)∧w'.cell? ⟨b,off+4+2,none⟩=some (.string e.name)∧w'.cell? ⟨b,off+4+3,none⟩=some (.slice kb' e.kids.length kd'))):=Lib.hid (fun w' h=>⟨⟨(h.cell (p:=⟨b,_,none⟩) hb).trans c0,(h.cell (p:=⟨b,_,none⟩) hb).trans c1,(h.cell (p:=⟨b,_,none⟩) hb).trans c2,(h.cell (p:=⟨b,_,none⟩) hb).trans c3⟩,⟨(h.cell (p:=⟨b,_,none⟩) hb).trans d0,(h.cell (p:=⟨b,_,none⟩) hb).trans d1,(h.cell (p:=⟨b,_,none⟩) hb).trans d2,(h.cell (p:=⟨b,_,none⟩) hb).trans d3⟩⟩)
 have HIN:Hid (∀ w',Below w.heap.size w w'→Calls Tryz.prog 179 #[(.agg #[.int .u8 (vN x).kind,.int .i64 (vN x).num,.string (vN x).name,.slice kb (vN x).kids.length kd]),.string (vN x).name] w' fun e w2=>e=.returned (.bool false)∧Below w'.heap.size w' w2):=Lib.hid (fun w' h=>zdm (vN x) (by simp [vN,Nd.kind]) (vN x).name _ A w' (hnd.stays (Stays.of_below h)))
 have HME:Hid (∀ w',Below w.heap.size w w'→Calls Tryz.prog 180 #[(.agg #[.int .u8 e.kind,.int .i64 e.num,.string e.name,.slice kb' e.kids.length kd']),.string (vN x).name] w' (FalB w')):=Lib.hid (fun w' h=>zfe e x hz hm _ A w' (hnd2.stays (Stays.of_below h)))
 have HO:=Lib.hid hO
 have HA:=Lib.hid hA
 have e56:(k == 56)=false:=by simp;omega
 have ek:(k == 40)=true∨((k == 40)=false∧(k == 41)=true)∨((k == 40)=false∧(k == 41)=false∧(k == 42)=true):=by rcases hk with rfl|rfl|rfl <;> simp
 obtain ⟨⟨a0,a1,a2,a3⟩,⟨g0,g1,g2,g3⟩⟩:=HX.out _ hA
 obtain ⟨n0,n1,n2,n3⟩:=cells4 hO
 clear hv hkk hnd hnd2 hA hO c0 c1 c2 c3 d0 d1 d2 d3 hk hm e0 e1 he0
 rcases ek with e40|⟨e40,e41⟩|⟨e40,e41,e42⟩
 all_goals
  go_enter Tryz.func135,Tryz.ntmps135
  go_wp2_with (first
   | (go_at_call 179;refine (HIN.out _ HA.out).mono ?_;rintro e w1 ⟨rfl,hb1⟩;have HB1:=Lib.hid (HA.out.trans (hb1.mono HA.out.size));obtain ⟨⟨a0,a1,a2,a3⟩,⟨g0,g1,g2,g3⟩⟩:=HX.out _ HB1.out;obtain ⟨n0,n1,n2,n3⟩:=cells4 (zad hb1 HO.out);clear hb1)
   | (go_at_call 180;refine (HME.out _ HB1.out).mono ?_;rintro e w2 ⟨rfl,hb2⟩;have HB2:=Lib.hid (HB1.out.trans (hb2.mono HB1.out.size));clear hb2))
  go_ret2
  exact ⟨rfl,HB2.out⟩
theorem znF (x t s:ByteArray) (ht:t.size≤maxLen) (hs:s.size≤maxLen) (ka:Option Addr) (kc:Nat) (A:Nat→Prop) (w w1:World) (hl:KidsAt A w (.slice ka 1 kc) [vN x]) (hb:Below (w.alloc (.cells #[.string t,.string s] 9)).heap.size (w.alloc (.cells #[.string t,.string s] 9)) w1):
 Calls Tryz.prog 181 #[.slice ka 1 kc,.slice (some ⟨w.heap.size,0,none⟩) 2 2] w1 (OkR w1):=by
 have hb0:Below w.heap.size w (w.alloc (.cells #[.string t,.string s] 9)):=zaa (Below.refl _ _)
 exact zlM [vN x] (fun n hn=>by rw [List.mem_singleton.1 hn];simp [vN,Nd.kind]) [t,s] ka kc (some ⟨w.heap.size,0,none⟩) 2 A Any _ ((hl.stays (Stays.of_below hb0)).stays (Stays.of_below hb)) ((ziE (zah w _) trivial ht hs).stays (Stays.of_below hb))
theorem znK (k num:Int) (s x:ByteArray) (hk:k=44∨k=45) (v:Value) (A:Nat→Prop) (w:World) (hv:NdAt A w v (.mk k num s [vN x])):Calls Tryz.prog 135 #[v] w (OkR w):=by
 obtain ⟨hok,_,ka,kc,he0,hkk⟩:=hv.open
 have hs:s.size≤maxLen:=hok.2.2
 have he':v=.agg #[.int .u8 k,.int .i64 num,.string s,.slice ka 1 kc]:=he0
 subst he'
 obtain ⟨b,off,cap,kb,kd,he,hb,_,_,c0,c1,c2,c3,hnd⟩:=hkk.at (j:=0) (by simp [Nd.kids])
 have hx:(vN x).name.size≤maxLen:=hnd.open.1.2.2
 simp only [Value.slice.injEq] at he
 obtain ⟨rfl,-,rfl⟩:=he
 have e0:at' (Nd.mk k num s [vN x]).kids 0=vN x:=rfl
 rw [e0] at c0 c1 c2 c3 hnd
 simp only [Nat.zero_mul,Nat.add_zero] at c0 c1 c2 c3
 have hA:Below w.heap.size w (w.alloc (.cells #[.int .u8 k,.int .i64 num,.string s,.slice (some ⟨b,off,none⟩) 1 kc] 34)):=zaa (Below.refl _ _)
 have hO:=zah w (.cells #[.int .u8 k,.int .i64 num,.string s,.slice (some ⟨b,off,none⟩) 1 kc] 34)
 have HK1:Hid (KidsAt A w (.slice (some ⟨b,off,none⟩) 1 kc) [vN x]):=Lib.hid hkk
 have HA:=Lib.hid hA
 have e56:(k == 56)=false:=by simp;omega
 have e40:(k == 40)=false:=by simp;omega
 have e41:(k == 41)=false:=by simp;omega
 have e42:(k == 42)=false:=by simp;omega
 have e43:(k == 43)=false:=by simp;omega
 have ek:(k == 44)=true∨((k == 44)=false∧(k == 45)=true):=by rcases hk with rfl|rfl <;> simp
 obtain ⟨n0,n1,n2,n3⟩:=cells4 hO
 clear hv hkk hnd hk e0 he0 hok
 rcases ek with e44|⟨e44,e45⟩
 all_goals
  go_enter Tryz.func135,Tryz.ntmps135
  go_upto_region 15 with fail
  clear n0 n1 n2 n3
  generalize (w.alloc (.cells #[.int .u8 k,.int .i64 num,.string s,.slice (some ⟨b,off,none⟩) 1 kc] 34))=W at *
  have HX:Hid (∀ w',Below W.heap.size W w'→(w'.cell? ⟨w.heap.size,0,none⟩=some (.int .u8 k)∧w'.cell? ⟨w.heap.size,1,none⟩=some (.int .i64 num)∧w'.cell? ⟨w.heap.size,2,none⟩=some (.string s)∧w'.cell? ⟨w.heap.size,3,none⟩=some (.slice (some ⟨b,off,none⟩) 1 kc))∧(w'.cell? ⟨b,off,none⟩=some (.int .u8 (vN x).kind)∧w'.cell? ⟨b,off+1,none⟩=some (.int .i64 (vN x).num)∧w'.cell? ⟨b,off+2,none⟩=some (.string (vN x).name)∧w'.cell? ⟨b,off+3,none⟩=some (.slice kb (vN x).kids.length kd))):=Lib.hid (fun w' h=>⟨cells4 (zad h hO),⟨((hA.trans (h.mono hA.size)).cell (p:=⟨b,_,none⟩) hb).trans c0,((hA.trans (h.mono hA.size)).cell (p:=⟨b,_,none⟩) hb).trans c1,((hA.trans (h.mono hA.size)).cell (p:=⟨b,_,none⟩) hb).trans c2,((hA.trans (h.mono hA.size)).cell (p:=⟨b,_,none⟩) hb).trans c3⟩⟩)
  have HAL:Hid (∀ w' w1,Below W.heap.size W w'→Below (w'.alloc (.cells #[.string (vN x).name,.string s] 9)).heap.size (w'.alloc (.cells #[.string (vN x).name,.string s] 9)) w1→Calls Tryz.prog 181 #[.slice (some ⟨b,off,none⟩) 1 kc,.slice (some ⟨w'.heap.size,0,none⟩) 2 2] w1 (OkR w1)):=Lib.hid (fun w' w1 h h1=>znF x _ s hx hs _ kc A w' w1 (HK1.out.stays (Stays.of_below (HA.out.trans (h.mono HA.out.size)))) h1)
  obtain ⟨⟨n0,n1,n2,n3⟩,⟨a0,a1,a2,a3⟩⟩:=HX.out W (Below.refl _ _)
  clear hA hO c0 c1 c2 c3 hs hx
  go_region_held3 (fun w'=>(w'.cell? ⟨w.heap.size,0,none⟩=some (.int .u8 k)∧w'.cell? ⟨w.heap.size,1,none⟩=some (.int .i64 num)∧w'.cell? ⟨w.heap.size,2,none⟩=some (.string s)∧w'.cell? ⟨w.heap.size,3,none⟩=some (.slice (some ⟨b,off,none⟩) 1 kc))∧(w'.cell? ⟨b,off,none⟩=some (.int .u8 (vN x).kind)∧w'.cell? ⟨b,off+1,none⟩=some (.int .i64 (vN x).num)∧w'.cell? ⟨b,off+2,none⟩=some (.string (vN x).name)∧w'.cell? ⟨b,off+3,none⟩=some (.slice kb (vN x).kids.length kd)))
   (with_reducible exact HX.out _ (by (repeat (with_reducible first|exact Below.refl _ _|refine zab ?_|refine zaa ?_|(apply zac;focus assumption)))))
   (first|(go_at_call 181;(with_reducible refine (HAL.out _ _ (by (repeat (with_reducible first|exact Below.refl _ _|refine zab ?_|refine zaa ?_|(apply zac;focus assumption)))) (by (repeat (with_reducible first|exact Below.refl _ _|refine zab ?_|refine zaa ?_|(apply zac;focus assumption))))).mono ?_);rintro e w1 ⟨rfl,hb1⟩))
  have HB1:Hid (Below W.heap.size W w1):=Lib.hid (by (repeat (with_reducible first|exact Below.refl _ _|refine zab ?_|refine zaa ?_|(apply zac;focus assumption))))
  clear hb1
  go_wp2
  go_ret2
  exact ⟨rfl,HA.out.trans (HB1.out.mono HA.out.size)⟩
end Go.Proofs.YtpobmoegmdhbpaaGreatDoor
namespace Go.Proofs.YtpobmoegmdhbpaaGreatDoor
open Go.RowKit
theorem zmM (k num:Int) (s:ByteArray) (l:List Nd) (hk:k=50∨k=51) (hnd:∀ i j,i < j→j < l.length→(at' l i).name≠(at' l j).name) (h10:l.length≤100000) (v:Value) (A:Nat→Prop) (w:World) (hv:NdAt A w v (.mk k num s l)):Calls Tryz.prog 135 #[v] w (OkR w):=by
 obtain ⟨_,_,ka,kc,he0,hkk⟩:=hv.open
 have he':v=.agg #[.int .u8 k,.int .i64 num,.string s,.slice ka l.length kc]:=he0
 subst he'
 have hA:Below w.heap.size w (w.alloc (.cells #[.int .u8 k,.int .i64 num,.string s,.slice ka l.length kc] 34)):=zaa (Below.refl _ _)
 have hO:=zah w (.cells #[.int .u8 k,.int .i64 num,.string s,.slice ka l.length kc] 34)
 have HK:Hid (RowsAt NdE A w (.slice ka l.length kc) l):=Lib.hid (zar.1 hkk)
 have HA:=Lib.hid hA
 have HND:=Lib.hid hnd
 have ne:∀ x:Int,x=56∨(40≤x∧x≤49)→(k == x)=false:=fun x hx=>by simp;omega
 have e56:=ne 56 (by omega)
 have e40:=ne 40 (by omega)
 have e41:=ne 41 (by omega)
 have e42:=ne 42 (by omega)
 have e43:=ne 43 (by omega)
 have e44:=ne 44 (by omega)
 have e45:=ne 45 (by omega)
 have e46:=ne 46 (by omega)
 have e47:=ne 47 (by omega)
 have e48:=ne 48 (by omega)
 have e49:=ne 49 (by omega)
 have ek:(k == 50)=true∨((k == 50)=false∧(k == 51)=true):=by rcases hk with rfl|rfl <;> simp
 obtain ⟨n0,n1,n2,n3⟩:=cells4 hO
 have HO:=Lib.hid hO
 clear hv hkk hk he0 hnd hA hO ne
 rcases ek with e50|⟨e50,e51⟩
 all_goals
  go_enter Tryz.func135,Tryz.ntmps135
  go_wp2
  generalize (w.alloc (.cells #[.int .u8 k,.int .i64 num,.string s,.slice ka l.length kc] 34))=W at *
  go_loopw [100] (fun i wr=>∃ j:Nat,j≤l.length∧i=.int .i64 j∧Below W.heap.size W wr) (fun i _=>l.length - (intOf i).toNat)
  case atStart=>exact ⟨0,Nat.zero_le _,rfl,Below.refl _ _⟩
  case round=>
   obtain ⟨j,hjj,rfl,hbl⟩:=hrel
   have HBL:=Lib.hid hbl
   have HBW:=Lib.hid (HA.out.trans (hbl.mono HA.out.size))
   clear n0 n1 n2 n3
   by_cases hlt:j < l.length
   · have hrow:=HK.out.stays (Stays.of_below HBW.out) (A':=A)
     have hcap:=hrow.vcap
     obtain ⟨b,off,cap,kb,kd,he,hb,_,_,c0,c1,c2,c3,hnn⟩:=(zar.2 hrow:KidsAt A wr (.slice ka l.length kc) l).at hlt
     simp only [Value.slice.injEq] at he
     obtain ⟨rfl,-,rfl⟩:=he
     have i0:(0:Int)≤(j:Int):=by omega
     have i1:(j:Int) < (l.length:Int):=by omega
     have i2:(j:Int)≤(kc:Int):=by omega
     have i3:¬ kc=0:=by omega
     have i4:j≤kc:=by omega
     obtain ⟨n0,n1,n2,n3⟩:=cells4 (zad hbl HO.out)
     have hws:w.heap.size < wr.heap.size:=(Array.getElem?_eq_some_iff.1 (zad hbl HO.out)).1
     have hA3:Below wr.heap.size wr (wr.alloc (.cells #[.int .u8 (at' l j).kind,.int .i64 (at' l j).num,.string (at' l j).name,.slice kb (at' l j).kids.length kd] 34)):=zaa (Below.refl _ _)
     have hC:Calls Tryz.prog 182 #[.slice (some ⟨b,off,none⟩) j kc,.func (.func 183) #[] #[.pointer (some ⟨wr.heap.size,0,none⟩)]] (wr.alloc (.cells #[.int .u8 (at' l j).kind,.int .i64 (at' l j).num,.string (at' l j).name,.slice kb (at' l j).kids.length kd] 34)) (FalB (wr.alloc (.cells #[.int .u8 (at' l j).kind,.int .i64 (at' l j).num,.string (at' l j).name,.slice kb (at' l j).kids.length kd] 34))):=by
      have hl:(l.take j).length=j:=by simp;omega
      have:=zfh (l.take j) (at' l j) wr.heap.size (some ⟨b,off,none⟩) kc kb kd A (wr.alloc (.cells #[.int .u8 (at' l j).kind,.int .i64 (at' l j).num,.string (at' l j).name,.slice kb (at' l j).kids.length kd] 34)) (by rw [hl];exact zar.2 ((hrow.take (k:=j) (by omega)).stays (Stays.of_below hA3))) (zah wr _) (fun m hm=>by
       obtain ⟨i,hi,rfl⟩:=List.getElem_of_mem hm
       rw [hl] at hi
       have:=HND.out i j hi hlt
       rwa [List.getElem_take,← zax (by omega)])
      rwa [hl] at this
     have HC:=Lib.hid hC
     have HX:=Lib.hid (hbl.trans (hA3.mono hbl.size))
     clear hbl hrow hcap hnn hA3 hC
     go_wp2_with (first|(go_at_call 182;refine HC.out.mono ?_;rintro e w5 ⟨rfl,hb5⟩;have HB5:=Lib.hid (HX.out.trans (hb5.mono HX.out.size));clear hb5))
     clear n0 n1 n2 n3 hws
     go_wp2
     go_roundw
     case rel=>exact ⟨j+1,by omega,by go_num,HB5.out⟩
     case measure=>simp [intOf];omega
   · obtain rfl:j=l.length:=by omega
     have hlt':¬ (l.length:Int) < (l.length:Int):=by omega
     clear hbl
     go_wp2
     go_ret2
     exact ⟨rfl,HBW.out⟩
theorem zow (num:Int) (s x:ByteArray) (n0 n1 n2:Nd) (hx:NmOk x) (v:Value) (A:Nat→Prop) (w:World) (hv:NdAt A w v (.mk 52 num s [n0,n1,n2,vN x])):Calls Tryz.prog 135 #[v] w (OkR w):=by
 obtain ⟨_,_,ka,kc,he0,hkk⟩:=hv.open
 have he':v=.agg #[.int .u8 52,.int .i64 num,.string s,.slice ka 4 kc]:=he0
 subst he'
 have hA:Below w.heap.size w (w.alloc (.cells #[.int .u8 52,.int .i64 num,.string s,.slice ka 4 kc] 34)):=zaa (Below.refl _ _)
 obtain ⟨b,off,cap,kb,kd,he,hb,_,_,c0,c1,c2,c3,hnd⟩:=(hkk.stays (Stays.of_below hA) (A':=A)).at (j:=3) (by simp [Nd.kids])
 simp only [Value.slice.injEq] at he
 obtain ⟨rfl,-,rfl⟩:=he
 have e0:at' (Nd.mk 52 num s [n0,n1,n2,vN x]).kids 3=vN x:=rfl
 rw [e0] at c0 c1 c2 c3 hnd
 simp only [show 3 * 4=12 from rfl] at c0 c1 c2 c3
 have HC:=Lib.hid (zcM (vN x) (zaQ 2 x (.inl rfl) hx) (fun v A w hv=>zdC 2 0 x false (.inr ⟨.inl rfl,rfl⟩) v A w hv) _ A _ hnd)
 obtain ⟨m0,m1,m2,m3⟩:=cells4 (zah w (.cells #[.int .u8 52,.int .i64 num,.string s,.slice (some ⟨b,off,none⟩) 4 kc] 34))
 have HA:=Lib.hid hA
 clear hv hkk hnd hA he0 e0
 go_enter Tryz.func135,Tryz.ntmps135
 go_wp2_with (go_at_call 184;refine HC.out.mono ?_;rintro e w1 ⟨rfl,hb1⟩;have HB1:=Lib.hid (HA.out.trans (hb1.mono HA.out.size));clear hb1)
 go_ret2
 exact ⟨rfl,HB1.out⟩
theorem zmH (num:Int) (s t:ByteArray) (c n1 n2 n3:Nd) (hc:isLeaf c) (hc0:c.kind=1→0≤c.num) (hp:Passes 214 (nodeN 16 ByteArray.empty [nodeN 5 t [],c])) (v:Value) (A:Nat→Prop) (w:World) (hv:NdAt A w v (.mk 53 num s [nodeN 16 ByteArray.empty [nodeN 5 t [],c],n1,n2,n3])):Calls Tryz.prog 135 #[v] w (OkR w):=by
 obtain ⟨_,_,ka,kc,he0,hkk⟩:=hv.open
 have he':v=.agg #[.int .u8 53,.int .i64 num,.string s,.slice ka 4 kc]:=he0
 subst he'
 have hA:Below w.heap.size w (w.alloc (.cells #[.int .u8 53,.int .i64 num,.string s,.slice ka 4 kc] 34)):=zaa (Below.refl _ _)
 obtain ⟨b,off,cap,kb,kd,he,hb,_,_,c0,c1,c2,c3,hnd⟩:=(hkk.stays (Stays.of_below hA) (A':=A)).at (j:=0) (by simp [Nd.kids])
 simp only [Value.slice.injEq] at he
 obtain ⟨rfl,-,rfl⟩:=he
 have e0:at' (Nd.mk 53 num s [nodeN 16 ByteArray.empty [nodeN 5 t [],c],n1,n2,n3]).kids 0=nodeN 16 ByteArray.empty [nodeN 5 t [],c]:=rfl
 rw [e0] at c0 c1 c2 c3 hnd
 simp only [Nat.zero_mul,Nat.add_zero] at c0 c1 c2 c3
 have HC:=Lib.hid (zcM _ hp (fun v A w hv=>zoh 16 0 t ByteArray.empty c hc hc0 v A w hv) _ A _ hnd)
 obtain ⟨m0,m1,m2,m3⟩:=cells4 (zah w (.cells #[.int .u8 53,.int .i64 num,.string s,.slice (some ⟨b,off,none⟩) 4 kc] 34))
 have HA:=Lib.hid hA
 clear hv hkk hnd hA he0 e0 hp hc hc0
 go_enter Tryz.func135,Tryz.ntmps135
 go_wp2_with (go_at_call 184;refine HC.out.mono ?_;rintro e w1 ⟨rfl,hb1⟩;have HB1:=Lib.hid (HA.out.trans (hb1.mono HA.out.size));clear hb1)
 go_ret2
 exact ⟨rfl,HB1.out⟩
theorem zlC (n:Nd) (h:RejOk n) (hz:sizeN n≤100000) (v:Value) (A:Nat→Prop) (w:World) (hv:NdAt A w v n):Calls Tryz.prog 135 #[v] w (OkR w):=by
 cases n with
 | mk k num s kids=>
   rcases h with ⟨hk,x,e,rfl,hm⟩|⟨hk,x,rfl⟩|⟨hk,args,rfl,hnd⟩|⟨hk,a,b,c,x,rfl,hx⟩|⟨hk,t,c,b1,b2,d,rfl,hc,hc0,hp⟩|hk
   · have:sizeN e≤100000:=by rw [sizeN,sizeL,sizeL] at hz;omega
     exact zns k num s x e hk this hm v A w hv
   · exact znK k num s x hk v A w hv
   · refine zmM k num s (args.map vN) hk (fun i j hij hj=>?_) (by have:=zbp (args.map vN);rw [sizeN] at hz;omega) v A w hv
     have hj2:j < args.length:=by simpa using hj
     rw [zbE _ (Nat.lt_trans hij hj2),zbE _ hj2]
     exact zfL hnd hij hj2
   · obtain rfl:k=52:=hk
     exact zow num s x a b c hx v A w hv
   · obtain rfl:k=53:=hk
     exact zmH num s t c b1 b2 d hc hc0 hp v A w hv
   · exact znu _ hk v A w hv
end Go.Proofs.YtpobmoegmdhbpaaGreatDoor
namespace Go.Proofs.YtpobmoegmdhbpaaGreatDoor
open Go.RowKit Go.Shelf
attribute [local go_sem] Oper.semAt_some
def boxed2 (a:Act) (p q r s:Nat) (x:Hand) (B:Nat):Act:={ tmps:=(((a.tmps.setIfInBounds p x.1).setIfInBounds q (.agg #[.int .u8 x.2.1.kind,.int .i64 x.2.1.num,.string x.2.1.name,.slice x.2.2.1 x.2.1.kids.length x.2.2.2])).setIfInBounds r x.1).setIfInBounds s (.pointer (some ⟨B,0,none⟩)),defers:=[] }
theorem zeV {P:Program} {g:Operand} {p q:Tmp} {assign body:Code} {Q:Exit→Act→World→Prop} {a:Act} {w:World} {n0:Nat} (hn0:n0≤w.heap.size) (r s:Nat) (t:TypeId)
 {gf:Nat} {lb:Array Value} (hg:a.eval g=.func (.func gf) #[] lb) (eg:∀ args w,(callFunc gf args).run P w=.ok (.enter gf args) w)
 {A:Nat→Prop} {xs:List Nd} (hgives:Gives P n0 gf lb A w xs)
 (I:List Nd→World→Prop) (MB:World→Nat→Prop) (hI:JM n0 I MB) (hcells:∀ pre W b,I pre W→MB W b→∃ o:Obj,W.heap[b]?=some o∧o.isCl=true)
 (h0:I [] w) (hA:∀ b,A b→b < w.heap.size∧¬ MB w b)
 (hassign:∀ (l:Nat) (x:Hand) (W:World) (K:Act→World→Prop),
   (∀ W1 B,W1.heap[B]?=some (.cells #[.int .u8 x.2.1.kind,.int .i64 x.2.1.num,.string x.2.1.name,.slice x.2.2.1 x.2.1.kids.length x.2.2.2] t (0,0))→Below W.heap.size W W1→K (boxed2 a p q r s x B) W1)→
   assign.wpIn (Fence.wide.inRound l) 9 P (Exit.then K (fun _ _ _=>False)) { tmps:=(a.tmps.setIfInBounds p x.1).setIfInBounds q (.agg #[.int .u8 x.2.1.kind,.int .i64 x.2.1.num,.string x.2.1.name,.slice x.2.2.1 x.2.1.kids.length x.2.2.2]),defers:=[] } W)
 (hbody:∀ (l:Nat) (pre:List Nd) (x:Hand) (W:World) (B:Nat),I pre W→NdAt (fun b=>b≠l) W (ndV x) x.2.1→pre ++ [x.2.1] <+:xs→W.heap[B]?=some (.cells #[.int .u8 x.2.1.kind,.int .i64 x.2.1.num,.string x.2.1.name,.slice x.2.2.1 x.2.1.kids.length x.2.2.2] t (0,0))→
   body.wpIn (Fence.wide.inRound l) 9 P (fun e _ W'=>e=.normal∧I (pre ++ [x.2.1]) W'∧KM n0 MB W W') (boxed2 a p q r s x B) W)
 (hdone:∀ (D:Nat) (W:World),n0≤D→I xs W→W.heap[D]?=some (.deferred (some []))→Q .normal { a with defers:={ target:=.collected D,args:=#[] } :: a.defers } W):
 (Code.rangeFunc g #[p,q] assign body).wp P Q a w:=by
 refine zcP hn0 hg eg hgives rfl I MB hI hcells h0 hA
  (fun x a1 W=>∃ B,W.heap[B]?=some (.cells #[.int .u8 x.2.1.kind,.int .i64 x.2.1.num,.string x.2.1.name,.slice x.2.2.1 x.2.1.kids.length x.2.2.2] t (0,0))∧a1=boxed2 a p q r s x B) ?_ ?_ ?_ hdone
 · rintro x a1 W l o o' ⟨B,hB,he⟩ hl ho
   refine ⟨B,(World.putObj_heap_other (fun e=>?_)).trans hB,he⟩
   subst e
   rw [hB] at hl
   cases hl
   cases ho
 · intro l x W K hK
   have e:(#[p,q].zip (hands x))=#[(p,x.1),(q,.agg #[.int .u8 x.2.1.kind,.int .i64 x.2.1.num,.string x.2.1.name,.slice x.2.2.1 x.2.1.kids.length x.2.2.2])]:=by simp [hands]
   rw [e]
   simp only [List.foldl_toArray',List.size_toArray,List.length_cons,List.length_nil,List.foldl_cons,List.foldl_nil]
   exact hassign l x W K (fun W1 B h1 h2=>hK _ _ ⟨B,h1,rfl⟩ h2)
 · rintro l pre x a1 W hi hn hp ⟨B,hB,rfl⟩
   exact hbody l pre x W B hi hn hp hB
mutual
theorem ziN:∀ {n m:Nd},m ∈ preN n→sizeN m≤sizeN n
 | .mk k num name kids,m,h=>by
   rw [preN,List.mem_cons] at h
   rcases h with rfl|h
   · exact Nat.le_refl _
   · have:=zgv (l:=kids) h
     rw [sizeN];omega
theorem zgv:∀ {l:List Nd} {m:Nd},m ∈ preL l→sizeN m≤sizeL l
 | [],m,h=>by rw [preL] at h;simp at h
 | n :: r,m,h=>by
   rw [preL,List.mem_append] at h
   rw [sizeL]
   rcases h with h|h
   · have:=ziN (n:=n) h;omega
   · have:=zgv (l:=r) h;omega
end
theorem zmu {n0:Nat} {W W':World} (hn:n0≤W.heap.size) (h:Below W.heap.size W W'):KM n0 NoM W W':=⟨h.mono hn,fun b hb _=>⟨h.block b hb,fun h=>h.elim⟩⟩
theorem zfn (i:Int) (n:Nd) (hsz:sizeN n≤2000) (hno:∀ m ∈ preN n,RejOk m) (v:Value) (A:Nat→Prop) (w:World) (hv:NdAt A w v n):
 Calls Tryz.prog 81 #[.int .i64 i,v] w (NilB w):=by
 obtain ⟨hok,hlen,ka,kc,rfl,hkk⟩:=hv.open
 have hA:Below w.heap.size w (((w.alloc (.cells #[.int .i64 i] 3)).alloc (.cells #[.int .u8 n.kind,.int .i64 n.num,.string n.name,.slice ka n.kids.length kc] 34)).alloc (.cells #[.slice none 0 0] 91)):=zaa (zaa (zaa (Below.refl _ _)))
 have HWK:=Lib.hid (walk_any n _ A _ (by omega) (hv.stays (Stays.of_below hA)))
 obtain ⟨hO,hS,hR⟩:=zeg w (.cells #[.int .i64 i] 3) (.cells #[.int .u8 n.kind,.int .i64 n.num,.string n.name,.slice ka n.kids.length kc] 34) (.cells #[.slice none 0 0] 91)
 have HA:=Lib.hid hA
 have HR:=Lib.hid hR
 have HNO:=Lib.hid hno
 obtain ⟨n0,n1,n2,n3⟩:=cells4 hS
 clear hv hA hO hS hR hok hlen hkk hno
 refine (callsIn_wide (n:=9)).1 (callsIn_of_wp_marks Tryz.func81 rfl trivial ?_ rfl)
 simp only [Tryz.ntmps81,List.size_toArray,List.length_cons,List.length_nil,Nat.reduceAdd,Nat.reduceSub,Array.replicate_succ,Array.replicate_zero,List.push_toArray,List.append_toArray,List.nil_append,List.cons_append]
 refine wpIn_wide.2 ?_
 go_wp2_with fail
 refine HWK.out.mono ?_
 rintro e w5 ⟨rb,ka5,kc5,rfl,hrb,hbox,hn5,hb5⟩
 have HB5:=Lib.hid (HA.out.trans (hb5.mono HA.out.size))
 have HR5:=Lib.hid (zad hb5 HR.out)
 clear n0 n1 n2 n3 HWK
 go_wp2_with fail
 refine zeV (n0:=w5.heap.size) (Nat.le_refl _) 6 7 34 (gf:=177) (lb:=#[.pointer (some ⟨rb,0,none⟩)]) rfl (enters_of Tryz.func177 (by kernel_rfl) rfl)
  (walk_gives (Nat.le_refl _) (by omega) hbox hn5) (fun _ W=>Below w5.heap.size w5 W) NoM (ziu w5) (fun _ _ _ _ h=>h.elim) (Below.refl _ _) (fun b hb=>⟨hb.2,fun h=>h.elim⟩) ?assign ?body ?done
 case assign=>
  intro l x W K hK
  simp only [List.setIfInBounds_toArray,List.set_cons_succ,List.set_cons_zero]
  gi_wp2_with fail
  have:=hK _ W.heap.size (zah _ _) (zaa (Below.refl _ _))
  simp only [boxed2,List.setIfInBounds_toArray,List.set_cons_succ,List.set_cons_zero] at this
  exact this
 case body=>
  intro l pre x W Bx hI hnx hpx hbx
  simp only [boxed2,List.setIfInBounds_toArray,List.set_cons_succ,List.set_cons_zero]
  obtain ⟨r0,r1,r2,r3⟩:=cells4 hbx
  have hmem:x.2.1 ∈ preN n:=hpx.subset (List.mem_append.2 (.inr (List.mem_singleton.2 rfl)))
  have hxz:sizeN x.2.1≤100000:=by have:=ziN hmem;omega
  have HRJ:=Lib.hid (zlC x.2.1 (HNO.out _ hmem) hxz _ _ W hnx)
  have HI:=Lib.hid hI
  clear hmem hI hnx hpx hbx hxz
  gi_wp2_with (refine ⟨trivial,?_⟩;gi_at_call 135;refine (CallsIn.inRound l (callsIn_wide.2 HRJ.out)).mono ?_;rintro e w6 ⟨rfl,hb6⟩;have HB6:=Lib.hid hb6;clear hb6)
  exact ⟨HI.out.trans (HB6.out.mono HI.out.size),zmu HI.out.size HB6.out⟩
 case done=>
  intro D W hD hI hK
  have hRW:=zad hI HR5.out
  have HI:=Lib.hid hI
  have HK:=Lib.hid hK
  have HD:=Lib.hid hD
  have c0:=zae hRW 0 rfl
  clear hI hK hD hRW hb5 hbox hn5 hrb
  go_wp2
  (try simp only [Exit.inBlock,Exit.then])
  have hD:=HD.out
  have h5:=HB5.out.size
  refine leaveM1 (D:=D) HK.out (results_tmp rfl _ _ _) ?_
  exact ⟨rfl,(HB5.out.trans (HI.out.mono HB5.out.size)).trans (zcz _ _ (show w.heap.size≤D by omega))⟩
end Go.Proofs.YtpobmoegmdhbpaaGreatDoor
namespace Go.Proofs.YtpobmoegmdhbpaaGreatDoor
open Go.RowKit
theorem zjP (p:Prg) (hok:ProgOk p) (va:Option Addr) (vc:Nat) (pa:Option Addr) (pc:Nat) (ka:Option Addr) (kc:Nat) (w:World) (hv:PrgAt Any w va vc pa pc ka kc p):
 Calls Tryz.prog 41 #[PrgV va vc pa pc ka kc p] w (NilB w):=by
 have hA:Below w.heap.size w (w.alloc (bxP va vc pa pc ka kc p)):=zaa (Below.refl _ _)
 have hbx:=zah w (bxP va vc pa pc ka kc p)
 obtain ⟨x0,x1,x2,x3,x4,x5⟩:=cells6' hbx
 have HVA:=Lib.hid (zdN p hok.prg va vc pa pc ka kc Any _ (hv.stays (Stays.of_below hA)))
 have HSC:=Lib.hid (fun w1 (h:Below w.heap.size w w1)=>zgX p hok va vc pa pc ka kc w1 (hv.stays (Stays.of_below h)))
 have HX:=Lib.hid hbx
 have HA:=Lib.hid hA
 have HPR:=Lib.hid hv
 have h3:=hok.prg.plen
 have HOK:=Lib.hid hok
 clear hok hv hA hbx
 unfold PrgV
 go_enter Tryz.func41,Tryz.ntmps41
 go_wp2_with (first
  | (go_at_call 39;refine HVA.out.mono ?_;rintro e w1 ⟨rfl,hb1⟩;have HB1:=Lib.hid (HA.out.trans (hb1.mono HA.out.size));have HX1:=Lib.hid (zad hb1 HX.out);clear x0 x1 x2 x3 x4 x5;obtain ⟨x0,x1,x2,x3,x4,x5⟩:=cells6' HX1.out;clear hb1)
  | (go_at_call 40;refine (HSC.out _ HB1.out).mono ?_;rintro e w2 ⟨rfl,hb2⟩;have HB2:=Lib.hid (HB1.out.trans (hb2.mono HB1.out.size));have HX2:=Lib.hid (zad hb2 HX1.out);clear x0 x1 x2 x3 x4 x5;obtain ⟨x0,x1,x2,x3,x4,x5⟩:=cells6' HX2.out;clear hb2))
 go_loopw [18,3] (fun i v wr=>∃ k:Nat,k≤p.procs.length∧i=.int .i64 k∧v=.slice none 0 0∧Below w2.heap.size w2 wr) (fun i _ _=>p.procs.length - (intOf i).toNat)
 case atStart=>exact ⟨0,Nat.zero_le _,rfl,rfl,Below.refl _ _⟩
 case round=>
  obtain ⟨k,hkk,rfl,rfl,hbl⟩:=hrel
  have HBL:=Lib.hid hbl
  have HBW:=Lib.hid (HB2.out.trans (hbl.mono HB2.out.size))
  clear x0 x1 x2 x3 x4 x5
  by_cases hlt:k < p.procs.length
  · obtain ⟨b,off,qa,qc,ja,jc,he,hb,_,_,_,c0,c1,c2,c3,c4,c5,hr,hn,hsz⟩:=zdP (HPR.out.hp.stays (Stays.of_below HBW.out) (A':=Any)) hlt
    subst he
    have i0:(0:Int)≤(k:Int):=by omega
    have i1:(k:Int) < (p.procs.length:Int):=by omega
    have hA3:Below wr.heap.size wr (wr.alloc (.cells #[.string (at' p.procs k).name,.slice qa (at' p.procs k).params.length qc,.int .u8 (at' p.procs k).body.kind,.int .i64 (at' p.procs k).body.num,.string (at' p.procs k).body.name,.slice ja (at' p.procs k).body.kids.length jc] 83)):=zaa (Below.refl _ _)
    have HC:=Lib.hid (zfn k (at' p.procs k).body (HOK.out.prg.procs _ (zaT hlt)).size (HOK.out.prej k hlt) _ Any _ (hn.stays (Stays.of_below hA3)))
    have HX3:=Lib.hid (hbl.trans (hA3.mono hbl.size))
    clear hbl hr hn hA3
    go_wp2_with (first|(go_at_call 81;refine HC.out.mono ?_;rintro e w5 ⟨rfl,hb5⟩;have HB5:=Lib.hid (HX3.out.trans (hb5.mono HX3.out.size));clear hb5))
    exact ⟨⟨k+1,by omega,by go_num,rfl,HB5.out⟩,by simp [intOf];omega⟩
  · obtain rfl:k=p.procs.length:=by omega
    have hlt':¬ (p.procs.length:Int) < (p.procs.length:Int):=by omega
    have hx2:=zad hbl HX2.out
    obtain ⟨x0,x1,x2,x3,x4,x5⟩:=cells6' hx2
    have HC:=Lib.hid (zfn (-1) p.main HOK.out.prg.size HOK.out.mrej _ Any _ (HPR.out.hm.stays (A':=Any) (Stays.of_below HBW.out)))
    clear hbl hx2
    go_wp2_with (first|(go_at_call 81;refine HC.out.mono ?_;rintro e w5 ⟨rfl,hb5⟩;have HB5:=Lib.hid (HBW.out.trans (hb5.mono HBW.out.size));clear hb5))
    go_ret
    exact ⟨rfl,HB5.out⟩
theorem zjG (p:Prg) (hok:ProgOk p) (va:Option Addr) (vc:Nat) (pa:Option Addr) (pc:Nat) (ka:Option Addr) (kc:Nat) (w:World) (hv:PrgAt Any w va vc pa pc ka kc p):
 Calls Tryz.prog 13 #[PrgV va vc pa pc ka kc p] w (TruB w):=by
 have hA:Below w.heap.size w (w.alloc (bxP va vc pa pc ka kc p)):=zaa (Below.refl _ _)
 have hbx:=zah w (bxP va vc pa pc ka kc p)
 obtain ⟨x0,x1,x2,x3,x4,x5⟩:=cells6' hbx
 have HVA:=Lib.hid (zdN p hok.prg va vc pa pc ka kc Any _ (hv.stays (Stays.of_below hA)))
 have HSC:=Lib.hid (fun w1 (h:Below w.heap.size w w1)=>zgX p hok va vc pa pc ka kc w1 (hv.stays (Stays.of_below h)))
 have HCC:=Lib.hid (fun w1 (h:Below w.heap.size w w1)=>zjP p hok va vc pa pc ka kc w1 (hv.stays (Stays.of_below h)))
 have HX:=Lib.hid hbx
 have HA:=Lib.hid hA
 clear hok hv hA hbx
 unfold PrgV
 go_enter Tryz.func13,Tryz.ntmps13
 go_wp2_with (first
  | (go_at_call 39;refine HVA.out.mono ?_;rintro e w1 ⟨rfl,hb1⟩;have HB1:=Lib.hid (HA.out.trans (hb1.mono HA.out.size));have HX1:=Lib.hid (zad hb1 HX.out);clear x0 x1 x2 x3 x4 x5;obtain ⟨x0,x1,x2,x3,x4,x5⟩:=cells6' HX1.out;clear hb1)
  | (go_at_call 40;refine (HSC.out _ HB1.out).mono ?_;rintro e w2 ⟨rfl,hb2⟩;have HB2:=Lib.hid (HB1.out.trans (hb2.mono HB1.out.size));have HX2:=Lib.hid (zad hb2 HX1.out);clear x0 x1 x2 x3 x4 x5;obtain ⟨x0,x1,x2,x3,x4,x5⟩:=cells6' HX2.out;clear hb2)
  | (go_at_call 41;refine (HCC.out _ HB2.out).mono ?_;rintro e w3 ⟨rfl,hb3⟩;have HB3:=Lib.hid (HB2.out.trans (hb3.mono HB2.out.size));clear hb3))
 go_ret
 exact ⟨rfl,HB3.out⟩
end Go.Proofs.YtpobmoegmdhbpaaGreatDoor
