/- Contracts and plain lemmas (KiR, KiC): no statement of the seat is proved here. -/
import Derived.Test.YtpobmoegmdhbpaaGreatDoorXk2
import Derived.Test.YtpobmoegmdhbpaaGreatDoorXk1
set_option linter.unusedSimpArgs false
set_option linter.unusedVariables false
set_option linter.unusedSectionVars false
set_option maxRecDepth 100000
set_option maxHeartbeats 6400000
namespace Go.Proofs.YtpobmoegmdhbpaaGreatDoor
open Go.RowKit
def BoolPost (w:World) (e:Ending) (w':World):Prop:=∃ b:Bool,e=.returned (.bool b)∧Below w.heap.size w w'
theorem refers_walk (l:List Bd) (bv:Value) (ka:Option Addr) (kc:Nat) (kept:List ByteArray) (w:World) (hsz:l.length≤100000) (hv:BdsAt Any w bv l) (hk:StrsAt Any w (.slice ka kept.length kc) kept)
 (HB:Hid (∀ k,k < l.length→∀ (v:Value) (w1:World),Below w.heap.size w w1→BdsAt Any w1 v (at' l k).thn→Calls Tryz.prog 66 #[v,.slice ka kept.length kc] w1 (BoolPost w1)))
 (HE:Hid (∀ k,k < l.length→∀ (v:Value) (w1:World),Below w.heap.size w w1→BdsAt Any w1 v (at' l k).els→Calls Tryz.prog 66 #[v,.slice ka kept.length kc] w1 (BoolPost w1))):
 Calls Tryz.prog 66 #[bv,.slice ka kept.length kc] w (BoolPost w):=by
 obtain ⟨hll,la,lc,rfl⟩:=hv.form
 have HV:=Lib.hid hv
 have HKP:=Lib.hid hk
 clear hv hk
 go_enter Tryz.func66,Tryz.ntmps66
 go_wp2
 go_loopw [9] (fun i wr=>∃ k:Nat,i=.int .i64 k∧k≤l.length∧Below w.heap.size w wr) (fun i _=>l.length - (intOf i).toNat)
 case atStart=>exact ⟨0,rfl,Nat.zero_le _,Below.refl _ _⟩
 case round=>
  obtain ⟨k,rfl,hk,hbl⟩:=hrel
  by_cases hlt:k < l.length
  · obtain ⟨b,off,cap,aa,ac,ta,tc,ea,ec,he,hb,c0,c1,c2,c3,c4,c5,c6,c7,hs,ht,hel,hok⟩:=(HV.out.stays (Stays.of_below hbl)).at hlt
    simp only [Value.slice.injEq] at he
    obtain ⟨rfl,-,rfl⟩:=he
    have HX:=Lib.hid (zah wr (.cells #[.string (at' l k).to,.bool (at' l k).list,.int .u8 (at' l k).op,.int .i64 (at' l k).num,.string (at' l k).name,.slice aa (at' l k).args.length ac,.slice ta (at' l k).thn.length tc,.slice ea (at' l k).els.length ec] 116))
    have HBL:=Lib.hid hbl
    obtain ⟨bI,hbI⟩:∃ bI,bI=inB kept (at' l k).name:=⟨_,rfl⟩
    have HC:Hid (∀ w1,Below wr.heap.size wr w1→Calls Tryz.prog 108 #[.slice ka kept.length kc,.string (at' l k).name] w1 (fun e w'=>e=.returned (.bool bI)∧w1=w')):=Lib.hid (fun w1 h=>by rw [hbI];exact zcb _ kept _ Any w1 (HKP.out.stays (Stays.of_below (hbl.trans (h.mono hbl.size)))))
    have HT1:Hid (∀ w1,Below wr.heap.size wr w1→Calls Tryz.prog 66 #[.slice ta (at' l k).thn.length tc,.slice ka kept.length kc] w1 (fun e w'=>∃ b:Bool,e=.returned (.bool b)∧Below w1.heap.size w1 w')):=Lib.hid (fun w1 h=>HB.out k hlt _ w1 (hbl.trans (h.mono hbl.size)) (ht.stays (Stays.of_below h)))
    have HE1:Hid (∀ w1,Below wr.heap.size wr w1→Calls Tryz.prog 66 #[.slice ea (at' l k).els.length ec,.slice ka kept.length kc] w1 (fun e w'=>∃ b:Bool,e=.returned (.bool b)∧Below w1.heap.size w1 w')):=Lib.hid (fun w1 h=>HE.out k hlt _ w1 (hbl.trans (h.mono hbl.size)) (hel.stays (Stays.of_below h)))
    clear hs ht hel hok hbI hbl
    have d85:((at' l k).op == 85)=true∨((at' l k).op == 85)=false:=by cases (at' l k).op == 85 <;> simp
    have d83:((at' l k).op == 83)=true∨((at' l k).op == 83)=false:=by cases (at' l k).op == 83 <;> simp
    have hfin:Hid (∀ w1,Below wr.heap.size wr w1→Below w.heap.size w w1):=Lib.hid (fun w1 h=>HBL.out.trans (h.mono HBL.out.size))
    have hls:l.length - (k+1) < l.length - k:=by omega
    rcases d85 with d85|d85
    · cases bI with
      | true=>
        go_wp2_with (go_at_call 108;refine (HC.out _ (by (repeat (with_reducible first|exact Below.refl _ _|refine zab ?_|refine zaa ?_|(apply zac;focus assumption))))).mono ?_;rintro e w3 ⟨rfl,rfl⟩)
        go_ret
        exact ⟨true,rfl,hfin.out _ (by (repeat (with_reducible first|exact Below.refl _ _|refine zab ?_|refine zaa ?_|(apply zac;focus assumption))))⟩
      | false=>
        have d83f:((at' l k).op == 83)=false:=by simp at d85 ⊢;omega
        clear d83
        go_wp2_with (go_at_call 108;refine (HC.out _ (by (repeat (with_reducible first|exact Below.refl _ _|refine zab ?_|refine zaa ?_|(apply zac;focus assumption))))).mono ?_;rintro e w3 ⟨rfl,rfl⟩)
        go_roundw
        case rel=>exact ⟨k+1,by go_num,by omega,hfin.out _ (by (repeat (with_reducible first|exact Below.refl _ _|refine zab ?_|refine zaa ?_|(apply zac;focus assumption))))⟩
        case measure=>simp [intOf];omega
    · rcases d83 with d83|d83
      · go_wp2_with fail
        refine (HT1.out _ (by (repeat (with_reducible first|exact Below.refl _ _|refine zab ?_|refine zaa ?_|(apply zac;focus assumption))))).mono ?_
        rintro e w3 ⟨b1,rfl,hb3⟩
        have hw3:Below wr.heap.size wr w3:=(by (repeat (with_reducible first|exact Below.refl _ _|refine zab ?_|refine zaa ?_|(apply zac;focus assumption))))
        have HW3:=Lib.hid hw3
        obtain ⟨p0,p1,p2,p3,p4,p5,p6,p7⟩:=cellsB (zad hb3 HX.out)
        have HR2:=Lib.hid (HE1.out w3 hw3)
        clear c0 c1 c2 c3 c4 c5 c6 c7
        cases b1 with
        | true=>
          go_wp2
          go_ret
          exact ⟨true,rfl,hfin.out _ HW3.out⟩
        | false=>
          go_wp2_with fail
          refine HR2.out.mono ?_
          rintro e w4 ⟨b2,rfl,hb4⟩
          have HW4:Hid (Below wr.heap.size wr w4):=Lib.hid (HW3.out.trans (hb4.mono HW3.out.size))
          cases b2 with
          | true=>
            go_wp2
            go_ret
            exact ⟨true,rfl,hfin.out _ HW4.out⟩
          | false=>
            go_wp2
            go_roundw
            case rel=>exact ⟨k+1,by go_num,by omega,hfin.out _ HW4.out⟩
            case measure=>simp [intOf];omega
      · go_wp2
        go_roundw
        case rel=>exact ⟨k+1,by go_num,by omega,hfin.out _ (by (repeat (with_reducible first|exact Below.refl _ _|refine zab ?_|refine zaa ?_|(apply zac;focus assumption))))⟩
        case measure=>simp [intOf];omega
  · obtain rfl:k=l.length:=by omega
    have hlt':¬ (l.length:Int) < (l.length:Int):=by omega
    go_wp2
    go_ret
    exact ⟨false,rfl,hbl⟩
def RefersOk (m:Nat):Prop:=∀ (l:List Bd) (bv:Value) (ka:Option Addr) (kc:Nat) (kept:List ByteArray) (w:World),sizeBs l≤m→BdsAt Any w bv l→StrsAt Any w (.slice ka kept.length kc) kept→Calls Tryz.prog 66 #[bv,.slice ka kept.length kc] w (BoolPost w)
theorem zeH:∀ m,m≤90000→RefersOk m
 | 0,_=>fun l bv ka kc kept w hsz hv hk=>by
   have:=zaV l
   exact refers_walk l bv ka kc kept w (by omega) hv hk (Lib.hid fun k hk=>by omega) (Lib.hid fun k hk=>by omega)
 | m+1,hm=>fun l bv ka kc kept w hsz hv hk=>by
   have:=zaV l
   have hk2:∀ k,k < l.length→sizeBs (at' l k).thn+sizeBs (at' l k).els+1≤sizeB (at' l k):=fun k hk=>by
    cases at' l k with
    | mk tn li op num name args thn els=>rw [sizeB];show sizeBs thn+sizeBs els+1≤_;omega
   exact refers_walk l bv ka kc kept w (by omega) hv hk (Lib.hid fun k hj v w1 hw h=>zeH m (by omega) _ v ka kc kept w1 (by have:=zeh l k hj;have:=hk2 k hj;omega) h (hk.stays (Stays.of_below hw))) (Lib.hid fun k hj v w1 hw h=>zeH m (by omega) _ v ka kc kept w1 (by have:=zeh l k hj;have:=hk2 k hj;omega) h (hk.stays (Stays.of_below hw)))
theorem zmU (l:List Bd) (bv:Value) (ka:Option Addr) (kc:Nat) (kept:List ByteArray) (w:World) (hsz:sizeBs l≤90000) (hv:BdsAt Any w bv l) (hk:StrsAt Any w (.slice ka kept.length kc) kept):Calls Tryz.prog 66 #[bv,.slice ka kept.length kc] w (BoolPost w):=zeH 90000 (Nat.le_refl _) l bv ka kc kept w hsz hv hk
end Go.Proofs.YtpobmoegmdhbpaaGreatDoor
namespace Go.Proofs.YtpobmoegmdhbpaaGreatDoor
open Go.RowKit
def cleanIn (g:AFn) (kept:List ByteArray):List Nd:=bindsN (keptF kept) g.body ++ [resultN g] ++ (invL (bindsN (keptF kept) g.body)).reverse
def procC (g:AFn) (kept:List ByteArray):Nd:=localsN g.temps (blockN [nodeN 55 ⟨#[103]⟩ [blockN (cleanIn g kept)]])
def KcPost (g:AFn) (kept:List ByteArray) (w:World) (e:Ending) (w':World):Prop:=Below w.heap.size w w'∧((∃ er:Int,er≠0∧e=.returned (.tuple #[zeroP,.int .i64 er]))∨∃ (B:Nd) (xa:Option Addr) (xc:Nat) (ya:Option Addr) (yn yc:Nat),(B=procB g∨B=procC g kept)∧(paramsN g).length≤8∧depthN B≤80∧sizeN B≤2000∧e=.returned (.tuple #[prV g.name xa (paramsN g).length xc 57 0 ⟨#[]⟩ ya yn yc,.int .i64 0])∧
 RowsAt DclE (Up w.heap.size) w' (.slice xa (paramsN g).length xc) (paramsN g)∧NdAt (Up w.heap.size) w' (.agg #[.int .u8 57,.int .i64 0,.string ⟨#[]⟩,.slice ya yn yc]) B)
theorem znm {n:Nat} {B:Nd} (h:limE n B=0):n≤8∧depthN B≤80∧sizeN B≤2000:=by
 unfold limE at h
 split at h
 · omega
 · split at h
   · omega
   · split at h <;> omega
theorem ziD {g:AFn} {kept:List ByteArray} {w w9:World} {er:Int} (he:er≠0) (hb:Below w.heap.size w w9) (x0 x1 x2 x3 x4 x5:Value):
 KcPost g kept w (.returned (.tuple #[zeroP,.int .i64 er])) ((((((w9.setCell ⟨w.heap.size+1,0,none⟩ x0).setCell ⟨w.heap.size+1,1,none⟩ x1).setCell ⟨w.heap.size+1,2,none⟩ x2).setCell ⟨w.heap.size+1,3,none⟩ x3).setCell ⟨w.heap.size+1,4,none⟩ x4).setCell ⟨w.heap.size+1,5,none⟩ x5):=
 ⟨zau hb (by omega),.inl ⟨er,he,rfl⟩⟩
theorem znf {g:AFn} {kept:List ByteArray} {w w9:World} {B:Nd} {xa ya:Option Addr} {xc yn yc:Nat} (hB:B=procB g∨B=procC g kept) (hL:(paramsN g).length≤8∧depthN B≤80∧sizeN B≤2000) (hb:Below w.heap.size w w9) (hv:RowsAt DclE (Up (w.heap.size+2)) w9 (.slice xa (paramsN g).length xc) (paramsN g))
 (hn:NdAt (Up (w.heap.size+2)) w9 (.agg #[.int .u8 57,.int .i64 0,.string ⟨#[]⟩,.slice ya yn yc]) B) (x0 x1 x2 x3 x4 x5:Value):
 KcPost g kept w (.returned (.tuple #[prV g.name xa (paramsN g).length xc 57 0 ⟨#[]⟩ ya yn yc,.int .i64 0])) ((((((w9.setCell ⟨w.heap.size+1,0,none⟩ x0).setCell ⟨w.heap.size+1,1,none⟩ x1).setCell ⟨w.heap.size+1,2,none⟩ x2).setCell ⟨w.heap.size+1,3,none⟩ x3).setCell ⟨w.heap.size+1,4,none⟩ x4).setCell ⟨w.heap.size+1,5,none⟩ x5):=by
 have hK:=zbU w9 (w.heap.size+1) x0 x1 x2 x3 x4 x5
 refine ⟨zau hb (by omega),.inr ⟨B,xa,xc,ya,yn,yc,hB,hL.1,hL.2.1,hL.2.2,rfl,?_,?_⟩⟩
 · exact hv.stays ⟨hK.size,fun b hb a=>⟨hK.block b hb (fun e=>by have:w.heap.size+2≤b:=a;omega),zfq a⟩⟩
 · exact hn.stays ⟨hK.size,fun b hb a=>⟨hK.block b hb (fun e=>by have:w.heap.size+2≤b:=a;omega),zfq a⟩⟩
theorem znC (g:AFn) (lib:List Fn) (pa ta ba:Option Addr) (pc tc bc:Nat) (ka:Option Addr) (kc:Nat) (kept:List ByteArray) (w:World) (hp:ParsAt Any w (.slice pa g.params.length pc) g.params) (ht:ParsAt Any w (.slice ta g.temps.length tc) g.temps) (hb:BdsAt Any w (.slice ba g.body.length bc) g.body) (hr:g.result.size≤maxLen)
 (hgood:GoodBs lib g.body) (hz:sizeBs g.body≤10000) (htl:g.temps.length≤4000) (hpl:g.params.length≤8) (hsz:sizeN (procB g)≤1000000) (hszc:sizeN (procC g kept)≤1000000) (hk:StrsAt Any w (.slice ka kept.length kc) kept) (hks:∀ s ∈ kept,s.size≤140737488355328):
 Calls Tryz.prog 35 #[.agg #[.string g.name,.slice pa g.params.length pc,.bool g.list,.slice ta g.temps.length tc,.slice ba g.body.length bc,.string g.result],.slice ka kept.length kc] w (KcPost g kept w):=by
 have hcs:=zbY lib (keptF kept) (fun nm=>by unfold keptF;split <;> simp) g.body hgood hz
 have hlb:(bindsN (keptF kept) g.body).length≤20000:=by have:=zbq (keptF kept) g.body;have:=zaV g.body;omega
 have HINV:Hid (∀ (ka:Option Addr) (kn kc:Nat) (A:Nat→Prop) (w:World),NdAt A w (.agg #[.int .u8 57,.int .i64 0,.string ⟨#[]⟩,.slice ka kn kc]) (blockN (bindsN (keptF kept) g.body))→Calls Tryz.prog 67 #[.agg #[.int .u8 57,.int .i64 0,.string ⟨#[]⟩,.slice ka kn kc]] w (fun e w'=>∃ a n c,e=.returned (.agg #[.int .u8 57,.int .i64 0,.string ⟨#[]⟩,.slice a n c])∧NdAt (NewB A w) w' (.agg #[.int .u8 57,.int .i64 0,.string ⟨#[]⟩,.slice a n c]) (blockN (invL (bindsN (keptF kept) g.body)).reverse)∧Below w.heap.size w w')):=Lib.hid (fun ka kn kc A w hv=>(zcc _ (fun s hs=>zhn (hcs s hs)) (by omega) _ A w hv).mono fun e w' ⟨a,c,he,hn,hb⟩=>⟨a,_,c,he,hn,hb⟩)
 obtain ⟨W,hW⟩:∃ W,W=(w.alloc (.cells #[.string g.name,.slice pa g.params.length pc,.bool g.list,.slice ta g.temps.length tc,.slice ba g.body.length bc,.string g.result] 44)).alloc (.cells #[.string ⟨#[]⟩,.slice none 0 0,.int .u8 0,.int .i64 0,.string ⟨#[]⟩,.slice none 0 0] 83):=⟨_,rfl⟩
 have hB:Below w.heap.size w W:=by subst hW;exact zaa (zaa (Below.refl _ _))
 have HBW:=Lib.hid hB
 have HWS:Hid (W.heap.size=w.heap.size+2):=Lib.hid (by subst hW;simp)
 have HBX:Hid (PBox g pa ta ba pc tc bc w W):=Lib.hid (by subst hW;exact ⟨zaI w _ _,zaw w _ _⟩)
 have HFF:Hid (∀ w1,Below W.heap.size W w1→w1.cell? ⟨w.heap.size,0,none⟩=some (.string g.name)∧w1.cell? ⟨w.heap.size,1,none⟩=some (.slice pa g.params.length pc)∧w1.cell? ⟨w.heap.size,2,none⟩=some (.bool g.list)∧w1.cell? ⟨w.heap.size,3,none⟩=some (.slice ta g.temps.length tc)∧w1.cell? ⟨w.heap.size,4,none⟩=some (.slice ba g.body.length bc)∧w1.cell? ⟨w.heap.size,5,none⟩=some (.string g.result)):=Lib.hid (fun w1 h=>cells6 (zad h HBX.out.1))
 have HST:Hid (∀ w1,Below W.heap.size W w1→Below w.heap.size w w1):=Lib.hid (fun w1 h=>hB.trans (h.mono hB.size))
 have HC0:Hid (Calls Tryz.prog 45 #[.agg #[.string g.name,.slice pa g.params.length pc,.bool g.list,.slice ta g.temps.length tc,.slice ba g.body.length bc,.string g.result]] W (fun e w'=>∃ a c,e=.returned (.slice a (paramsN g).length c)∧RowsAt DclE (Up W.heap.size) w' (.slice a (paramsN g).length c) (paramsN g)∧Below W.heap.size W w')):=Lib.hid (zfy g pa ta ba pc tc bc W (hp.stays (Stays.of_below hB)) (by omega))
 have HC3:Hid (∀ w1,Below W.heap.size W w1→Calls Tryz.prog 66 #[.slice ba g.body.length bc,.slice ka kept.length kc] w1 (fun e w'=>∃ b:Bool,e=.returned (.bool b)∧Below w1.heap.size w1 w')):=Lib.hid (fun w1 h=>zmU g.body _ ka kc kept w1 (by omega) ((hb.stays (Stays.of_below hB)).stays (Stays.of_below h)) ((hk.stays (Stays.of_below hB)).stays (Stays.of_below h)))
 have HC4:Hid (∀ w1,Below W.heap.size W w1→Calls Tryz.prog 43 #[.agg #[.string g.name,.slice pa g.params.length pc,.bool g.list,.slice ta g.temps.length tc,.slice ba g.body.length bc,.string g.result]] w1 (ProcPost g w1)):=Lib.hid (fun w1 h=>znh g lib pa ta ba pc tc bc w1 ((hp.stays (Stays.of_below hB)).stays (Stays.of_below h)) ((ht.stays (Stays.of_below hB)).stays (Stays.of_below h)) ((hb.stays (Stays.of_below hB)).stays (Stays.of_below h)) hr hgood hz htl hpl hsz)
 have HT:=Lib.hid ht
 have HC1:Hid (∀ w1,Below W.heap.size W w1→Calls Tryz.prog 57 #[.slice ka kept.length kc] w1 (fun e w'=>∃ g,e=.returned (.func (.func 107) #[] #[.pointer (some ⟨g,0,none⟩)])∧w'.heap[g]?=some (.cells #[.slice ka kept.length kc] 23 (0,0))∧Below w1.heap.size w1 w')):=Lib.hid (fun w1 _=>zic ka kept.length kc w1)
 have HC2:Hid (∀ w1 gk,Below W.heap.size W w1→w1.heap[gk]?=some (.cells #[.slice ka kept.length kc] 23 (0,0))→Calls Tryz.prog 56 #[.agg #[.string g.name,.slice pa g.params.length pc,.bool g.list,.slice ta g.temps.length tc,.slice ba g.body.length bc,.string g.result],.func (.func 107) #[] #[.pointer (some ⟨gk,0,none⟩)]] w1 (fun e w'=>∃ a c,e=.returned (.tuple #[.agg #[.int .u8 57,.int .i64 0,.string ⟨#[]⟩,.slice a (bindsN (keptF kept) g.body).length c],.int .i64 0])∧NdAt (fun b=>w1.heap.size≤b∧b < w'.heap.size) w' (.agg #[.int .u8 57,.int .i64 0,.string ⟨#[]⟩,.slice a (bindsN (keptF kept) g.body).length c]) (blockN (bindsN (keptF kept) g.body))∧Below w1.heap.size w1 w')):=Lib.hid (fun w1 gk hw hg=>
  (zeY g pa ta ba pc tc bc _ (keptF kept) w1 ((hb.stays (Stays.of_below hB)).stays (Stays.of_below hw)) (zeu hks hg ((hk.stays (Stays.of_below hB)).stays (Stays.of_below hw))) (by omega)).mono fun e w' ⟨a,n,c,he,h,hb⟩=>by
    obtain ⟨_,a',c',e'⟩:=h.form
    simp only [Value.slice.injEq] at e'
    obtain ⟨rfl,rfl,rfl⟩:=e'
    exact ⟨a,c,he,(zam (k:=57) (s:=⟨#[]⟩) h (by omega) (Nat.zero_le _)).stays ⟨Nat.le_refl _,fun b hb a=>⟨rfl,a,hb⟩⟩,hb⟩)
 clear hp ht hb hk hB hcs
 subst hW
 go_enter Tryz.func35,Tryz.ntmps35
 go_wp2_with fail
 generalize (w.alloc (.cells #[.string g.name,.slice pa g.params.length pc,.bool g.list,.slice ta g.temps.length tc,.slice ba g.body.length bc,.string g.result] 44)).alloc (.cells #[.string ⟨#[]⟩,.slice none 0 0,.int .u8 0,.int .i64 0,.string ⟨#[]⟩,.slice none 0 0] 83)=W at *
 refine HC0.out.mono ?_
 rintro e w1 ⟨va,vc,rfl,hv1,hb1⟩
 have HV1:=Lib.hid hv1
 have HB1:=Lib.hid hb1
 have HZ1:=Lib.hid (zad hb1 HBX.out.2)
 obtain ⟨f0,f1,f2,f3,f4,f5⟩:=HFF.out w1 hb1
 obtain ⟨z0,z1,z2,z3,z4,z5⟩:=cells6 HZ1.out
 have zf:=unfrozen HZ1.out
 have HR:=Lib.hid (HC3.out w1 hb1)
 have hpn:(paramsN g).length≤9:=by simp [paramsN];omega
 clear hv1 hb1
 by_cases h8:8 < (paramsN g).length
 · have d8:decide ((8:Int) < ((paramsN g).length:Int))=true:=by simp;omega
   clear h8
   go_wp2
   (try simp only [Exit.inBlock,Exit.then])
   refine bodyPost_ret (zak (P:=Tryz.prog) rfl _ _ (w.heap.size+1) _ _ _ _ _ rfl (set6 HZ1.out _ _ _ _ _ _) rfl Tryz.underlying83 rfl (by kernel_rfl)) rfl ?_
   exact ziD (by decide) (HST.out _ HB1.out) _ _ _ _ _ _
 · have d8:decide ((8:Int) < ((paramsN g).length:Int))=false:=by simp;omega
   have H8:Hid ((paramsN g).length≤8):=Lib.hid (by omega)
   clear h8
   go_wp2_with fail
   refine HR.out.mono ?_
   rintro e w2 ⟨b,rfl,hb2⟩
   have hb12:Below W.heap.size W w2:=HB1.out.trans (hb2.mono HB1.out.size)
   have HB2:=Lib.hid hb12
   have HV2:Hid (RowsAt DclE (Up (w.heap.size+2)) w2 (.slice va (paramsN g).length vc) (paramsN g)):=Lib.hid ((HV1.out.stays (Stays.of_below hb2)).young (fun k _ hk=>by have h:W.heap.size≤k:=hk;have:=HWS.out;unfold Up;omega))
   have HPX2:=Lib.hid (HBX.out.below hb12)
   have HZ2:=Lib.hid (zad hb12 HBX.out.2)
   clear f0 f1 f2 f3 f4 f5 z0 z1 z2 z3 z4 z5 zf hb12
   obtain ⟨f0,f1,f2,f3,f4,f5⟩:=HFF.out w2 HB2.out
   obtain ⟨z0,z1,z2,z3,z4,z5⟩:=cells6 HZ2.out
   have zf:=unfrozen HZ2.out
   cases b with
   | false=>
     have HPR:=Lib.hid (HC4.out w2 HB2.out)
     clear z0 z1 z2 z3 z4 z5 zf
     go_wp2_with fail
     refine HPR.out.mono ?_
     rintro e w3 ⟨hb3,q1,q2,q3⟩
     have HB3:Hid (Below W.heap.size W w3):=Lib.hid (HB2.out.trans (hb3.mono HB2.out.size))
     have HZ3:=Lib.hid (zad HB3.out HBX.out.2)
     obtain ⟨z0,z1,z2,z3,z4,z5⟩:=cells6 HZ3.out
     have zf:=unfrozen HZ3.out
     by_cases hd:80 < depthN (procB g)
     · obtain rfl:=q1 hd
       clear q1 q2 q3 hd
       go_wp2
       (try simp only [Exit.inBlock,Exit.then])
       refine bodyPost_ret (zak (P:=Tryz.prog) rfl _ _ (w.heap.size+1) _ _ _ _ _ rfl (set6 HZ3.out _ _ _ _ _ _) rfl Tryz.underlying83 rfl (by kernel_rfl)) rfl ?_
       exact ziD (by decide) (HST.out _ HB3.out) _ _ _ _ _ _
     · by_cases hs:2000 < sizeN (procB g)∨8 < (paramsN g).length
       · obtain rfl:=q2 hd hs
         clear q1 q2 q3 hd hs
         go_wp2
         (try simp only [Exit.inBlock,Exit.then])
         refine bodyPost_ret (zak (P:=Tryz.prog) rfl _ _ (w.heap.size+1) _ _ _ _ _ rfl (set6 HZ3.out _ _ _ _ _ _) rfl Tryz.underlying83 rfl (by kernel_rfl)) rfl ?_
         exact ziD (by decide) (HST.out _ HB3.out) _ _ _ _ _ _
       · obtain ⟨xa,xc,ya,yn,yc,rfl,hv3,hn3⟩:=q3 hd hs
         have HV3:=Lib.hid hv3
         have HN3:=Lib.hid hn3
         have HLM:Hid ((paramsN g).length≤8∧depthN (procB g)≤80∧sizeN (procB g)≤2000):=Lib.hid ⟨H8.out,by omega,by omega⟩
         have hu2:w.heap.size+2≤w2.heap.size:=by have:=HWS.out;have:=HB2.out.size;omega
         have HU2:=Lib.hid hu2
         clear q1 q2 q3 hd hs hv3 hn3 hu2
         go_wp2
         (try simp only [Exit.inBlock,Exit.then])
         refine bodyPost_ret (zak (P:=Tryz.prog) rfl _ _ (w.heap.size+1) _ _ _ _ _ rfl (set6 HZ3.out _ _ _ _ _ _) rfl Tryz.underlying83 rfl (by kernel_rfl)) rfl ?_
         exact znf (.inl rfl) HLM.out (HST.out _ HB3.out) (HV3.out.stays (zaJ HU2.out)) (HN3.out.stays (zaJ HU2.out)) _ _ _ _ _ _
   | true=>
     have hs2:w.heap.size+2≤w2.heap.size:=by have:=HWS.out;have:=HB2.out.size;omega
     have HS2:=Lib.hid hs2
     have HF2:Hid (∀ w1,Below w2.heap.size w2 w1→(w1.cell? ⟨w.heap.size,0,none⟩=some (.string g.name)∧w1.cell? ⟨w.heap.size,1,none⟩=some (.slice pa g.params.length pc)∧w1.cell? ⟨w.heap.size,2,none⟩=some (.bool g.list)∧w1.cell? ⟨w.heap.size,3,none⟩=some (.slice ta g.temps.length tc)∧w1.cell? ⟨w.heap.size,4,none⟩=some (.slice ba g.body.length bc)∧w1.cell? ⟨w.heap.size,5,none⟩=some (.string g.result))):=Lib.hid (fun w1 h=>HFF.out w1 (HB2.out.trans (h.mono HB2.out.size)))
     have HD1:Hid (∀ w1,Below w2.heap.size w2 w1→Calls Tryz.prog 57 #[.slice ka kept.length kc] w1 (fun e w'=>∃ g,e=.returned (.func (.func 107) #[] #[.pointer (some ⟨g,0,none⟩)])∧w'.heap[g]?=some (.cells #[.slice ka kept.length kc] 23 (0,0))∧Below w1.heap.size w1 w')):=Lib.hid (fun w1 h=>HC1.out w1 (HB2.out.trans (h.mono HB2.out.size)))
     have HD2:Hid (∀ w1 gk,Below w2.heap.size w2 w1→w1.heap[gk]?=some (.cells #[.slice ka kept.length kc] 23 (0,0))→Calls Tryz.prog 56 #[.agg #[.string g.name,.slice pa g.params.length pc,.bool g.list,.slice ta g.temps.length tc,.slice ba g.body.length bc,.string g.result],.func (.func 107) #[] #[.pointer (some ⟨gk,0,none⟩)]] w1 (fun e w'=>∃ a c,e=.returned (.tuple #[.agg #[.int .u8 57,.int .i64 0,.string ⟨#[]⟩,.slice a (bindsN (keptF kept) g.body).length c],.int .i64 0])∧NdAt (fun b=>w1.heap.size≤b∧b < w'.heap.size) w' (.agg #[.int .u8 57,.int .i64 0,.string ⟨#[]⟩,.slice a (bindsN (keptF kept) g.body).length c]) (blockN (bindsN (keptF kept) g.body))∧Below w1.heap.size w1 w')):=Lib.hid (fun w1 gk h=>HC2.out w1 gk (HB2.out.trans (h.mono HB2.out.size)))
     have HBW2:Hid (Below w.heap.size w w2):=Lib.hid (HST.out _ HB2.out)
     clear HC1 HC2 HC3 HC4 HR HB1 HV1 HZ1 HZ2 hb2 hs2 z0 z1 z2 z3 z4 z5 zf
     go_wp2
     go_cut [7,8] (fun s e wx=>(e=.int .i64 0∧CutM g pa ta ba pc tc bc (blockN (bindsN (keptF kept) g.body)) w s wx)∧Below w2.heap.size w2 wx)
     case first=>
      go_region_held3 (fun w1=>(w1.cell? ⟨w.heap.size,0,none⟩=some (.string g.name)∧w1.cell? ⟨w.heap.size,1,none⟩=some (.slice pa g.params.length pc)∧w1.cell? ⟨w.heap.size,2,none⟩=some (.bool g.list)∧w1.cell? ⟨w.heap.size,3,none⟩=some (.slice ta g.temps.length tc)∧w1.cell? ⟨w.heap.size,4,none⟩=some (.slice ba g.body.length bc)∧w1.cell? ⟨w.heap.size,5,none⟩=some (.string g.result))) (with_reducible exact HF2.out _ (by (repeat (with_reducible first|exact Below.refl _ _|refine zab ?_|refine zaa ?_|(refine zaq ?_ ?_;rotate_left;(focus (first|exact Nat.le_refl _|exact Below.size (by (repeat (with_reducible first|exact Below.refl _ _|refine zab ?_|refine zaa ?_|(apply zac;focus assumption)))))))|(apply zac;focus assumption)))))
       (first
       | (go_at_call 57;(with_reducible refine (HD1.out _ (by (repeat (with_reducible first|exact Below.refl _ _|refine zab ?_|refine zaa ?_|(apply zac;focus assumption))))).mono ?_);rintro e w5 ⟨gk,rfl,hgk,hb5⟩;have HGK:=Lib.hid hgk;clear hgk)
       | (go_at_call 56;(with_reducible refine (HD2.out _ _ (by (repeat (with_reducible first|exact Below.refl _ _|refine zab ?_|refine zaa ?_|(apply zac;focus assumption)))) (zad (by (repeat (with_reducible first|exact Below.refl _ _|refine zab ?_|refine zaa ?_|(apply zac;focus assumption)))) HGK.out)).mono ?_);rintro e w9 ⟨a9,c9,rfl,hn9,hb9⟩;have HN9:=Lib.hid hn9;clear hn9;(first|(refine zbn w9 w2.heap.size ?_ (fun g0 g1 g2 g3 gf=>?_);focus ((repeat (with_reducible first|(refine zaj ?_;(simp;done))|refine zai ?_|refine zag ?_|(apply zad;focus assumption)));done))|skip);(first|(refine zbn w9 w5.heap.size ?_ (fun g0 g1 g2 g3 gf=>?_);focus ((repeat (with_reducible first|(refine zaj ?_;(simp;done))|refine zai ?_|refine zag ?_|(apply zad;focus assumption)));done))|skip)))
      all_goals
       have hz5:=hb5.size
       have hz9:=hb9.size
       (try simp only [World.size_alloc,World.size_drew] at hz5 hz9)
       have hw9:Below w2.heap.size w2 w9:=(by (repeat (with_reducible first|exact Below.refl _ _|refine zab ?_|refine zaa ?_|(apply zac;focus assumption))))
       have hp9:=HPX2.out.below hw9
       have HB9:=Lib.hid (HBW2.out.trans (hw9.mono HBW2.out.size))
       have hws:=HS2.out
       have hsw9:=hw9.size
       have HW9:=Lib.hid hw9
       clear hw9
       go_wp2
       go_meet
       first
       | (refine ⟨⟨rfl,?_⟩,zaa HW9.out⟩;(with_reducible refine ziQ HN9.out ?_ hp9 HB9.out);(focus (intro b ha;(try simp only [World.size_alloc,World.size_drew] at ha);omega)))
       | (refine ⟨⟨rfl,?_⟩,zaq HW9.out (by omega)⟩;(with_reducible refine ziI HN9.out ?_ ?_ ?_ ?_ hp9 HB9.out);(focus ((repeat (with_reducible first|(refine zaj ?_;(simp;done))|refine zai ?_|refine zag ?_|(apply zad;focus assumption)));done));(focus (intro b hb ha;(try simp only [World.size_alloc,World.size_drew] at ha);omega));(focus (intro b ha;(try simp only [World.size_alloc,World.size_drew] at ha);omega));(focus omega))
     case rest=>
      obtain ⟨⟨rfl,gb,ca,cn,cc,rfl,hG,hN,hPB,hBw⟩,hwc⟩:=hcut
      have HG:=Lib.hid hG
      have HN:=Lib.hid hN
      have HPB:=Lib.hid hPB
      have HBC:=Lib.hid hBw
      have HVC:=Lib.hid (HV2.out.stays (Stays.of_below hwc))
      have hcs2:w.heap.size+2≤wc.heap.size:=Nat.le_trans HS2.out hwc.size
      have HCS:=Lib.hid hcs2
      have HI:=Lib.hid (HINV.out ca cn cc (Up (w.heap.size+2)) wc hN)
      obtain ⟨n0,n1,n2,n3⟩:=cells4 hG
      clear hG hN hPB hBw hwc hcs2 HD1 HD2 HF2 HFF HINV HV2 HPX2 HBX
      go_wp2_with fail
      refine HI.out.mono ?_
      rintro e w4 ⟨ja,jn,jc,rfl,hk4,hb4⟩
      have HB4:Hid (Below w.heap.size w w4):=Lib.hid (HBC.out.trans (hb4.mono HBC.out.size))
      have HK4:Hid (KidsAt (Up (w.heap.size+2)) w4 (.slice ja jn jc) (invL (bindsN (keptF kept) g.body)).reverse):=Lib.hid ((ndKids hk4).stays (zbz HCS.out))
      have HK1:Hid (KidsAt (Up (w.heap.size+2)) w4 (.slice ca cn cc) (bindsN (keptF kept) g.body)):=Lib.hid ((ndKids HN.out).stays (Stays.of_below hb4))
      have HG4:=Lib.hid (zad hb4 HG.out)
      have HPB4:=Lib.hid (HPB.out.below hb4)
      have HV4:=Lib.hid (HVC.out.stays (Stays.of_below hb4))
      have hs4:w.heap.size+2≤w4.heap.size:=Nat.le_trans HCS.out hb4.size
      clear hk4 hb4 n0 n1 n2 n3 HI HN HG HPB HVC HBC
      go_wp2
      have HO2:Hid ((w4.alloc (.cells #[.int .u8 57,.int .i64 0,.string ⟨#[]⟩,.slice ja jn jc] 34)).heap[w4.heap.size]?=some (.cells #[.int .u8 57,.int .i64 0,.string ⟨#[]⟩,.slice ja jn jc] 34)):=Lib.hid (zaj rfl)
      have hb4a:Below w4.heap.size w4 (w4.alloc (.cells #[.int .u8 57,.int .i64 0,.string ⟨#[]⟩,.slice ja jn jc] 34)):=zaa (Below.refl _ _)
      have HS6:Hid (∀ w1,Below (w4.alloc (.cells #[.int .u8 57,.int .i64 0,.string ⟨#[]⟩,.slice ja jn jc] 34)).heap.size (w4.alloc (.cells #[.int .u8 57,.int .i64 0,.string ⟨#[]⟩,.slice ja jn jc] 34)) w1→(fun w1=>(w1.cell? ⟨w.heap.size,0,none⟩=some (.string g.name)∧w1.cell? ⟨w.heap.size,1,none⟩=some (.slice pa g.params.length pc)∧w1.cell? ⟨w.heap.size,2,none⟩=some (.bool g.list)∧w1.cell? ⟨w.heap.size,3,none⟩=some (.slice ta g.temps.length tc)∧w1.cell? ⟨w.heap.size,4,none⟩=some (.slice ba g.body.length bc)∧w1.cell? ⟨w.heap.size,5,none⟩=some (.string g.result))∧w1.cell? ⟨gb,3,none⟩=some (.slice ca cn cc)∧w1.cell? ⟨w4.heap.size,3,none⟩=some (.slice ja jn jc)) w1):=Lib.hid (fun w1 hw=>by
       have hw2:Below w4.heap.size w4 w1:=hb4a.trans (hw.mono hb4a.size)
       obtain ⟨f0,f1,f2,f3,f4,f5⟩:=cells6 (zad hw2 HPB4.out.1)
       exact ⟨⟨f0,f1,f2,f3,f4,f5⟩,(cells4 (zad hw2 HG4.out)).2.2.2,(cells4 (zad hw HO2.out)).2.2.2⟩)
      generalize hw4b:(w4.alloc (.cells #[.int .u8 57,.int .i64 0,.string ⟨#[]⟩,.slice ja jn jc] 34))=w4b at *
      have hb4b:Below w4.heap.size w4 w4b:=hb4a
      have hs4b:=hb4b.size
      clear f0 f1 f2 f3 f4 f5
      go_region_held3 (fun w1=>(w1.cell? ⟨w.heap.size,0,none⟩=some (.string g.name)∧w1.cell? ⟨w.heap.size,1,none⟩=some (.slice pa g.params.length pc)∧w1.cell? ⟨w.heap.size,2,none⟩=some (.bool g.list)∧w1.cell? ⟨w.heap.size,3,none⟩=some (.slice ta g.temps.length tc)∧w1.cell? ⟨w.heap.size,4,none⟩=some (.slice ba g.body.length bc)∧w1.cell? ⟨w.heap.size,5,none⟩=some (.string g.result))∧w1.cell? ⟨gb,3,none⟩=some (.slice ca cn cc)∧w1.cell? ⟨w4.heap.size,3,none⟩=some (.slice ja jn jc))
       (with_reducible exact HS6.out _ (by (repeat (with_reducible first|exact Below.refl _ _|refine zab ?_|refine zaa ?_|(apply zac;focus assumption)))))
       (first
       | (go_at_call 59;refine (zid g pa ta ba pc tc bc _ hr).mono ?_;rintro e w5 ⟨rk,ra,rn,rc,rfl,hk5,hb5⟩;have hw5:Below w4b.heap.size w4b w5:=(by (repeat (with_reducible first|exact Below.refl _ _|refine zab ?_|refine zaa ?_|(apply zac;focus assumption))));have HW45:=Lib.hid (hb4b.trans (hw5.mono hb4b.size));have hs5:=HW45.out.size;have HK5:Hid (NdAt (Up (w.heap.size+2)) w5 (.agg #[.int .u8 rk,.int .i64 0,.string (resultN g).name,.slice ra rn rc]) (resultN g)):=Lib.hid (hk5.stays (zaJ (by simp;omega))))
       | (go_at_call 68;refine (zie (w.heap.size+2) w5 rk (resultN g).name ca ja ra cn cc jn jc rn rc (bindsN (keptF kept) g.body) (invL (bindsN (keptF kept) g.body)).reverse (resultN g) (by omega) (HK1.out.stays (Stays.of_below HW45.out)) HK5.out (HK4.out.stays (Stays.of_below HW45.out)) (by omega) (by rw [List.length_reverse,zee];omega)).mono ?_;rintro e w6 ⟨xa,xn,xc,rfl,hk6,hb6⟩))
      all_goals
       have HW46:Hid (Below w4.heap.size w4 w6):=Lib.hid (HW45.out.trans (hb6.mono HW45.out.size))
       have HND6:Hid (NdAt (Up (w.heap.size+2)) w6 (.agg #[.int .u8 57,.int .i64 0,.string ⟨#[]⟩,.slice xa xn xc]) (blockN (cleanIn g kept))):=Lib.hid (zam (k:=57) (zar.2 hk6) (by omega) (Nat.zero_le _))
       have HB6:Hid (Below w.heap.size w w6):=Lib.hid (HB4.out.trans (HW46.out.mono HB4.out.size))
       have HPB6:=Lib.hid (HPB4.out.below HW46.out)
       have HV6:=Lib.hid (HV4.out.stays (Stays.of_below HW46.out))
       have hs6:w.heap.size+2≤w6.heap.size:=Nat.le_trans hs4 HW46.out.size
       have HS6':=Lib.hid hs6
       clear hk6 hb6 hw5 hb5 hk5 hs5 HK5 HW45 HS6 HK1 HK4 HO2 hb4a hb4b hs4b hs4 hs6 hw4b HW46 HG4 HPB4 HV4 HB4
       have HC8:Hid (∀ (w7 w8:World),Below w6.heap.size w6 w7→Below (w7.alloc (.cells #[.int .u8 57,.int .i64 0,.string ⟨#[]⟩,.slice xa xn xc] 34)).heap.size (w7.alloc (.cells #[.int .u8 57,.int .i64 0,.string ⟨#[]⟩,.slice xa xn xc] 34)) w8→NdAt (Up (w.heap.size+2)) w8 (.agg #[.int .u8 55,.int .i64 0,.string ⟨#[103]⟩,.slice (some ⟨w7.heap.size,0,none⟩) 1 1]) (nodeN 55 ⟨#[103]⟩ [blockN (cleanIn g kept)])):=Lib.hid (fun w7 w8 h7 h8=>
        zam (k:=55) (zbi (A:=Up (w.heap.size+2)) (zad h8 (zah w7 _)) (Nat.le_trans HS6'.out h7.size) (HND6.out.stays (Stays.of_below (h7.trans ((zaa (Below.refl _ _):Below w7.heap.size w7 _).mono h7.size |>.trans (h8.mono (Nat.le_trans h7.size (zaa (Below.refl w7.heap.size w7)).size))))))) (by omega) (by unfold maxLen;decide))
       go_wp2_with (first
        | (go_at_call 65;refine (zco _ _ _ _).mono ?_;rintro e w7 ⟨rfl,hb7⟩;have HW7:Hid (Below w6.heap.size w6 w7):=Lib.hid (by (repeat (with_reducible first|exact Below.refl _ _|refine zab ?_|refine zaa ?_|(apply zac;focus assumption)))))
        | (go_at_call 61;refine (zdj 55 ⟨#[103]⟩ _ _ _ _).mono ?_;rintro e w8 ⟨rfl,hb8⟩;have HW8:Hid (Below w6.heap.size w6 w8):=Lib.hid (by (repeat (with_reducible first|exact Below.refl _ _|refine zab ?_|refine zaa ?_|(apply zac;focus assumption))));have HN8:=Lib.hid (HC8.out w7 w8 HW7.out hb8)))
       have hb0:Below w6.heap.size w6 (w8.alloc (.cells #[.int .u8 55,.int .i64 0,.string ⟨#[103]⟩,.slice (some ⟨w7.heap.size,0,none⟩) 1 1] 34)):=zaa HW8.out
       have HB0:Hid (Below w.heap.size w (w8.alloc (.cells #[.int .u8 55,.int .i64 0,.string ⟨#[103]⟩,.slice (some ⟨w7.heap.size,0,none⟩) 1 1] 34))):=Lib.hid (HB6.out.trans (hb0.mono HB6.out.size))
       have HT0:Hid ((w8.alloc (.cells #[.int .u8 55,.int .i64 0,.string ⟨#[103]⟩,.slice (some ⟨w7.heap.size,0,none⟩) 1 1] 34)).heap[w8.heap.size]?=some (.cells #[.int .u8 55,.int .i64 0,.string ⟨#[103]⟩,.slice (some ⟨w7.heap.size,0,none⟩) 1 1] 34 (0,0))):=Lib.hid (zah _ _)
       have HP0:=Lib.hid (HPB6.out.below hb0)
       have HV0:=Lib.hid (HV6.out.stays (Stays.of_below hb0))
       have HN0:Hid (NdAt (Up (w.heap.size+2)) (w8.alloc (.cells #[.int .u8 55,.int .i64 0,.string ⟨#[103]⟩,.slice (some ⟨w7.heap.size,0,none⟩) 1 1] 34)) (.agg #[.int .u8 55,.int .i64 0,.string ⟨#[103]⟩,.slice (some ⟨w7.heap.size,0,none⟩) 1 1]) (nodeN 55 ⟨#[103]⟩ [blockN (cleanIn g kept)])):=Lib.hid (HN8.out.stays (Stays.of_below (zaa (Below.refl _ _))))
       have HS0:Hid (w.heap.size+2≤(w8.alloc (.cells #[.int .u8 55,.int .i64 0,.string ⟨#[103]⟩,.slice (some ⟨w7.heap.size,0,none⟩) 1 1] 34)).heap.size):=Lib.hid (Nat.le_trans HS6'.out hb0.size)
       have HX0:Hid (w8.heap.size < (w8.alloc (.cells #[.int .u8 55,.int .i64 0,.string ⟨#[103]⟩,.slice (some ⟨w7.heap.size,0,none⟩) 1 1] 34)).heap.size):=Lib.hid (by simp)
       have HX8:Hid (w.heap.size+2≤w8.heap.size):=Lib.hid (Nat.le_trans HS6'.out HW8.out.size)
       generalize (w8.alloc (.cells #[.int .u8 55,.int .i64 0,.string ⟨#[103]⟩,.slice (some ⟨w7.heap.size,0,none⟩) 1 1] 34))=W0 at *
       clear hb0 hb7 hb8 HC8 HW7 HW8 HN8 HND6 HB6 HPB6 HV6
       have HF0:Hid (∀ w1,Near W0 (w.heap.size+1) w1→w1.cell? ⟨w.heap.size,0,none⟩=some (.string g.name)∧w1.cell? ⟨w.heap.size,3,none⟩=some (.slice ta g.temps.length tc)∧w1.cell? ⟨w8.heap.size,0,none⟩=some (.int .u8 55)∧w1.cell? ⟨w8.heap.size,1,none⟩=some (.int .i64 0)∧w1.cell? ⟨w8.heap.size,2,none⟩=some (.string ⟨#[103]⟩)∧w1.cell? ⟨w8.heap.size,3,none⟩=some (.slice (some ⟨w7.heap.size,0,none⟩) 1 1)):=Lib.hid (fun w1 ⟨w2,h1,h2⟩=>by
        have e1:w1.heap[w.heap.size]?=_:=(h2.block w.heap.size (by have:=h1.size;have:=HS0.out;omega) (by omega)).trans (zad h1 HP0.out.1)
        have e2:w1.heap[w8.heap.size]?=_:=(h2.block w8.heap.size (by have:=h1.size;have:=HX0.out;omega) (by have:=HX8.out;omega)).trans (zad h1 HT0.out)
        obtain ⟨a0,a1,a2,a3,a4,a5⟩:=cells6 e1
        obtain ⟨b0,b1,b2,b3⟩:=cells4 e2
        exact ⟨a0,a3,b0,b1,b2,b3⟩)
       have HC6:Hid (∀ w1 q,Below W0.heap.size W0 w1→w1.heap[q]?=some (.cells #[.int .u8 55,.int .i64 0,.string ⟨#[103]⟩,.slice (some ⟨w7.heap.size,0,none⟩) 1 1] 34 (0,0))→W0.heap.size≤q→Calls Tryz.prog 64 #[.slice ta g.temps.length tc,.agg #[.int .u8 57,.int .i64 0,.string ⟨#[]⟩,.slice (some ⟨q,0,none⟩) 1 1]] w1 (fun e w'=>∃ ya yn yc,e=.returned (.agg #[.int .u8 57,.int .i64 0,.string ⟨#[]⟩,.slice ya yn yc])∧NdAt (Up (w.heap.size+2)) w' (.agg #[.int .u8 57,.int .i64 0,.string ⟨#[]⟩,.slice ya yn yc]) (procC g kept)∧Below w1.heap.size w1 w')):=Lib.hid (fun w1 q h hq hge=>
        (zhf g.temps ta tc (some ⟨q,0,none⟩) 1 1 [nodeN 55 ⟨#[103]⟩ [blockN (cleanIn g kept)]] (Up (w.heap.size+2)) w1 (HT.out.stays (Stays.of_below (HB0.out.trans (h.mono HB0.out.size)))) (zam (k:=57) (zbi (A:=Up (w.heap.size+2)) hq (Nat.le_trans HS0.out hge) (HN0.out.stays (Stays.of_below h))) (by omega) (Nat.zero_le _)) (by omega)).mono fun e w' ⟨a,n,c,he,hn,hb⟩=>⟨a,n,c,he,
          hn.stays ⟨Nat.le_refl _,fun b _ a=>⟨rfl,by rcases a with a|a;exact a;exact Nat.le_trans (Nat.le_trans HS0.out h.size) a⟩⟩,hb⟩)
       obtain ⟨LE,hLE⟩:∃ LE,LE=limE (paramsN g).length (procC g kept):=⟨_,rfl⟩
       have HC7:Hid (∀ w1 ya yn yc,NdAt (Up (w.heap.size+2)) w1 (.agg #[.int .u8 57,.int .i64 0,.string ⟨#[]⟩,.slice ya yn yc]) (procC g kept)→Calls Tryz.prog 63 #[prV g.name va (paramsN g).length vc 57 0 ⟨#[]⟩ ya yn yc] w1 (fun e w'=>e=.returned (.tuple #[if LE=0 then prV g.name va (paramsN g).length vc 57 0 ⟨#[]⟩ ya yn yc else zeroP,.int .i64 LE])∧Below w1.heap.size w1 w')):=Lib.hid (fun w1 ya yn yc h=>by
        have h1:=finish_K g.name va (paramsN g).length vc 57 0 ⟨#[]⟩ ya yn yc (procC g kept) w1 (h.stays ⟨Nat.le_refl _,fun _ _ _=>⟨rfl,trivial⟩⟩) hszc (by omega)
        rw [← hLE] at h1
        exact h1)
       have HLE:=Lib.hid hLE
       clear hLE
       by_cases hL0:LE=0
       · subst hL0
         simp only [if_true] at HC7
         go_region_held3 (fun w1=>w1.cell? ⟨w.heap.size,0,none⟩=some (.string g.name)∧w1.cell? ⟨w.heap.size,3,none⟩=some (.slice ta g.temps.length tc)∧w1.cell? ⟨w8.heap.size,0,none⟩=some (.int .u8 55)∧w1.cell? ⟨w8.heap.size,1,none⟩=some (.int .i64 0)∧w1.cell? ⟨w8.heap.size,2,none⟩=some (.string ⟨#[103]⟩)∧w1.cell? ⟨w8.heap.size,3,none⟩=some (.slice (some ⟨w7.heap.size,0,none⟩) 1 1)) (with_reducible refine HF0.out _ ?_;focus ((repeat (with_reducible first|refine zdw ?_|refine zej ?_));refine zel (by (repeat (with_reducible first|exact Below.refl _ _|refine zab ?_|refine zaa ?_|(apply zac;focus assumption))));done))
          (first|(go_simp;first|(go_at_call 65;(with_reducible refine (zco _ _ _ _).mono ?_);rintro e w11 ⟨rfl,hb11⟩)|(go_at_call 64;(with_reducible refine (HC6.out _ _ (by (repeat (with_reducible first|exact Below.refl _ _|refine zab ?_|refine zaa ?_|(apply zac;focus assumption)))) (by (repeat (with_reducible first|(refine zaj ?_;(simp;done))|(refine zaj ?_;rfl)|refine zai ?_|refine zag ?_|(apply zad;focus assumption)))) (by first|exact Nat.le_refl _|(simp;done)|(simp;omega))).mono ?_);rintro e w9 ⟨ya,yn,yc,rfl,hn9,hb9⟩;have HN9:=Lib.hid hn9;clear hn9)|(go_at_call 63;(with_reducible refine (HC7.out _ _ _ _ HN9.out).mono ?_);rintro e w10 ⟨rfl,hb10⟩;have HW10:Hid (Below W0.heap.size W0 w10):=Lib.hid (by (repeat (with_reducible first|exact Below.refl _ _|refine zab ?_|refine zaa ?_|(apply zac;focus assumption))));have HZ10:=Lib.hid (zad HW10.out HP0.out.2);obtain ⟨z0,z1,z2,z3,z4,z5⟩:=cells6 HZ10.out;have zf:=unfrozen HZ10.out)|fail))
         all_goals
          have hv10:=HV0.out.stays (Stays.of_below HW10.out)
          have hn10:=HN9.out.stays (Stays.of_below ((by (repeat (with_reducible first|exact Below.refl _ _|refine zab ?_|refine zaa ?_|(apply zac;focus assumption)))):Below w9.heap.size w9 w10))
          have HV10:=Lib.hid hv10
          have HN10:=Lib.hid hn10
          have HBF:=Lib.hid (HB0.out.trans (HW10.out.mono HB0.out.size))
          clear hv10 hn10
          go_wp2
          (try simp only [Exit.inBlock,Exit.then])
          refine bodyPost_ret (zak (P:=Tryz.prog) rfl _ _ (w.heap.size+1) _ _ _ _ _ rfl (set6 HZ10.out _ _ _ _ _ _) rfl Tryz.underlying83 rfl (by kernel_rfl)) rfl ?_
          exact znf (.inr rfl) (znm HLE.out.symm) HBF.out HV10.out HN10.out _ _ _ _ _ _
       · simp only [if_neg hL0] at HC7
         have HL0:=Lib.hid hL0
         clear hL0
         go_region_held3 (fun w1=>w1.cell? ⟨w.heap.size,0,none⟩=some (.string g.name)∧w1.cell? ⟨w.heap.size,3,none⟩=some (.slice ta g.temps.length tc)∧w1.cell? ⟨w8.heap.size,0,none⟩=some (.int .u8 55)∧w1.cell? ⟨w8.heap.size,1,none⟩=some (.int .i64 0)∧w1.cell? ⟨w8.heap.size,2,none⟩=some (.string ⟨#[103]⟩)∧w1.cell? ⟨w8.heap.size,3,none⟩=some (.slice (some ⟨w7.heap.size,0,none⟩) 1 1)) (with_reducible refine HF0.out _ ?_;focus ((repeat (with_reducible first|refine zdw ?_|refine zej ?_));refine zel (by (repeat (with_reducible first|exact Below.refl _ _|refine zab ?_|refine zaa ?_|(apply zac;focus assumption))));done))
          (first|(go_simp;first|(go_at_call 65;(with_reducible refine (zco _ _ _ _).mono ?_);rintro e w11 ⟨rfl,hb11⟩)|(go_at_call 64;(with_reducible refine (HC6.out _ _ (by (repeat (with_reducible first|exact Below.refl _ _|refine zab ?_|refine zaa ?_|(apply zac;focus assumption)))) (by (repeat (with_reducible first|(refine zaj ?_;(simp;done))|(refine zaj ?_;rfl)|refine zai ?_|refine zag ?_|(apply zad;focus assumption)))) (by first|exact Nat.le_refl _|(simp;done)|(simp;omega))).mono ?_);rintro e w9 ⟨ya,yn,yc,rfl,hn9,hb9⟩;have HN9:=Lib.hid hn9;clear hn9)|(go_at_call 63;(with_reducible refine (HC7.out _ _ _ _ HN9.out).mono ?_);rintro e w10 ⟨rfl,hb10⟩;have HW10:Hid (Below W0.heap.size W0 w10):=Lib.hid (by (repeat (with_reducible first|exact Below.refl _ _|refine zab ?_|refine zaa ?_|(apply zac;focus assumption))));have HZ10:=Lib.hid (zad HW10.out HP0.out.2);obtain ⟨z0,z1,z2,z3,z4,z5⟩:=cells6 HZ10.out;have zf:=unfrozen HZ10.out)|fail))
         all_goals
          have HBF:=Lib.hid (HB0.out.trans (HW10.out.mono HB0.out.size))
          go_wp2
          (try simp only [Exit.inBlock,Exit.then])
          refine bodyPost_ret (zak (P:=Tryz.prog) rfl _ _ (w.heap.size+1) _ _ _ _ _ rfl (set6 HZ10.out _ _ _ _ _ _) rfl Tryz.underlying83 rfl (by kernel_rfl)) rfl ?_
          exact ziD HL0.out HBF.out _ _ _ _ _ _
end Go.Proofs.YtpobmoegmdhbpaaGreatDoor
