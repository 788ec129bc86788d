/- Contracts and plain lemmas (ScpD, ScpE, ScpF, ChkA): no statement of the seat is proved here. -/
import Derived.Test.YtpobmoegmdhbpaaGreatDoorXs3
import Derived.Deep.RegionHeld3
set_option linter.unusedSimpArgs false
set_option linter.unusedVariables false
set_option linter.unusedSectionVars false
set_option maxRecDepth 100000
set_option maxHeartbeats 6400000
namespace Go.Proofs.YtpobmoegmdhbpaaGreatDoor
open Go.RowKit
def FaultOk (p:Prg) (L:List Dcl) (n:Nd):Prop:=
 (n.kind=2∧∃ d,findD L n.name=some d∧d.kind=1)∨((n.kind=4∨n.kind=5∨n.kind=44∨n.kind=45)∧∃ d,findD L n.name=some d∧d.kind=3)∨((n.kind=54∨n.kind=55)∧findD L n.name=none)∨
 ((n.kind=50∨n.kind=51)∧∃ q,IdxP p.procs n.name q∧n.kids.length=(at' p.procs q).params.length)∨
 (n.kind≠2∧n.kind≠3∧n.kind≠4∧n.kind≠5∧n.kind≠44∧n.kind≠45∧n.kind≠50∧n.kind≠51∧n.kind≠54∧n.kind≠55)
theorem zmO {p:Prg} {L:List Dcl} {n:Nd} (hf:FaultOk p L n) {v:Value} {la:Option Addr} {lc:Nat} {A:Nat→Prop} {w:World} {va:Option Addr} {vc:Nat} {pa:Option Addr} {pc:Nat} {ka:Option Addr} {kc:Nat}
 (hp:PrgAt Any w va vc pa pc ka kc p) (hn:NdAt A w v n) (hv:RowsAt DclE Any w (.slice la L.length lc) L):
 Calls Tryz.prog 130 #[PrgV va vc pa pc ka kc p,v,.slice la L.length lc] w (ZeroB w):=by
 cases n with
 | mk k num s kids=>
   rcases hf with ⟨h1,d,h2,h3⟩|⟨h1,d,h2,h3⟩|⟨h1,h2⟩|⟨h1,q,h2,h3⟩|h
   · exact zgI k num s kids d (.inl ⟨h1,h3⟩) L h2 v v la lc A w p va vc pa pc ka kc hn hv
   · exact zgI k num s kids d (.inr ⟨h1,h3⟩) L h2 v v la lc A w p va vc pa pc ka kc hn hv
   · exact zko k num s kids h1 L h2 v v la lc A w p va vc pa pc ka kc hn hv
   · exact ziV k num s kids h1 q v _ A w p va vc pa pc ka kc hp h2 h3 hn
   · exact zjy _ h v v _ A w p va vc pa pc ka kc hn
def ArgsOk (p:Prg) (L:List Dcl) (n:Nd):Prop:=∃ q,IdxP p.procs n.name q∧n.kids.length=(at' p.procs q).params.length∧∀ i,i < n.kids.length→∃ d,findD L (at' n.kids i).name=some d∧(at' (at' p.procs q).params i).kind=d.kind
theorem zot {p:Prg} {L:List Dcl} {n:Nd} (hf:ArgsOk p L n) {i:Nat} (hi:i < n.kids.length) {v:Value} {la:Option Addr} {lc:Nat} {A:Nat→Prop} {w:World} {va:Option Addr} {vc:Nat} {pa:Option Addr} {pc:Nat} {ka:Option Addr} {kc:Nat}
 (hp:PrgAt Any w va vc pa pc ka kc p) (hn:NdAt A w v n) (hv:RowsAt DclE Any w (.slice la L.length lc) L):
 Calls Tryz.prog 132 #[PrgV va vc pa pc ka kc p,v,.int .i64 i,.slice la L.length lc] w (ZeroB w):=by
 cases n with
 | mk k num s kids=>
   obtain ⟨q,h1,h2,h3⟩:=hf
   obtain ⟨d,h4,h5⟩:=h3 i hi
   exact zhs k num s kids i q L d hi h4 v la lc A w p va vc pa pc ka kc hp h1 h2 h5 hn hv
theorem zmD (n:Nd) (i:Int) {L:List Dcl} (hl:L.length≤100000) {v:Value} {la:Option Addr} {lc:Nat} {A:Nat→Prop} {w:World} (hn:NdAt A w v n) (hv:RowsAt DclE Any w (.slice la L.length lc) L):
 Calls Tryz.prog 133 #[v,.int .i64 i,.slice la L.length lc] w (InPost n i L w):=by
 by_cases h1:n.kind=54∧i=1
 · cases n with
   | mk k num s kids=>
     obtain ⟨h,rfl⟩:=h1
     obtain rfl:k=54:=h
     exact zlr num s kids L v la lc A w hn hv hl
 · by_cases h2:n.kind=55∧i=0
   · cases n with
     | mk k num s kids=>
       obtain ⟨h,rfl⟩:=h2
       obtain rfl:k=55:=h
       exact zkP num s kids L v la lc A w hn hv hl
   · exact zjz n i L h1 h2 v la lc A w hn hv
inductive VisOk (p:Prg):List Dcl→Nd→Prop
 | call (L:List Dcl) (n:Nd) (hk:n.kind=50∨n.kind=51) (hf:FaultOk p L n) (ha:ArgsOk p L n):VisOk p L n
 | node (L:List Dcl) (n:Nd) (hk:n.kind≠50∧n.kind≠51) (hf:FaultOk p L n) (ha:∀ i,i < n.kids.length→VisOk p (innerL n i L) (at' n.kids i)):VisOk p L n
theorem zjs (n:Nd) (i:Int) (L:List Dcl):(innerL n i L).length≤L.length+1:=by
 unfold innerL
 split
 · simp
 · split <;> simp
def ReportOk (rv:Value) (w:World):Prop:=∃ F caps,rv=.func (.func F) #[] caps∧(∀ (args:Array Value) (w0:World),(callFunc F args).run Tryz.prog w0=.ok (.enter F args) w0)∧∀ (pth:Value) (s:ByteArray) (w1:World),Below w.heap.size w w1→
 Calls Tryz.prog F (#[pth,.string s,.int .i64 0] ++ caps) w1 fun e w2=>e=.returned (.tuple #[])∧Below w1.heap.size w1 w2
theorem ReportOk.below {rv:Value} {w w':World} (h:ReportOk rv w) (hb:Below w.heap.size w w'):ReportOk rv w':=by
 obtain ⟨F,caps,rfl,hE,h⟩:=h
 exact ⟨F,caps,rfl,hE,fun pth s w1 h1=>h pth s w1 (hb.trans (h1.mono hb.size))⟩
end Go.Proofs.YtpobmoegmdhbpaaGreatDoor
namespace Go.Proofs.YtpobmoegmdhbpaaGreatDoor
open Go.RowKit
def UnitB (w:World) (e:Ending) (w':World):Prop:=e=.returned (.tuple #[])∧Below w.heap.size w w'
def VisitOk (p:Prg) (va:Option Addr) (vc:Nat) (pa:Option Addr) (pc:Nat) (ka:Option Addr) (kc:Nat) (m:Nat):Prop:=
 ∀ (n:Nd) (L:List Dcl) (P:List Int) (v:Value) (la:Option Addr) (lc:Nat) (ga:Option Addr) (gc:Nat) (rv:Value) (A:Nat→Prop) (w:World),sizeN n≤m→P.length+sizeN n≤50000→L.length+sizeN n≤50000→VisOk p L n→PrgAt Any w va vc pa pc ka kc p→NdAt A w v n→
   RowsAt DclE Any w (.slice la L.length lc) L→RowsAt IxE Any w (.slice ga P.length gc) P→ReportOk rv w→
   Calls Tryz.prog 78 #[PrgV va vc pa pc ka kc p,v,.slice ga P.length gc,.slice la L.length lc,rv] w (UnitB w)
theorem zjL (p:Prg) (va:Option Addr) (vc:Nat) (pa:Option Addr) (pc:Nat) (ka:Option Addr) (kc:Nat) (m:Nat) (ih:VisitOk p va vc pa pc ka kc m):VisitOk p va vc pa pc ka kc (m+1):=by
 intro n L P v la lc ga gc rv A w hm hP hL hok hp hn hv hg hr
 obtain ⟨ho1,hlen,ja,jc,rfl,hkk⟩:=hn.open
 obtain ⟨F,caps,rfl,hE,hF⟩:=hr
 have IH:=Lib.hid ih
 unfold maxLen at hlen
 have hA:Below w.heap.size w ((w.alloc (bxP va vc pa pc ka kc p)).alloc (.cells #[.int .u8 n.kind,.int .i64 n.num,.string n.name,.slice ja n.kids.length jc] 34)):=zaa (zaa (Below.refl _ _))
 have hO:=zaI w (bxP va vc pa pc ka kc p) (.cells #[.int .u8 n.kind,.int .i64 n.num,.string n.name,.slice ja n.kids.length jc] 34)
 have hNW:=zaw w (bxP va vc pa pc ka kc p) (.cells #[.int .u8 n.kind,.int .i64 n.num,.string n.name,.slice ja n.kids.length jc] 34)
 have hF0:FaultOk p L n:=by cases hok with
  | call _ _ _ h _=>exact h
  | node _ _ _ h _=>exact h
 have HOK:=Lib.hid hok
 have HFA:=Lib.hid (fun w1 (h:Below w.heap.size w w1)=>zmO (v:=.agg #[.int .u8 n.kind,.int .i64 n.num,.string n.name,.slice ja n.kids.length jc]) (A:=A) hF0 (hp.stays (Stays.of_below h)) (hn.stays (Stays.of_below h)) (hv.stays (Stays.of_below h)))
 have HRP:=Lib.hid hF
 have HPR:=Lib.hid hp
 have HV:=Lib.hid hv
 have HG:=Lib.hid hg
 have HN:=Lib.hid hn
 have HK:Hid (KidsAt A w (.slice ja n.kids.length jc) n.kids):=Lib.hid hkk
 have HA:=Lib.hid hA
 have HX:Hid (∀ w1,Below ((w.alloc (bxP va vc pa pc ka kc p)).alloc (.cells #[.int .u8 n.kind,.int .i64 n.num,.string n.name,.slice ja n.kids.length jc] 34)).heap.size ((w.alloc (bxP va vc pa pc ka kc p)).alloc (.cells #[.int .u8 n.kind,.int .i64 n.num,.string n.name,.slice ja n.kids.length jc] 34)) w1→
  (w1.cell? ⟨w.heap.size,0,none⟩=some (.slice va p.vars.length vc)∧w1.cell? ⟨w.heap.size,1,none⟩=some (.slice pa p.procs.length pc)∧w1.cell? ⟨w.heap.size,2,none⟩=some (.int .u8 p.main.kind)∧w1.cell? ⟨w.heap.size,3,none⟩=some (.int .i64 p.main.num)∧w1.cell? ⟨w.heap.size,4,none⟩=some (.string p.main.name)∧w1.cell? ⟨w.heap.size,5,none⟩=some (.slice ka p.main.kids.length kc))∧
  (w1.cell? ⟨w.heap.size+1,0,none⟩=some (.int .u8 n.kind)∧w1.cell? ⟨w.heap.size+1,1,none⟩=some (.int .i64 n.num)∧w1.cell? ⟨w.heap.size+1,2,none⟩=some (.string n.name)∧w1.cell? ⟨w.heap.size+1,3,none⟩=some (.slice ja n.kids.length jc))):=Lib.hid (fun w1 h=>⟨cells6' (zad h hO),cells4 (zad h hNW)⟩)
 have HSZ:Hid (∀ j,j < n.kids.length→sizeN (at' n.kids j)≤m∧sizeN (at' n.kids j) < sizeN n):=Lib.hid (fun j hj=>by have:=zaC n j hj;omega)
 have hPl:P.length≤100000:=by omega
 have hLl:L.length≤100000:=by omega
 have HREP:Hid (∀ w1,Below w.heap.size w w1→ReportOk (.func (.func F) #[] caps) w1):=Lib.hid (fun w1 h=>ReportOk.below ⟨F,caps,rfl,hE,hF⟩ h)
 have HCH:Hid (∀ (j:Int) w1,Below w.heap.size w w1→Calls Tryz.prog 131 #[.slice ga P.length gc,.int .i64 j] w1 fun e w'=>∃ a c,e=.returned (.slice a (P.length+1) c)∧RowsAt IxE Any w' (.slice a (P.length+1) c) (P ++ [j])∧Below w1.heap.size w1 w'):=Lib.hid (fun j w1 h=>by
  have h1:=znO P j ga gc Any w1 (hg.stays (Stays.of_below h)) (by omega)
  rw [List.length_append,List.length_singleton] at h1
  exact h1)
 have HIN:Hid (∀ (j:Int) w1,Below w.heap.size w w1→Calls Tryz.prog 133 #[.agg #[.int .u8 n.kind,.int .i64 n.num,.string n.name,.slice ja n.kids.length jc],.int .i64 j,.slice la L.length lc] w1 (InPost n j L w1)):=Lib.hid (fun j w1 h=>zmD n j (A:=A) (by omega) (hn.stays (Stays.of_below h)) (hv.stays (Stays.of_below h)))
 clear hn hv hg hp hkk hF hF0 hok hA hO hNW ih ho1
 go_enter Tryz.func78,Tryz.ntmps78
 go_upto_region 1 with fail
 generalize ((w.alloc (bxP va vc pa pc ka kc p)).alloc (.cells #[.int .u8 n.kind,.int .i64 n.num,.string n.name,.slice ja n.kids.length jc] 34))=W at *
 have HFW:Hid (∀ w1,Below W.heap.size W w1→Below w.heap.size w w1):=Lib.hid (fun w1 h=>HA.out.trans (h.mono HA.out.size))
 go_region_held3 (fun w1=>(w1.cell? ⟨w.heap.size,0,none⟩=some (.slice va p.vars.length vc)∧w1.cell? ⟨w.heap.size,1,none⟩=some (.slice pa p.procs.length pc)∧w1.cell? ⟨w.heap.size,2,none⟩=some (.int .u8 p.main.kind)∧w1.cell? ⟨w.heap.size,3,none⟩=some (.int .i64 p.main.num)∧w1.cell? ⟨w.heap.size,4,none⟩=some (.string p.main.name)∧w1.cell? ⟨w.heap.size,5,none⟩=some (.slice ka p.main.kids.length kc))∧(w1.cell? ⟨w.heap.size+1,0,none⟩=some (.int .u8 n.kind)∧w1.cell? ⟨w.heap.size+1,1,none⟩=some (.int .i64 n.num)∧w1.cell? ⟨w.heap.size+1,2,none⟩=some (.string n.name)∧w1.cell? ⟨w.heap.size+1,3,none⟩=some (.slice ja n.kids.length jc)))
  (with_reducible exact HX.out _ (by (repeat (with_reducible first|exact Below.refl _ _|refine zab ?_|refine zaa ?_|(apply zac;focus assumption)))))
  (first
  | (go_at_call 130;(with_reducible refine (HFA.out _ (HFW.out _ (by (repeat (with_reducible first|exact Below.refl _ _|refine zab ?_|refine zaa ?_|(apply zac;focus assumption)))))).mono ?_);rintro e w1 ⟨rfl,hb1⟩)
  | ((with_reducible refine (HRP.out _ _ _ (HFW.out _ (by (repeat (with_reducible first|exact Below.refl _ _|refine zab ?_|refine zaa ?_|(apply zac;focus assumption)))))).mono ?_);rintro e w2 ⟨rfl,hb2⟩))
 have HB2:Hid (Below W.heap.size W w2):=Lib.hid (by (repeat (with_reducible first|exact Below.refl _ _|refine zab ?_|refine zaa ?_|(apply zac;focus assumption))))
 obtain ⟨⟨x0,x1,x2,x3,x4,x5⟩,⟨y0,y1,y2,y3⟩⟩:=HX.out w2 HB2.out
 clear hb1 hb2 HFA
 rcases HOK.out with ⟨_,_,hk,hf,ha⟩|⟨_,_,hk,hf,ha⟩
 · have kk:(n.kind == 50)=true∨(n.kind == 50)=false∧(n.kind == 51)=true:=by
    rcases hk with h|h
    · exact .inl (by simp [h])
    · exact .inr ⟨by simp [h],by simp [h]⟩
   rcases kk with k50|⟨k50,k51⟩
   all_goals
    go_wp2
    go_loopw [34] (fun i wr=>∃ k:Nat,k≤n.kids.length∧i=.int .i64 k∧Below W.heap.size W wr) (fun i _=>n.kids.length - (intOf i).toNat)
    case atStart=>exact ⟨0,Nat.zero_le _,rfl,HB2.out⟩
    case round=>
     obtain ⟨k,hkk,rfl,hbl⟩:=hrel
     have HBL:=Lib.hid hbl
     have HBW:=Lib.hid (HFW.out _ hbl)
     clear x0 x1 x2 x3 x4 x5 y0 y1 y2 y3
     by_cases hlt:k < n.kids.length
     · obtain ⟨b,off,cap,kb,kd,he,hb,_,_,c0,c1,c2,c3,hnd⟩:=(HK.out.stays (Stays.of_below HBW.out)).at hlt
       simp only [Value.slice.injEq] at he
       obtain ⟨rfl,-,rfl⟩:=he
       have hA3:Below wr.heap.size wr (wr.alloc (.cells #[.int .u8 (at' n.kids k).kind,.int .i64 (at' n.kids k).num,.string (at' n.kids k).name,.slice kb (at' n.kids k).kids.length kd] 34)):=zaa (Below.refl _ _)
       have hk3:=zah wr (.cells #[.int .u8 (at' n.kids k).kind,.int .i64 (at' n.kids k).num,.string (at' n.kids k).name,.slice kb (at' n.kids k).kids.length kd] 34)
       have HAR:Hid (∀ w1,Below w.heap.size w w1→Calls Tryz.prog 132 #[.agg #[.slice va p.vars.length vc,.slice pa p.procs.length pc,.int .u8 p.main.kind,.int .i64 p.main.num,.string p.main.name,.slice ka p.main.kids.length kc],.agg #[.int .u8 n.kind,.int .i64 n.num,.string n.name,.slice (some ⟨b,off,none⟩) n.kids.length jc],.int .i64 k,.slice la L.length lc] w1 (ZeroB w1)):=Lib.hid (fun w1 h=>zot (A:=A) ha hlt (HPR.out.stays (Stays.of_below h)) (HN.out.stays (Stays.of_below h)) (HV.out.stays (Stays.of_below h)))
       have HX3:Hid (∀ w1,Below (wr.alloc (.cells #[.int .u8 (at' n.kids k).kind,.int .i64 (at' n.kids k).num,.string (at' n.kids k).name,.slice kb (at' n.kids k).kids.length kd] 34)).heap.size (wr.alloc (.cells #[.int .u8 (at' n.kids k).kind,.int .i64 (at' n.kids k).num,.string (at' n.kids k).name,.slice kb (at' n.kids k).kids.length kd] 34)) w1→((w1.cell? ⟨w.heap.size,0,none⟩=some (.slice va p.vars.length vc)∧w1.cell? ⟨w.heap.size,1,none⟩=some (.slice pa p.procs.length pc)∧w1.cell? ⟨w.heap.size,2,none⟩=some (.int .u8 p.main.kind)∧w1.cell? ⟨w.heap.size,3,none⟩=some (.int .i64 p.main.num)∧w1.cell? ⟨w.heap.size,4,none⟩=some (.string p.main.name)∧w1.cell? ⟨w.heap.size,5,none⟩=some (.slice ka p.main.kids.length kc))∧(w1.cell? ⟨w.heap.size+1,0,none⟩=some (.int .u8 n.kind)∧w1.cell? ⟨w.heap.size+1,1,none⟩=some (.int .i64 n.num)∧w1.cell? ⟨w.heap.size+1,2,none⟩=some (.string n.name)∧w1.cell? ⟨w.heap.size+1,3,none⟩=some (.slice (some ⟨b,off,none⟩) n.kids.length jc)))∧(w1.cell? ⟨wr.heap.size,0,none⟩=some (.int .u8 (at' n.kids k).kind)∧w1.cell? ⟨wr.heap.size,1,none⟩=some (.int .i64 (at' n.kids k).num)∧w1.cell? ⟨wr.heap.size,2,none⟩=some (.string (at' n.kids k).name)∧w1.cell? ⟨wr.heap.size,3,none⟩=some (.slice kb (at' n.kids k).kids.length kd))):=Lib.hid (fun w1 h=>⟨HX.out w1 (hbl.trans ((hA3.trans (h.mono hA3.size)).mono hbl.size)),cells4 (zad h hk3)⟩)
       have HFX:Hid (∀ w1,Below (wr.alloc (.cells #[.int .u8 (at' n.kids k).kind,.int .i64 (at' n.kids k).num,.string (at' n.kids k).name,.slice kb (at' n.kids k).kids.length kd] 34)).heap.size (wr.alloc (.cells #[.int .u8 (at' n.kids k).kind,.int .i64 (at' n.kids k).num,.string (at' n.kids k).name,.slice kb (at' n.kids k).kids.length kd] 34)) w1→Below w.heap.size w w1):=Lib.hid (fun w1 h=>HFW.out _ (hbl.trans ((hA3.trans (h.mono hA3.size)).mono hbl.size)))
       have HKD:Hid (∀ w1,Below (wr.alloc (.cells #[.int .u8 (at' n.kids k).kind,.int .i64 (at' n.kids k).num,.string (at' n.kids k).name,.slice kb (at' n.kids k).kids.length kd] 34)).heap.size (wr.alloc (.cells #[.int .u8 (at' n.kids k).kind,.int .i64 (at' n.kids k).num,.string (at' n.kids k).name,.slice kb (at' n.kids k).kids.length kd] 34)) w1→NdAt A w1 (.agg #[.int .u8 (at' n.kids k).kind,.int .i64 (at' n.kids k).num,.string (at' n.kids k).name,.slice kb (at' n.kids k).kids.length kd]) (at' n.kids k)):=Lib.hid (fun w1 h=>hnd.stays (Stays.of_below (hA3.trans (h.mono hA3.size))))
       have HBX:=Lib.hid (hbl.trans (hA3.mono hbl.size))
       clear hnd hbl hA3 hk3
       go_upto_region 6 with fail
       generalize (wr.alloc (.cells #[.int .u8 (at' n.kids k).kind,.int .i64 (at' n.kids k).num,.string (at' n.kids k).name,.slice kb (at' n.kids k).kids.length kd] 34))=X at *
       go_region_held3 (fun w1=>((w1.cell? ⟨w.heap.size,0,none⟩=some (.slice va p.vars.length vc)∧w1.cell? ⟨w.heap.size,1,none⟩=some (.slice pa p.procs.length pc)∧w1.cell? ⟨w.heap.size,2,none⟩=some (.int .u8 p.main.kind)∧w1.cell? ⟨w.heap.size,3,none⟩=some (.int .i64 p.main.num)∧w1.cell? ⟨w.heap.size,4,none⟩=some (.string p.main.name)∧w1.cell? ⟨w.heap.size,5,none⟩=some (.slice ka p.main.kids.length kc))∧(w1.cell? ⟨w.heap.size+1,0,none⟩=some (.int .u8 n.kind)∧w1.cell? ⟨w.heap.size+1,1,none⟩=some (.int .i64 n.num)∧w1.cell? ⟨w.heap.size+1,2,none⟩=some (.string n.name)∧w1.cell? ⟨w.heap.size+1,3,none⟩=some (.slice (some ⟨b,off,none⟩) n.kids.length jc)))∧(w1.cell? ⟨wr.heap.size,0,none⟩=some (.int .u8 (at' n.kids k).kind)∧w1.cell? ⟨wr.heap.size,1,none⟩=some (.int .i64 (at' n.kids k).num)∧w1.cell? ⟨wr.heap.size,2,none⟩=some (.string (at' n.kids k).name)∧w1.cell? ⟨wr.heap.size,3,none⟩=some (.slice kb (at' n.kids k).kids.length kd)))
        (with_reducible exact HX3.out _ (by (repeat (with_reducible first|exact Below.refl _ _|refine zab ?_|refine zaa ?_|(apply zac;focus assumption)))))
        (first
        | (go_at_call 132;(with_reducible refine (HAR.out _ (HFX.out _ (by (repeat (with_reducible first|exact Below.refl _ _|refine zab ?_|refine zaa ?_|(apply zac;focus assumption)))))).mono ?_);rintro e w4 ⟨rfl,hb4⟩)
        | (go_at_call 131;(with_reducible refine (HCH.out _ _ (HFX.out _ (by (repeat (with_reducible first|exact Below.refl _ _|refine zab ?_|refine zaa ?_|(apply zac;focus assumption)))))).mono ?_);rintro e w3 ⟨a3,c3',rfl,h3,hb3⟩;have HC3:=Lib.hid h3;clear h3)
        | ((with_reducible refine (HRP.out _ _ _ (HFX.out _ (by (repeat (with_reducible first|exact Below.refl _ _|refine zab ?_|refine zaa ?_|(apply zac;focus assumption)))))).mono ?_);rintro e w5 ⟨rfl,hb5⟩))
       all_goals
        have HB5:Hid (Below X.heap.size X w5):=Lib.hid (by (repeat (with_reducible first|exact Below.refl _ _|refine zab ?_|refine zaa ?_|(apply zac;focus assumption))))
        clear hb3 hb4 hb5
        go_wp2
        go_roundw
        case rel=>exact ⟨k+1,by omega,by go_num,HBX.out.trans (HB5.out.mono HBX.out.size)⟩
        case measure=>simp [intOf];omega
     · obtain rfl:k=n.kids.length:=by omega
       have hlt':¬ (n.kids.length:Int) < (n.kids.length:Int):=by omega
       clear hbl
       go_wp2
       (try simp only [Exit.inBlock,Exit.then])
       refine bodyPost_end (results_none rfl _ _ _) rfl ?_
       exact ⟨rfl,HBW.out⟩
 · have k50:(n.kind == 50)=false:=by simp;omega
   have k51:(n.kind == 51)=false:=by simp;omega
   go_wp2
   go_loopw [55] (fun i wr=>∃ k:Nat,k≤n.kids.length∧i=.int .i64 k∧Below W.heap.size W wr) (fun i _=>n.kids.length - (intOf i).toNat)
   case atStart=>exact ⟨0,Nat.zero_le _,rfl,HB2.out⟩
   case round=>
    obtain ⟨k,hkk,rfl,hbl⟩:=hrel
    have HBL:=Lib.hid hbl
    have HBW:=Lib.hid (HFW.out _ hbl)
    clear x0 x1 x2 x3 x4 x5 y0 y1 y2 y3
    by_cases hlt:k < n.kids.length
    · obtain ⟨b,off,cap,kb,kd,he,hb,_,_,c0,c1,c2,c3,hnd⟩:=(HK.out.stays (Stays.of_below HBW.out)).at hlt
      simp only [Value.slice.injEq] at he
      obtain ⟨rfl,-,rfl⟩:=he
      have hA3:Below wr.heap.size wr (wr.alloc (.cells #[.int .u8 (at' n.kids k).kind,.int .i64 (at' n.kids k).num,.string (at' n.kids k).name,.slice kb (at' n.kids k).kids.length kd] 34)):=zaa (Below.refl _ _)
      have hk3:=zah wr (.cells #[.int .u8 (at' n.kids k).kind,.int .i64 (at' n.kids k).num,.string (at' n.kids k).name,.slice kb (at' n.kids k).kids.length kd] 34)
      have HVI:=Lib.hid (ha k hlt)
      have HX3:Hid (∀ w1,Below (wr.alloc (.cells #[.int .u8 (at' n.kids k).kind,.int .i64 (at' n.kids k).num,.string (at' n.kids k).name,.slice kb (at' n.kids k).kids.length kd] 34)).heap.size (wr.alloc (.cells #[.int .u8 (at' n.kids k).kind,.int .i64 (at' n.kids k).num,.string (at' n.kids k).name,.slice kb (at' n.kids k).kids.length kd] 34)) w1→((w1.cell? ⟨w.heap.size,0,none⟩=some (.slice va p.vars.length vc)∧w1.cell? ⟨w.heap.size,1,none⟩=some (.slice pa p.procs.length pc)∧w1.cell? ⟨w.heap.size,2,none⟩=some (.int .u8 p.main.kind)∧w1.cell? ⟨w.heap.size,3,none⟩=some (.int .i64 p.main.num)∧w1.cell? ⟨w.heap.size,4,none⟩=some (.string p.main.name)∧w1.cell? ⟨w.heap.size,5,none⟩=some (.slice ka p.main.kids.length kc))∧(w1.cell? ⟨w.heap.size+1,0,none⟩=some (.int .u8 n.kind)∧w1.cell? ⟨w.heap.size+1,1,none⟩=some (.int .i64 n.num)∧w1.cell? ⟨w.heap.size+1,2,none⟩=some (.string n.name)∧w1.cell? ⟨w.heap.size+1,3,none⟩=some (.slice (some ⟨b,off,none⟩) n.kids.length jc)))∧(w1.cell? ⟨wr.heap.size,0,none⟩=some (.int .u8 (at' n.kids k).kind)∧w1.cell? ⟨wr.heap.size,1,none⟩=some (.int .i64 (at' n.kids k).num)∧w1.cell? ⟨wr.heap.size,2,none⟩=some (.string (at' n.kids k).name)∧w1.cell? ⟨wr.heap.size,3,none⟩=some (.slice kb (at' n.kids k).kids.length kd))):=Lib.hid (fun w1 h=>⟨HX.out w1 (hbl.trans ((hA3.trans (h.mono hA3.size)).mono hbl.size)),cells4 (zad h hk3)⟩)
      have HFX:Hid (∀ w1,Below (wr.alloc (.cells #[.int .u8 (at' n.kids k).kind,.int .i64 (at' n.kids k).num,.string (at' n.kids k).name,.slice kb (at' n.kids k).kids.length kd] 34)).heap.size (wr.alloc (.cells #[.int .u8 (at' n.kids k).kind,.int .i64 (at' n.kids k).num,.string (at' n.kids k).name,.slice kb (at' n.kids k).kids.length kd] 34)) w1→Below w.heap.size w w1):=Lib.hid (fun w1 h=>HFW.out _ (hbl.trans ((hA3.trans (h.mono hA3.size)).mono hbl.size)))
      have HKD:Hid (∀ w1,Below (wr.alloc (.cells #[.int .u8 (at' n.kids k).kind,.int .i64 (at' n.kids k).num,.string (at' n.kids k).name,.slice kb (at' n.kids k).kids.length kd] 34)).heap.size (wr.alloc (.cells #[.int .u8 (at' n.kids k).kind,.int .i64 (at' n.kids k).num,.string (at' n.kids k).name,.slice kb (at' n.kids k).kids.length kd] 34)) w1→NdAt A w1 (.agg #[.int .u8 (at' n.kids k).kind,.int .i64 (at' n.kids k).num,.string (at' n.kids k).name,.slice kb (at' n.kids k).kids.length kd]) (at' n.kids k)):=Lib.hid (fun w1 h=>hnd.stays (Stays.of_below (hA3.trans (h.mono hA3.size))))
      have HBX:=Lib.hid (hbl.trans (hA3.mono hbl.size))
      have hp2:(P ++ [(k:Int)]).length+sizeN (at' n.kids k)≤50000:=by have:=(HSZ.out k hlt).2;simp;omega
      have hl2:(innerL n k L).length+sizeN (at' n.kids k)≤50000:=by have:=(HSZ.out k hlt).2;have:=zjs n k L;omega
      have HVC:Hid (∀ w1 a3 c3 a4 c4,Below w.heap.size w w1→NdAt A w1 (.agg #[.int .u8 (at' n.kids k).kind,.int .i64 (at' n.kids k).num,.string (at' n.kids k).name,.slice kb (at' n.kids k).kids.length kd]) (at' n.kids k)→RowsAt IxE Any w1 (.slice a3 (P.length+1) c3) (P ++ [(k:Int)])→RowsAt DclE Any w1 (.slice a4 (innerL n k L).length c4) (innerL n k L)→Calls Tryz.prog 78 #[.agg #[.slice va p.vars.length vc,.slice pa p.procs.length pc,.int .u8 p.main.kind,.int .i64 p.main.num,.string p.main.name,.slice ka p.main.kids.length kc],(.agg #[.int .u8 (at' n.kids k).kind,.int .i64 (at' n.kids k).num,.string (at' n.kids k).name,.slice kb (at' n.kids k).kids.length kd]),.slice a3 (P.length+1) c3,.slice a4 (innerL n k L).length c4,.func (.func F) #[] caps] w1 (UnitB w1)):=Lib.hid (fun w1 a3 c3 a4 c4 h h1 h2 h3=>by
       have e:P.length+1=(P ++ [(k:Int)]).length:=by simp
       rw [e] at h2 ⊢
       exact IH.out (at' n.kids k) (innerL n k L) (P ++ [(k:Int)]) _ a4 c4 a3 c3 _ A w1 (HSZ.out k hlt).1 hp2 hl2 HVI.out (HPR.out.stays (Stays.of_below h)) h1 h3 h2 (HREP.out _ h))
      clear hnd hbl hA3 hk3
      go_upto_region 11 with fail
      generalize (wr.alloc (.cells #[.int .u8 (at' n.kids k).kind,.int .i64 (at' n.kids k).num,.string (at' n.kids k).name,.slice kb (at' n.kids k).kids.length kd] 34))=X at *
      go_region_held3 (fun w1=>((w1.cell? ⟨w.heap.size,0,none⟩=some (.slice va p.vars.length vc)∧w1.cell? ⟨w.heap.size,1,none⟩=some (.slice pa p.procs.length pc)∧w1.cell? ⟨w.heap.size,2,none⟩=some (.int .u8 p.main.kind)∧w1.cell? ⟨w.heap.size,3,none⟩=some (.int .i64 p.main.num)∧w1.cell? ⟨w.heap.size,4,none⟩=some (.string p.main.name)∧w1.cell? ⟨w.heap.size,5,none⟩=some (.slice ka p.main.kids.length kc))∧(w1.cell? ⟨w.heap.size+1,0,none⟩=some (.int .u8 n.kind)∧w1.cell? ⟨w.heap.size+1,1,none⟩=some (.int .i64 n.num)∧w1.cell? ⟨w.heap.size+1,2,none⟩=some (.string n.name)∧w1.cell? ⟨w.heap.size+1,3,none⟩=some (.slice (some ⟨b,off,none⟩) n.kids.length jc)))∧(w1.cell? ⟨wr.heap.size,0,none⟩=some (.int .u8 (at' n.kids k).kind)∧w1.cell? ⟨wr.heap.size,1,none⟩=some (.int .i64 (at' n.kids k).num)∧w1.cell? ⟨wr.heap.size,2,none⟩=some (.string (at' n.kids k).name)∧w1.cell? ⟨wr.heap.size,3,none⟩=some (.slice kb (at' n.kids k).kids.length kd)))
       (with_reducible exact HX3.out _ (by (repeat (with_reducible first|exact Below.refl _ _|refine zab ?_|refine zaa ?_|(apply zac;focus assumption)))))
       (first
       | (go_at_call 78;(with_reducible refine (HVC.out _ _ _ _ _ (HFX.out _ (by (repeat (with_reducible first|exact Below.refl _ _|refine zab ?_|refine zaa ?_|(apply zac;focus assumption))))) (HKD.out _ (by (repeat (with_reducible first|exact Below.refl _ _|refine zab ?_|refine zaa ?_|(apply zac;focus assumption))))) (HC3.out.stays (Stays.of_below (by (repeat (with_reducible first|exact Below.refl _ _|refine zab ?_|refine zaa ?_|(apply zac;focus assumption)))))) (HC4.out.stays (Stays.of_below (by (repeat (with_reducible first|exact Below.refl _ _|refine zab ?_|refine zaa ?_|(apply zac;focus assumption))))))).mono ?_);rintro e w5 ⟨rfl,hb5⟩)
       | (go_at_call 131;(with_reducible refine (HCH.out _ _ (HFX.out _ (by (repeat (with_reducible first|exact Below.refl _ _|refine zab ?_|refine zaa ?_|(apply zac;focus assumption)))))).mono ?_);rintro e w3 ⟨a3,c3',rfl,h3,hb3⟩;have HC3:=Lib.hid h3;clear h3)
       | (go_at_call 133;(with_reducible refine (HIN.out _ _ (HFX.out _ (by (repeat (with_reducible first|exact Below.refl _ _|refine zab ?_|refine zaa ?_|(apply zac;focus assumption)))))).mono ?_);rintro e w4 ⟨a4,c4',rfl,h4,hb4⟩;have HC4:=Lib.hid h4;clear h4))
      all_goals
       have HB5:Hid (Below X.heap.size X w5):=Lib.hid (by (repeat (with_reducible first|exact Below.refl _ _|refine zab ?_|refine zaa ?_|(apply zac;focus assumption))))
       clear hb3 hb4 hb5
       go_wp2
       go_roundw
       case rel=>exact ⟨k+1,by omega,by go_num,HBX.out.trans (HB5.out.mono HBX.out.size)⟩
       case measure=>simp [intOf];omega
    · obtain rfl:k=n.kids.length:=by omega
      have hlt':¬ (n.kids.length:Int) < (n.kids.length:Int):=by omega
      clear hbl
      go_wp2
      (try simp only [Exit.inBlock,Exit.then])
      refine bodyPost_end (results_none rfl _ _ _) rfl ?_
      exact ⟨rfl,HBW.out⟩
theorem zjR (p:Prg) (va:Option Addr) (vc:Nat) (pa:Option Addr) (pc:Nat) (ka:Option Addr) (kc:Nat):VisitOk p va vc pa pc ka kc 0:=by
 intro n L P v la lc ga gc rv A w hm
 have:=zaH n
 omega
theorem zex (p:Prg) (va:Option Addr) (vc:Nat) (pa:Option Addr) (pc:Nat) (ka:Option Addr) (kc:Nat):∀ m,VisitOk p va vc pa pc ka kc m
 | 0=>zjR p va vc pa pc ka kc
 | m+1=>zjL p va vc pa pc ka kc m (zex p va vc pa pc ka kc m)
end Go.Proofs.YtpobmoegmdhbpaaGreatDoor
namespace Go.Proofs.YtpobmoegmdhbpaaGreatDoor
open Go.RowKit
theorem report1 (i:Int) (pth:Value) (s:ByteArray) (g:Value) (w:World):Calls Tryz.prog 75 #[.int .i64 i,pth,.string s,.int .i64 0,g] w (UnitB w):=by
 go_enter Tryz.func75,Tryz.ntmps75
 go_wp2
 (try simp only [Exit.inBlock,Exit.then])
 refine bodyPost_end (results_none rfl _ _ _) rfl ?_
 exact ⟨rfl,Below.refl _ _⟩
def RepBox (w:World) (r f:Nat):Prop:=w.heap[r]?=some (.cells #[.func (.func 75) #[] #[.pointer (some ⟨f,0,none⟩)]] 143 (0,0))
theorem report2 (i:Int) (pth:Value) (s:ByteArray) (r f g:Nat) (w:World) (hr:RepBox w r f) (hg:w.heap[g]?=some (.cells #[.int .i64 i] 3 (0,0))):
 Calls Tryz.prog 79 #[pth,.string s,.int .i64 0,.pointer (some ⟨r,0,none⟩),.pointer (some ⟨g,0,none⟩)] w (UnitB w):=by
 have c0:=zae hr 0 rfl
 have c1:=zae hg 0 rfl
 have HR:=Lib.hid (report1 i pth s (.pointer (some ⟨f,0,none⟩)) w)
 clear hr hg
 go_enter Tryz.func79,Tryz.ntmps79
 go_wp2_with (go_at_call 75;refine HR.out.mono ?_;rintro e w1 ⟨rfl,hb1⟩)
 (try simp only [Exit.inBlock,Exit.then])
 refine bodyPost_end (results_none rfl _ _ _) rfl ?_
 exact ⟨rfl,hb1⟩
theorem zjq (i:Int) (r f g:Nat) (w:World) (hr:RepBox w r f) (hg:w.heap[g]?=some (.cells #[.int .i64 i] 3 (0,0))):
 ReportOk (.func (.func 79) #[] #[.pointer (some ⟨r,0,none⟩),.pointer (some ⟨g,0,none⟩)]) w:=
 ⟨79,_,rfl,fun args w=>by kernel_rfl,fun pth s w1 h=>report2 i pth s r f g w1 (zad h hr) (zad h hg)⟩
theorem report3 (p:Prg) (va:Option Addr) (vc:Nat) (pa:Option Addr) (pc:Nat) (ka:Option Addr) (kc:Nat) (pth:Value) (s:ByteArray) (r f g:Nat) (w:World) (hr:RepBox w r f) (hg:w.heap[g]?=some (bxP va vc pa pc ka kc p)):
 Calls Tryz.prog 80 #[pth,.string s,.int .i64 0,.pointer (some ⟨r,0,none⟩),.pointer (some ⟨g,0,none⟩)] w (UnitB w):=by
 have c0:=zae hr 0 rfl
 have c1:=zae hg 1 rfl
 have HR:=Lib.hid (report1 p.procs.length pth s (.pointer (some ⟨f,0,none⟩)) w)
 clear hr hg
 go_enter Tryz.func80,Tryz.ntmps80
 go_wp2_with (go_at_call 75;refine HR.out.mono ?_;rintro e w1 ⟨rfl,hb1⟩)
 (try simp only [Exit.inBlock,Exit.then])
 refine bodyPost_end (results_none rfl _ _ _) rfl ?_
 exact ⟨rfl,hb1⟩
theorem ziZ (p:Prg) (va:Option Addr) (vc:Nat) (pa:Option Addr) (pc:Nat) (ka:Option Addr) (kc:Nat) (r f g:Nat) (w:World) (hr:RepBox w r f) (hg:w.heap[g]?=some (bxP va vc pa pc ka kc p)):
 ReportOk (.func (.func 80) #[] #[.pointer (some ⟨r,0,none⟩),.pointer (some ⟨g,0,none⟩)]) w:=
 ⟨80,_,rfl,fun args w=>by kernel_rfl,fun pth s w1 h=>report3 p va vc pa pc ka kc pth s r f g w1 (zad h hr) (zad h hg)⟩
end Go.Proofs.YtpobmoegmdhbpaaGreatDoor
namespace Go.Proofs.YtpobmoegmdhbpaaGreatDoor
open Go.RowKit
theorem zdm (n:Nd) (hk:n.kind≠3) (s:ByteArray) (v:Value) (A:Nat→Prop) (w:World) (hn:NdAt A w v n):
 Calls Tryz.prog 179 #[v,.string s] w fun e w'=>e=.returned (.bool false)∧Below w.heap.size w w':=by
 obtain ⟨hok,hlen,ka,kc,rfl,hkk⟩:=hn.open
 have hA:Below w.heap.size w (w.alloc (.cells #[.int .u8 n.kind,.int .i64 n.num,.string n.name,.slice ka n.kids.length kc] 34)):=zaa (Below.refl _ _)
 have HA:=Lib.hid hA
 have k3:(n.kind == 3)=false:=by simp;omega
 clear hn hA hkk hok hk
 go_enter Tryz.func179,Tryz.ntmps179
 go_wp2
 go_ret
 exact ⟨rfl,HA.out⟩
end Go.Proofs.YtpobmoegmdhbpaaGreatDoor
