/- Contracts and plain lemmas (PLsl, LslA, LslB, LslC, LslD): no statement of the seat is proved here. -/
import Derived.Test.YtpobmoegmdhbpaaGreatDoorXq07
import Derived.Test.YtpobmoegmdhbpaaGreatDoorXq12
import Derived.Deep.RegionHeld3
set_option linter.unusedSimpArgs false
set_option linter.unusedVariables false
set_option linter.unusedSectionVars false
set_option maxRecDepth 100000
set_option maxHeartbeats 12800000
namespace Go.Proofs.YtpobmoegmdhbpaaGreatDoor
theorem zay {l m:List UInt8}:bstr l=bstr m ↔ l=m:=
 ⟨fun h=>by have:=congrArg (fun b:ByteArray=>b.data.toList) h;simpa [bstr] using this,fun h=>by rw [h]⟩
def lspillS:ByteArray:=bstr [108,115,112,105,108,108]
def gS:ByteArray:=bstr [103]
def aS:ByteArray:=bstr [97]
def bS:ByteArray:=bstr [98]
def tS:ByteArray:=bstr [116]
def xS:ByteArray:=bstr [120]
def yS:ByteArray:=bstr [121]
def nS:ByteArray:=bstr [110]
def sizeS (s:ByteArray):Nd:=nodeN 5 s []
def eqS (a b:Nd):Nd:=nodeN 16 ByteArray.empty [a,b]
def pushS (x s:ByteArray):Nd:=nodeN 44 s [vN x]
def popS (x s:ByteArray):Nd:=nodeN 45 s [vN x]
def localS (t:ByteArray) (a c:Nd) (l:List Nd):Nd:=nodeN 54 t [a,blockN l,c]
def loopS (e d:Nd) (l:List Nd):Nd:=nodeN 53 ByteArray.empty [e,blockN [],blockN l,d]
def moveS (x y:ByteArray):Nd:=localS xS (numN 0) (numN 0) [popS xS x,pushS xS y]
def dupS:Nd:=localS yS (vN xS) (numN 0) [pushS yS bS]
def copyB:Nd:=blockN [nodeN 55 tS [blockN [loopS (eqS (sizeS tS) (numN 0)) (eqS (sizeS aS) (numN 0)) [moveS aS tS],loopS (eqS (sizeS aS) (numN 0)) (eqS (sizeS tS) (numN 0)) [localS xS (numN 0) (numN 0) [popS xS tS,dupS,pushS xS aS]]]]]
def spillB:Nd:=blockN [localS nS (sizeS aS) (numN 0) [loopS (eqS (sizeS aS) (vN nS)) (eqS (sizeS aS) (numN 0)) [moveS aS gS],pushS nS gS]]
end Go.Proofs.YtpobmoegmdhbpaaGreatDoor
namespace Go.Proofs.YtpobmoegmdhbpaaGreatDoor
open Go.RowKit
def NewC (A:Nat→Prop) (w:World) (c:Nat) (k:Nat):Prop:=(A k∧k < w.heap.size)∨w.heap.size+c≤k
theorem zaZ {A A':Nat→Prop} {w:World} {v:Value} {x:Nd} (h:NdAt A w v x) (hA:∀ k,A k→A' k):NdAt A' w v x:=h.stays ⟨Nat.le_refl _,fun b _ a=>⟨rfl,hA b a⟩⟩
theorem zjB {A:Nat→Prop} {w:World} {v:Value} {x:Nd} (h:NdAt A w v x) (c:Nat):NdAt (NewC A w c) w v x:=h.stays ⟨Nat.le_refl _,fun b hb a=>⟨rfl,.inl ⟨a,hb⟩⟩⟩
theorem zgh {A:Nat→Prop} {w:World} {v:Value} {l:List Nd} (h:KidsAt A w v l) (c:Nat):KidsAt (NewC A w c) w v l:=h.stays ⟨Nat.le_refl _,fun b hb a=>⟨rfl,.inl ⟨a,hb⟩⟩⟩
theorem zaX {A:Nat→Prop} {w wi:World} {c:Nat} (h:w.heap.size+c≤wi.heap.size):∀ k,NewC (NewC A w c) wi 0 k→NewC A w c k:=fun k hk=>by
 rcases hk with ⟨hk,_⟩|hk
 · exact hk
 · exact .inr (by omega)
theorem znW {A:Nat→Prop} {w:World} {c:Nat}:∀ k,NewC A w c k→NewC A w 0 k:=fun k hk=>hk.imp id (fun h=>by omega)
def NdR (A:Nat→Prop) (x:Nd) (w:World) (e:Ending) (w':World):Prop:=∃ ka kc,e=.returned (.agg #[.int .u8 x.kind,.int .i64 x.num,.string x.name,.slice ka x.kids.length kc])∧NdAt (NewC A w 0) w' (.agg #[.int .u8 x.kind,.int .i64 x.num,.string x.name,.slice ka x.kids.length kc]) x∧Below w.heap.size w w'
def Held (D:Nat→Prop) (W:World) (v:Value) (x:Nd):Prop:=∀ w',Below W.heap.size W w'→NdAt D w' v x
theorem Held.of {D:Nat→Prop} {W:World} {v:Value} {x:Nd} (h:NdAt D W v x):Held D W v x:=fun w' hb=>h.stays (Stays.of_below hb)
theorem Held.use {D:Nat→Prop} {W w':World} {v:Value} {x:Nd} (h:Held D W v x) (hb:Below W.heap.size W w'):NdAt D w' v x:=h w' hb
theorem Held.call {A:Nat→Prop} {w wi w':World} {c:Nat} {v:Value} {x:Nd} (h:NdAt (NewC (NewC A w c) wi 0) w' v x) (hw:w.heap.size+c≤wi.heap.size):Held (NewC A w c) w' v x:=.of (zaZ h (zaX hw))
theorem zlp {D:Nat→Prop} {w:World} {g:Nat} (hg:¬ D g) (x0 x1 x2 x3:Value):Stays D D w ((((w.setCell ⟨g,0,none⟩ x0).setCell ⟨g,1,none⟩ x1).setCell ⟨g,2,none⟩ x2).setCell ⟨g,3,none⟩ x3):=by
 have h1:=((zaf w g 0 x0).same (zaf _ g 1 x1)).same ((zaf _ g 2 x2).same (zaf _ g 3 x3))
 exact h1.stays (fun k a _ e=>hg (e ▸ a))
theorem znZ {b:Nat} {w0 w:World} (h:Below b w0 w) {g:Nat} (hg:b≤g) (x0 x1 x2 x3:Value):Below b w0 ((((w.setCell ⟨g,0,none⟩ x0).setCell ⟨g,1,none⟩ x1).setCell ⟨g,2,none⟩ x2).setCell ⟨g,3,none⟩ x3):=
 (((h.setCell hg _).setCell hg _).setCell hg _).setCell hg _
theorem zgi {A:Nat→Prop} {w0 w:World} {x:Nd} {ka:Option Addr} {kc g c:Nat} (hn:NdAt (NewC A w0 c) w (.agg #[.int .u8 x.kind,.int .i64 x.num,.string x.name,.slice ka x.kids.length kc]) x) (h1:w0.heap.size≤g) (h2:g < w0.heap.size+c) (hb:Below w0.heap.size w0 w) (a0 a1 a2 a3:Value):
 NdR A x w0 (.returned (.agg #[.int .u8 x.kind,.int .i64 x.num,.string x.name,.slice ka x.kids.length kc])) ((((w.setCell ⟨g,0,none⟩ a0).setCell ⟨g,1,none⟩ a1).setCell ⟨g,2,none⟩ a2).setCell ⟨g,3,none⟩ a3):=by
 have hg:¬ NewC A w0 c g:=fun h=>by
  rcases h with ⟨_,h⟩|h <;> omega
 exact ⟨ka,kc,rfl,zaZ (hn.stays (zlp hg _ _ _ _)) znW,znZ hb h1 _ _ _ _⟩
theorem zdR (A:Nat→Prop) (k:Int) (hk:0≤k∧k≤255) (s:ByteArray) (hs:s.size≤maxLen) (l:List Nd) (n:Nat) (hln:n=l.length) (ka:Option Addr) (kc:Nat) (w:World) (hl:KidsAt A w (.slice ka n kc) l):
 Calls Tryz.prog 117 #[.int .u8 k,.string s,.slice ka n kc] w (NdR A (nodeN k s l) w):=by
 subst hln
 have HL:=Lib.hid hl
 clear hl
 go_enter Tryz.func117,Tryz.ntmps117
 go_wp2
 go_returns
 have hA:Below w.heap.size w (w.alloc (.cells #[.int .u8 k,.int .i64 0,.string s,.slice ka l.length kc] 34)):=zaa (Below.refl _ _)
 exact ⟨ka,kc,rfl,zam ((zgh HL.out 0).stays (Stays.of_below hA)) hk hs,hA⟩
theorem zgg (A:Nat→Prop) (l:List Nd) (n:Nat) (hln:n=l.length) (ka:Option Addr) (kc:Nat) (w:World) (hl:KidsAt A w (.slice ka n kc) l):
 Calls Tryz.prog 116 #[.slice ka n kc] w (NdR A (blockN l) w):=by
 subst hln
 have HL:=Lib.hid hl
 clear hl
 go_enter Tryz.func116,Tryz.ntmps116
 go_wp2
 go_returns
 have hA:Below w.heap.size w (w.alloc (.cells #[.int .u8 57,.int .i64 0,.string ⟨#[]⟩,.slice ka l.length kc] 34)):=zaa (Below.refl _ _)
 exact ⟨ka,kc,rfl,zam (k:=57) ((zgh HL.out 0).stays (Stays.of_below hA)) (by omega) (Nat.zero_le _),hA⟩
theorem zix (A:Nat→Prop) (x:Int) (hx:In64 x) (w:World):Calls Tryz.prog 114 #[.int .i64 x] w (NdR A (numN x) w):=by
 have HX:=Lib.hid hx
 clear hx
 go_enter Tryz.func114,Tryz.ntmps114
 go_wp2
 go_returns
 exact ⟨none,0,rfl,zdf HX.out,zaa (Below.refl _ _)⟩
theorem zdF (A:Nat→Prop) (s:ByteArray) (hs:s.size≤maxLen) (w:World):Calls Tryz.prog 113 #[.string s] w (NdR A (vN s) w):=by
 have hA:Below w.heap.size w (w.alloc (.cells #[.int .u8 0,.int .i64 0,.string ⟨#[]⟩,.slice none 0 0] 34)):=zaa (Below.refl _ _)
 have HN:=Lib.hid (zdR (NewC A w 1) 2 (by omega) s hs [] 0 rfl none 0 (w.alloc (.cells #[.int .u8 0,.int .i64 0,.string ⟨#[]⟩,.slice none 0 0] 34)) (KidsAt.nil _))
 have HB:=Lib.hid (zah w (.cells #[.int .u8 0,.int .i64 0,.string ⟨#[]⟩,.slice none 0 0] 34))
 have HA:=Lib.hid hA
 clear hA
 go_enter Tryz.func113,Tryz.ntmps113
 go_wp2_with (go_at_call 117;refine HN.out.mono ?_;rintro e w1 ⟨ka,kc,rfl,hn,hb⟩;have hr:=zad hb HB.out;obtain ⟨r0,r1,r2,r3⟩:=cells4 hr;have f:=unfrozen hr;have HR:=Lib.hid hr;have HB1:=Lib.hid hb;have HN1:=Lib.hid hn;clear hr hb hn)
 (try simp only [Exit.inBlock,Exit.then]);refine bodyPost_ret (results_cell_row (P:=Tryz.prog) rfl _ _ w.heap.size _ _ _ _ rfl (set4 HR.out _ _ _ _) Tryz.underlying34 rfl (by kernel_rfl)) rfl ?_
 exact zgi (x:=vN s) (zaZ HN1.out (zaX (by simp))) (Nat.le_refl _) (by omega) (HA.out.trans (HB1.out.mono HA.out.size)) _ _ _ _
theorem zoA (A:Nat→Prop) (s:ByteArray) (hs:s.size≤maxLen) (w:World):Calls Tryz.prog 120 #[.string s] w (NdR A (sizeS s) w):=by
 have hA:Below w.heap.size w (w.alloc (.cells #[.int .u8 0,.int .i64 0,.string ⟨#[]⟩,.slice none 0 0] 34)):=zaa (Below.refl _ _)
 have HN:=Lib.hid (zdR (NewC A w 1) 5 (by omega) s hs [] 0 rfl none 0 (w.alloc (.cells #[.int .u8 0,.int .i64 0,.string ⟨#[]⟩,.slice none 0 0] 34)) (KidsAt.nil _))
 have HB:=Lib.hid (zah w (.cells #[.int .u8 0,.int .i64 0,.string ⟨#[]⟩,.slice none 0 0] 34))
 have HA:=Lib.hid hA
 clear hA
 go_enter Tryz.func120,Tryz.ntmps120
 go_wp2_with (go_at_call 117;refine HN.out.mono ?_;rintro e w1 ⟨ka,kc,rfl,hn,hb⟩;have hr:=zad hb HB.out;obtain ⟨r0,r1,r2,r3⟩:=cells4 hr;have f:=unfrozen hr;have HR:=Lib.hid hr;have HB1:=Lib.hid hb;have HN1:=Lib.hid hn;clear hr hb hn)
 (try simp only [Exit.inBlock,Exit.then]);refine bodyPost_ret (results_cell_row (P:=Tryz.prog) rfl _ _ w.heap.size _ _ _ _ rfl (set4 HR.out _ _ _ _) Tryz.underlying34 rfl (by kernel_rfl)) rfl ?_
 exact zgi (x:=sizeS s) (zaZ HN1.out (zaX (by simp))) (Nat.le_refl _) (by omega) (HA.out.trans (HB1.out.mono HA.out.size)) _ _ _ _
theorem zli (A:Nat→Prop) (a b:Nd) (ka:Option Addr) (kc:Nat) (kb:Option Addr) (kd:Nat) (w:World) (ha:NdAt A w (.agg #[.int .u8 a.kind,.int .i64 a.num,.string a.name,.slice ka a.kids.length kc]) a) (hb:NdAt A w (.agg #[.int .u8 b.kind,.int .i64 b.num,.string b.name,.slice kb b.kids.length kd]) b):
 Calls Tryz.prog 119 #[(.agg #[.int .u8 a.kind,.int .i64 a.num,.string a.name,.slice ka a.kids.length kc]),(.agg #[.int .u8 b.kind,.int .i64 b.num,.string b.name,.slice kb b.kids.length kd])] w (NdR A (eqS a b) w):=by
 have HA:=Lib.hid ha
 have HB:=Lib.hid hb
 have hO:=zaI w (.cells #[.int .u8 a.kind,.int .i64 a.num,.string a.name,.slice ka a.kids.length kc] 34) (.cells #[.int .u8 b.kind,.int .i64 b.num,.string b.name,.slice kb b.kids.length kd] 34)
 have hN:=zaw w (.cells #[.int .u8 a.kind,.int .i64 a.num,.string a.name,.slice ka a.kids.length kc] 34) (.cells #[.int .u8 b.kind,.int .i64 b.num,.string b.name,.slice kb b.kids.length kd] 34)
 obtain ⟨a0,a1,a2,a3⟩:=cells4 hO
 obtain ⟨b0,b1,b2,b3⟩:=cells4 hN
 clear ha hb hO hN
 go_enter Tryz.func119,Tryz.ntmps119
 go_wp2
 go_returns
 refine ⟨_,2,rfl,zam (k:=16) (s:=⟨#[]⟩) (l:=[a,b]) (zdg (n:=a) (n':=b) ?_ (.inr (by omega)) ((zjB HA.out 0).stays (Stays.of_below (by (repeat (with_reducible first|exact Below.refl _ _|refine zab ?_|refine zaa ?_|(apply zac;focus assumption)))))) ((zjB HB.out 0).stays (Stays.of_below (by (repeat (with_reducible first|exact Below.refl _ _|refine zab ?_|refine zaa ?_|(apply zac;focus assumption))))))) (by omega) (Nat.zero_le _),(by (repeat (with_reducible first|exact Below.refl _ _|refine zab ?_|refine zaa ?_|(apply zac;focus assumption))))⟩
 exact (by (repeat (with_reducible first|(refine zaj ?_;(simp;done))|(refine zaj ?_;rfl)|refine zai ?_|refine zag ?_|(apply zad;focus assumption))))
end Go.Proofs.YtpobmoegmdhbpaaGreatDoor
namespace Go.Proofs.YtpobmoegmdhbpaaGreatDoor
open Go.RowKit
theorem zng (A:Nat→Prop) (x s:ByteArray) (hx:x.size≤maxLen) (hs:s.size≤maxLen) (w:World):Calls Tryz.prog 115 #[.string x,.string s] w (NdR A (pushS x s) w):=by
 have hA:Below w.heap.size w (w.alloc (.cells #[.int .u8 0,.int .i64 0,.string ⟨#[]⟩,.slice none 0 0] 34)):=zaa (Below.refl _ _)
 have HV:=Lib.hid (zdF (NewC A w 1) x hx (w.alloc (.cells #[.int .u8 0,.int .i64 0,.string ⟨#[]⟩,.slice none 0 0] 34)))
 have HB:=Lib.hid (zah w (.cells #[.int .u8 0,.int .i64 0,.string ⟨#[]⟩,.slice none 0 0] 34))
 have hws:(w.alloc (.cells #[.int .u8 0,.int .i64 0,.string ⟨#[]⟩,.slice none 0 0] 34)).heap.size=w.heap.size+1:=by simp
 have HA:=Lib.hid hA
 have HNM:=Lib.hid (fun (w1:World) (ka:Option Addr) (kc:Nat) (hn:NdAt (NewC A w 1) w1 (.agg #[.int .u8 (vN x).kind,.int .i64 (vN x).num,.string (vN x).name,.slice ka (vN x).kids.length kc]) (vN x)) (hz:w.heap.size+1≤w1.heap.size)=>
  zdR (NewC A w 1) 44 (by omega) s hs [vN x] 1 rfl (some ⟨w1.heap.size,0,none⟩) 1 (w1.alloc (.cells #[.int .u8 (vN x).kind,.int .i64 (vN x).num,.string (vN x).name,.slice ka (vN x).kids.length kc] 34)) (zbi (zah w1 (.cells #[.int .u8 (vN x).kind,.int .i64 (vN x).num,.string (vN x).name,.slice ka (vN x).kids.length kc] 34)) (.inr hz) (hn.stays (Stays.of_below (zaa (Below.refl _ _))))))
 clear hA
 go_enter Tryz.func115,Tryz.ntmps115
 go_wp2_with (first
  | (go_at_call 113;refine HV.out.mono ?_;rintro e w1 ⟨ka,kc,rfl,hn,hb⟩;have hr:=zad hb HB.out;have HR1:=Lib.hid hr;have HB1:=Lib.hid hb;have hz1:w.heap.size+1≤w1.heap.size:=by { have:=hb.size;omega };have HN1:=Lib.hid (zaZ hn (zaX (by omega)));clear hr hb hn)
  | (go_at_call 117;refine (HNM.out w1 ka kc HN1.out hz1).mono ?_;rintro e w2 ⟨ka2,kc2,rfl,hn2,hb2⟩;have hr2:=zad hb2 (zad (zaa (Below.refl _ _)) HR1.out);obtain ⟨r0,r1,r2,r3⟩:=cells4 hr2;have f:=unfrozen hr2;have HR2:=Lib.hid hr2;have HB2:=Lib.hid hb2;have HN2:=Lib.hid hn2;clear hr2 hb2 hn2))
 (try simp only [Exit.inBlock,Exit.then]);refine bodyPost_ret (results_cell_row (P:=Tryz.prog) rfl _ _ w.heap.size _ _ _ _ rfl (set4 HR2.out _ _ _ _) Tryz.underlying34 rfl (by kernel_rfl)) rfl ?_
 have hB1:Below w.heap.size w w1:=HA.out.trans (HB1.out.mono HA.out.size)
 have hB2:Below w1.heap.size w1 (w1.alloc (.cells #[.int .u8 (vN x).kind,.int .i64 (vN x).num,.string (vN x).name,.slice ka (vN x).kids.length kc] 34)):=zaa (Below.refl _ _)
 exact zgi (x:=pushS x s) (zaZ HN2.out (zaX (by simp;omega))) (Nat.le_refl _) (by omega) (hB1.trans ((hB2.trans (HB2.out.mono hB2.size)).mono hB1.size)) _ _ _ _
theorem zoB (A:Nat→Prop) (x s:ByteArray) (hx:x.size≤maxLen) (hs:s.size≤maxLen) (w:World):Calls Tryz.prog 122 #[.string x,.string s] w (NdR A (popS x s) w):=by
 have hA:Below w.heap.size w (w.alloc (.cells #[.int .u8 0,.int .i64 0,.string ⟨#[]⟩,.slice none 0 0] 34)):=zaa (Below.refl _ _)
 have HV:=Lib.hid (zdF (NewC A w 1) x hx (w.alloc (.cells #[.int .u8 0,.int .i64 0,.string ⟨#[]⟩,.slice none 0 0] 34)))
 have HB:=Lib.hid (zah w (.cells #[.int .u8 0,.int .i64 0,.string ⟨#[]⟩,.slice none 0 0] 34))
 have hws:(w.alloc (.cells #[.int .u8 0,.int .i64 0,.string ⟨#[]⟩,.slice none 0 0] 34)).heap.size=w.heap.size+1:=by simp
 have HA:=Lib.hid hA
 have HNM:=Lib.hid (fun (w1:World) (ka:Option Addr) (kc:Nat) (hn:NdAt (NewC A w 1) w1 (.agg #[.int .u8 (vN x).kind,.int .i64 (vN x).num,.string (vN x).name,.slice ka (vN x).kids.length kc]) (vN x)) (hz:w.heap.size+1≤w1.heap.size)=>
  zdR (NewC A w 1) 45 (by omega) s hs [vN x] 1 rfl (some ⟨w1.heap.size,0,none⟩) 1 (w1.alloc (.cells #[.int .u8 (vN x).kind,.int .i64 (vN x).num,.string (vN x).name,.slice ka (vN x).kids.length kc] 34)) (zbi (zah w1 (.cells #[.int .u8 (vN x).kind,.int .i64 (vN x).num,.string (vN x).name,.slice ka (vN x).kids.length kc] 34)) (.inr hz) (hn.stays (Stays.of_below (zaa (Below.refl _ _))))))
 clear hA
 go_enter Tryz.func122,Tryz.ntmps122
 go_wp2_with (first
  | (go_at_call 113;refine HV.out.mono ?_;rintro e w1 ⟨ka,kc,rfl,hn,hb⟩;have hr:=zad hb HB.out;have HR1:=Lib.hid hr;have HB1:=Lib.hid hb;have hz1:w.heap.size+1≤w1.heap.size:=by { have:=hb.size;omega };have HN1:=Lib.hid (zaZ hn (zaX (by omega)));clear hr hb hn)
  | (go_at_call 117;refine (HNM.out w1 ka kc HN1.out hz1).mono ?_;rintro e w2 ⟨ka2,kc2,rfl,hn2,hb2⟩;have hr2:=zad hb2 (zad (zaa (Below.refl _ _)) HR1.out);obtain ⟨r0,r1,r2,r3⟩:=cells4 hr2;have f:=unfrozen hr2;have HR2:=Lib.hid hr2;have HB2:=Lib.hid hb2;have HN2:=Lib.hid hn2;clear hr2 hb2 hn2))
 (try simp only [Exit.inBlock,Exit.then]);refine bodyPost_ret (results_cell_row (P:=Tryz.prog) rfl _ _ w.heap.size _ _ _ _ rfl (set4 HR2.out _ _ _ _) Tryz.underlying34 rfl (by kernel_rfl)) rfl ?_
 have hB1:Below w.heap.size w w1:=HA.out.trans (HB1.out.mono HA.out.size)
 have hB2:Below w1.heap.size w1 (w1.alloc (.cells #[.int .u8 (vN x).kind,.int .i64 (vN x).num,.string (vN x).name,.slice ka (vN x).kids.length kc] 34)):=zaa (Below.refl _ _)
 exact zgi (x:=popS x s) (zaZ HN2.out (zaX (by simp;omega))) (Nat.le_refl _) (by omega) (hB1.trans ((hB2.trans (HB2.out.mono hB2.size)).mono hB1.size)) _ _ _ _
end Go.Proofs.YtpobmoegmdhbpaaGreatDoor
namespace Go.Proofs.YtpobmoegmdhbpaaGreatDoor
open Go.RowKit
theorem zew {w:World} {g b:Nat} {y:Obj} (h:w.heap[b]?=some y) (hne:b≠g) (x0 x1 x2 x3:Value):((((w.setCell ⟨g,0,none⟩ x0).setCell ⟨g,1,none⟩ x1).setCell ⟨g,2,none⟩ x2).setCell ⟨g,3,none⟩ x3).heap[b]?=some y:=by
 have hb:b < w.heap.size:=by rw [Array.getElem?_eq_some_iff] at h;exact h.1
 have h1:=((zaf w g 0 x0).same (zaf _ g 1 x1)).same ((zaf _ g 2 x2).same (zaf _ g 3 x3))
 rw [h1.block b hb hne];exact h
theorem zeg (w:World) (A B C:Obj):(((w.alloc A).alloc B).alloc C).heap[w.heap.size]?=some A∧(((w.alloc A).alloc B).alloc C).heap[w.heap.size+1]?=some B∧(((w.alloc A).alloc B).alloc C).heap[w.heap.size+1+1]?=some C:=by
 have hb:Below ((w.alloc A).alloc B).heap.size ((w.alloc A).alloc B) (((w.alloc A).alloc B).alloc C):=zaa (Below.refl _ _)
 have hz:((w.alloc A).alloc B).heap.size=w.heap.size+1+1:=by simp
 have h:=zah ((w.alloc A).alloc B) C
 rw [hz] at h
 exact ⟨zad hb (zaI w A B),zad hb (zaw w A B),h⟩
theorem zkb (A:Nat→Prop) (t:ByteArray) (ht:t.size≤maxLen) (a c:Nd) (l:List Nd) (n:Nat) (hln:n=l.length) (ka:Option Addr) (kc:Nat) (kb:Option Addr) (kd:Nat) (ja:Option Addr) (jc:Nat) (w:World) (ha:NdAt A w (.agg #[.int .u8 a.kind,.int .i64 a.num,.string a.name,.slice ka a.kids.length kc]) a) (hc:NdAt A w (.agg #[.int .u8 c.kind,.int .i64 c.num,.string c.name,.slice kb c.kids.length kd]) c) (hl:KidsAt A w (.slice ja n jc) l):
 Calls Tryz.prog 112 #[.string t,(.agg #[.int .u8 a.kind,.int .i64 a.num,.string a.name,.slice ka a.kids.length kc]),(.agg #[.int .u8 c.kind,.int .i64 c.num,.string c.name,.slice kb c.kids.length kd]),.slice ja n jc] w (NdR A (localS t a c l) w):=by
 have hA:Below w.heap.size w (((w.alloc (.cells #[.int .u8 a.kind,.int .i64 a.num,.string a.name,.slice ka a.kids.length kc] 34)).alloc (.cells #[.int .u8 c.kind,.int .i64 c.num,.string c.name,.slice kb c.kids.length kd] 34)).alloc (.cells #[.int .u8 0,.int .i64 0,.string ⟨#[]⟩,.slice none 0 0] 34)):=zaa (zaa (zaa (Below.refl _ _)))
 obtain ⟨hO,hM,hN⟩:=zeg w (.cells #[.int .u8 a.kind,.int .i64 a.num,.string a.name,.slice ka a.kids.length kc] 34) (.cells #[.int .u8 c.kind,.int .i64 c.num,.string c.name,.slice kb c.kids.length kd] 34) (.cells #[.int .u8 0,.int .i64 0,.string ⟨#[]⟩,.slice none 0 0] 34)
 have hz:(((w.alloc (.cells #[.int .u8 a.kind,.int .i64 a.num,.string a.name,.slice ka a.kids.length kc] 34)).alloc (.cells #[.int .u8 c.kind,.int .i64 c.num,.string c.name,.slice kb c.kids.length kd] 34)).alloc (.cells #[.int .u8 0,.int .i64 0,.string ⟨#[]⟩,.slice none 0 0] 34)).heap.size=w.heap.size+3:=by simp
 have HAD:=Lib.hid ((zjB ha 3).stays (Stays.of_below hA))
 have HCD:=Lib.hid ((zjB hc 3).stays (Stays.of_below hA))
 have HLD:=Lib.hid ((zgh hl 3).stays (Stays.of_below hA))
 have HA:=Lib.hid hA
 have HLN:=Lib.hid hln
 clear ha hc hl hA hln
 go_enter Tryz.func112,Tryz.ntmps112
 go_upto_region 1 with fail
 generalize (((w.alloc (.cells #[.int .u8 a.kind,.int .i64 a.num,.string a.name,.slice ka a.kids.length kc] 34)).alloc (.cells #[.int .u8 c.kind,.int .i64 c.num,.string c.name,.slice kb c.kids.length kd] 34)).alloc (.cells #[.int .u8 0,.int .i64 0,.string ⟨#[]⟩,.slice none 0 0] 34))=W at *
 have HX:Hid (∀ w1,Below W.heap.size W w1→(w1.cell? ⟨w.heap.size,0,none⟩=some (.int .u8 a.kind)∧w1.cell? ⟨w.heap.size,1,none⟩=some (.int .i64 a.num)∧w1.cell? ⟨w.heap.size,2,none⟩=some (.string a.name)∧w1.cell? ⟨w.heap.size,3,none⟩=some (.slice ka a.kids.length kc))∧(w1.cell? ⟨w.heap.size+1,0,none⟩=some (.int .u8 c.kind)∧w1.cell? ⟨w.heap.size+1,1,none⟩=some (.int .i64 c.num)∧w1.cell? ⟨w.heap.size+1,2,none⟩=some (.string c.name)∧w1.cell? ⟨w.heap.size+1,3,none⟩=some (.slice kb c.kids.length kd))):=Lib.hid (fun w1 h=>⟨cells4 (zad h hO),cells4 (zad h hM)⟩)
 have HX2:Hid (∀ w1,Below W.heap.size W w1→∀ y0 y1 y2 y3,((((((w1.setCell ⟨w.heap.size+1+1,0,none⟩ y0).setCell ⟨w.heap.size+1+1,1,none⟩ y1).setCell ⟨w.heap.size+1+1,2,none⟩ y2).setCell ⟨w.heap.size+1+1,3,none⟩ y3)).cell? ⟨w.heap.size,0,none⟩=some (.int .u8 a.kind)∧(((((w1.setCell ⟨w.heap.size+1+1,0,none⟩ y0).setCell ⟨w.heap.size+1+1,1,none⟩ y1).setCell ⟨w.heap.size+1+1,2,none⟩ y2).setCell ⟨w.heap.size+1+1,3,none⟩ y3)).cell? ⟨w.heap.size,1,none⟩=some (.int .i64 a.num)∧(((((w1.setCell ⟨w.heap.size+1+1,0,none⟩ y0).setCell ⟨w.heap.size+1+1,1,none⟩ y1).setCell ⟨w.heap.size+1+1,2,none⟩ y2).setCell ⟨w.heap.size+1+1,3,none⟩ y3)).cell? ⟨w.heap.size,2,none⟩=some (.string a.name)∧(((((w1.setCell ⟨w.heap.size+1+1,0,none⟩ y0).setCell ⟨w.heap.size+1+1,1,none⟩ y1).setCell ⟨w.heap.size+1+1,2,none⟩ y2).setCell ⟨w.heap.size+1+1,3,none⟩ y3)).cell? ⟨w.heap.size,3,none⟩=some (.slice ka a.kids.length kc))∧((((((w1.setCell ⟨w.heap.size+1+1,0,none⟩ y0).setCell ⟨w.heap.size+1+1,1,none⟩ y1).setCell ⟨w.heap.size+1+1,2,none⟩ y2).setCell ⟨w.heap.size+1+1,3,none⟩ y3)).cell? ⟨w.heap.size+1,0,none⟩=some (.int .u8 c.kind)∧(((((w1.setCell ⟨w.heap.size+1+1,0,none⟩ y0).setCell ⟨w.heap.size+1+1,1,none⟩ y1).setCell ⟨w.heap.size+1+1,2,none⟩ y2).setCell ⟨w.heap.size+1+1,3,none⟩ y3)).cell? ⟨w.heap.size+1,1,none⟩=some (.int .i64 c.num)∧(((((w1.setCell ⟨w.heap.size+1+1,0,none⟩ y0).setCell ⟨w.heap.size+1+1,1,none⟩ y1).setCell ⟨w.heap.size+1+1,2,none⟩ y2).setCell ⟨w.heap.size+1+1,3,none⟩ y3)).cell? ⟨w.heap.size+1,2,none⟩=some (.string c.name)∧(((((w1.setCell ⟨w.heap.size+1+1,0,none⟩ y0).setCell ⟨w.heap.size+1+1,1,none⟩ y1).setCell ⟨w.heap.size+1+1,2,none⟩ y2).setCell ⟨w.heap.size+1+1,3,none⟩ y3)).cell? ⟨w.heap.size+1,3,none⟩=some (.slice kb c.kids.length kd))):=Lib.hid (fun w1 h y0 y1 y2 y3=>⟨cells4 (zew (zad h hO) (by omega) _ _ _ _),cells4 (zew (zad h hM) (by omega) _ _ _ _)⟩)
 have HR:Hid (∀ w1,Below W.heap.size W w1→w1.heap[w.heap.size+1+1]?=some (.cells #[.int .u8 0,.int .i64 0,.string ⟨#[]⟩,.slice none 0 0] 34)):=Lib.hid (fun w1 h=>zad h hN)
 have HBL:Hid (∀ w1,Below W.heap.size W w1→Calls Tryz.prog 116 #[.slice ja n jc] w1 (NdR (NewC A w 3) (blockN l) w1)):=Lib.hid (fun w1 h=>zgg _ l n HLN.out ja jc w1 (HLD.out.stays (Stays.of_below h)))
 have HNM:=Lib.hid (fun (w1:World) (kx:Option Addr) (ky:Nat) (hw:Below W.heap.size W w1) (hn:NdAt (NewC A w 3) w1 (.agg #[.int .u8 (blockN l).kind,.int .i64 (blockN l).num,.string (blockN l).name,.slice kx (blockN l).kids.length ky]) (blockN l))=>
  zdR (NewC A w 3) 54 (by omega) t ht [a,blockN l,c] 3 rfl (some ⟨w1.heap.size,0,none⟩) 3 (w1.alloc (.cells #[.int .u8 a.kind,.int .i64 a.num,.string a.name,.slice ka a.kids.length kc,.int .u8 (blockN l).kind,.int .i64 (blockN l).num,.string (blockN l).name,.slice kx (blockN l).kids.length ky,.int .u8 c.kind,.int .i64 c.num,.string c.name,.slice kb c.kids.length kd] 34))
   (zgH (zah w1 _) (.inr (by have:=hw.size;omega)) ((HAD.out.stays (Stays.of_below hw)).stays (Stays.of_below (zaa (Below.refl _ _)))) (hn.stays (Stays.of_below (zaa (Below.refl _ _)))) ((HCD.out.stays (Stays.of_below hw)).stays (Stays.of_below (zaa (Below.refl _ _))))))
 clear hO hM hN
 go_region_held3 (fun w1=>(w1.cell? ⟨w.heap.size,0,none⟩=some (.int .u8 a.kind)∧w1.cell? ⟨w.heap.size,1,none⟩=some (.int .i64 a.num)∧w1.cell? ⟨w.heap.size,2,none⟩=some (.string a.name)∧w1.cell? ⟨w.heap.size,3,none⟩=some (.slice ka a.kids.length kc))∧(w1.cell? ⟨w.heap.size+1,0,none⟩=some (.int .u8 c.kind)∧w1.cell? ⟨w.heap.size+1,1,none⟩=some (.int .i64 c.num)∧w1.cell? ⟨w.heap.size+1,2,none⟩=some (.string c.name)∧w1.cell? ⟨w.heap.size+1,3,none⟩=some (.slice kb c.kids.length kd)))
  (first|with_reducible exact HX2.out _ HW2.out _ _ _ _|with_reducible exact HX.out _ (by (repeat (with_reducible first|exact Below.refl _ _|refine zab ?_|refine zaa ?_|(apply zac;focus assumption)))))
  (first
  | (go_at_call 116;(with_reducible refine (HBL.out _ (by (repeat (with_reducible first|exact Below.refl _ _|refine zab ?_|refine zaa ?_|(apply zac;focus assumption))))).mono ?_);rintro e w1 ⟨kx,ky,rfl,hn1,hb1⟩;have HW1:Hid (Below W.heap.size W w1):=Lib.hid (by (repeat (with_reducible first|exact Below.refl _ _|refine zab ?_|refine zaa ?_|(apply zac;focus assumption))));have HN1:=Lib.hid (zaZ hn1 (zaX (by first|omega|(simp;omega))));clear hn1)
  | (go_at_call 117;(with_reducible refine (HNM.out w1 kx ky HW1.out HN1.out).mono ?_);rintro e w2 ⟨k2,k3,rfl,hn2,hb2⟩;have HW2:Hid (Below W.heap.size W w2):=Lib.hid (by (repeat (with_reducible first|exact Below.refl _ _|refine zab ?_|refine zaa ?_|(apply zac;focus assumption))));have hr2:=HR.out w2 HW2.out;obtain ⟨r0,r1,r2,r3⟩:=cells4 hr2;have f:=unfrozen hr2;have HR2:=Lib.hid hr2;have HN2:=Lib.hid hn2;clear hn2 hr2))
 all_goals
  go_wp2
  (try simp only [Exit.inBlock,Exit.then]);refine bodyPost_ret (results_cell_row (P:=Tryz.prog) rfl _ _ (w.heap.size+1+1) _ _ _ _ rfl (set4 HR2.out _ _ _ _) Tryz.underlying34 rfl (by kernel_rfl)) rfl ?_
  exact zgi (x:=localS t a c l) (zaZ HN2.out (zaX (by have:=HW1.out.size;simp;omega))) (by omega) (by omega) (HA.out.trans (HW2.out.mono HA.out.size)) _ _ _ _
theorem zox (A:Nat→Prop) (a c:Nd) (l:List Nd) (n:Nat) (hln:n=l.length) (ka:Option Addr) (kc:Nat) (kb:Option Addr) (kd:Nat) (ja:Option Addr) (jc:Nat) (w:World) (ha:NdAt A w (.agg #[.int .u8 a.kind,.int .i64 a.num,.string a.name,.slice ka a.kids.length kc]) a) (hc:NdAt A w (.agg #[.int .u8 c.kind,.int .i64 c.num,.string c.name,.slice kb c.kids.length kd]) c) (hl:KidsAt A w (.slice ja n jc) l):
 Calls Tryz.prog 118 #[(.agg #[.int .u8 a.kind,.int .i64 a.num,.string a.name,.slice ka a.kids.length kc]),(.agg #[.int .u8 c.kind,.int .i64 c.num,.string c.name,.slice kb c.kids.length kd]),.slice ja n jc] w (NdR A (loopS a c l) w):=by
 have hA:Below w.heap.size w (((w.alloc (.cells #[.int .u8 a.kind,.int .i64 a.num,.string a.name,.slice ka a.kids.length kc] 34)).alloc (.cells #[.int .u8 c.kind,.int .i64 c.num,.string c.name,.slice kb c.kids.length kd] 34)).alloc (.cells #[.int .u8 0,.int .i64 0,.string ⟨#[]⟩,.slice none 0 0] 34)):=zaa (zaa (zaa (Below.refl _ _)))
 obtain ⟨hO,hM,hN⟩:=zeg w (.cells #[.int .u8 a.kind,.int .i64 a.num,.string a.name,.slice ka a.kids.length kc] 34) (.cells #[.int .u8 c.kind,.int .i64 c.num,.string c.name,.slice kb c.kids.length kd] 34) (.cells #[.int .u8 0,.int .i64 0,.string ⟨#[]⟩,.slice none 0 0] 34)
 have hz:(((w.alloc (.cells #[.int .u8 a.kind,.int .i64 a.num,.string a.name,.slice ka a.kids.length kc] 34)).alloc (.cells #[.int .u8 c.kind,.int .i64 c.num,.string c.name,.slice kb c.kids.length kd] 34)).alloc (.cells #[.int .u8 0,.int .i64 0,.string ⟨#[]⟩,.slice none 0 0] 34)).heap.size=w.heap.size+3:=by simp
 have HAD:=Lib.hid ((zjB ha 3).stays (Stays.of_below hA))
 have HCD:=Lib.hid ((zjB hc 3).stays (Stays.of_below hA))
 have HLD:=Lib.hid ((zgh hl 3).stays (Stays.of_below hA))
 have HA:=Lib.hid hA
 have HLN:=Lib.hid hln
 clear ha hc hl hA hln
 go_enter Tryz.func118,Tryz.ntmps118
 go_upto_region 1 with fail
 generalize (((w.alloc (.cells #[.int .u8 a.kind,.int .i64 a.num,.string a.name,.slice ka a.kids.length kc] 34)).alloc (.cells #[.int .u8 c.kind,.int .i64 c.num,.string c.name,.slice kb c.kids.length kd] 34)).alloc (.cells #[.int .u8 0,.int .i64 0,.string ⟨#[]⟩,.slice none 0 0] 34))=W at *
 have HX:Hid (∀ w1,Below W.heap.size W w1→(w1.cell? ⟨w.heap.size,0,none⟩=some (.int .u8 a.kind)∧w1.cell? ⟨w.heap.size,1,none⟩=some (.int .i64 a.num)∧w1.cell? ⟨w.heap.size,2,none⟩=some (.string a.name)∧w1.cell? ⟨w.heap.size,3,none⟩=some (.slice ka a.kids.length kc))∧(w1.cell? ⟨w.heap.size+1,0,none⟩=some (.int .u8 c.kind)∧w1.cell? ⟨w.heap.size+1,1,none⟩=some (.int .i64 c.num)∧w1.cell? ⟨w.heap.size+1,2,none⟩=some (.string c.name)∧w1.cell? ⟨w.heap.size+1,3,none⟩=some (.slice kb c.kids.length kd))):=Lib.hid (fun w1 h=>⟨cells4 (zad h hO),cells4 (zad h hM)⟩)
 have HR:Hid (∀ w1,Below W.heap.size W w1→w1.heap[w.heap.size+1+1]?=some (.cells #[.int .u8 0,.int .i64 0,.string ⟨#[]⟩,.slice none 0 0] 34)):=Lib.hid (fun w1 h=>zad h hN)
 have HX2:Hid (∀ w1,Below W.heap.size W w1→∀ y0 y1 y2 y3,((((((w1.setCell ⟨w.heap.size+1+1,0,none⟩ y0).setCell ⟨w.heap.size+1+1,1,none⟩ y1).setCell ⟨w.heap.size+1+1,2,none⟩ y2).setCell ⟨w.heap.size+1+1,3,none⟩ y3)).cell? ⟨w.heap.size,0,none⟩=some (.int .u8 a.kind)∧(((((w1.setCell ⟨w.heap.size+1+1,0,none⟩ y0).setCell ⟨w.heap.size+1+1,1,none⟩ y1).setCell ⟨w.heap.size+1+1,2,none⟩ y2).setCell ⟨w.heap.size+1+1,3,none⟩ y3)).cell? ⟨w.heap.size,1,none⟩=some (.int .i64 a.num)∧(((((w1.setCell ⟨w.heap.size+1+1,0,none⟩ y0).setCell ⟨w.heap.size+1+1,1,none⟩ y1).setCell ⟨w.heap.size+1+1,2,none⟩ y2).setCell ⟨w.heap.size+1+1,3,none⟩ y3)).cell? ⟨w.heap.size,2,none⟩=some (.string a.name)∧(((((w1.setCell ⟨w.heap.size+1+1,0,none⟩ y0).setCell ⟨w.heap.size+1+1,1,none⟩ y1).setCell ⟨w.heap.size+1+1,2,none⟩ y2).setCell ⟨w.heap.size+1+1,3,none⟩ y3)).cell? ⟨w.heap.size,3,none⟩=some (.slice ka a.kids.length kc))∧((((((w1.setCell ⟨w.heap.size+1+1,0,none⟩ y0).setCell ⟨w.heap.size+1+1,1,none⟩ y1).setCell ⟨w.heap.size+1+1,2,none⟩ y2).setCell ⟨w.heap.size+1+1,3,none⟩ y3)).cell? ⟨w.heap.size+1,0,none⟩=some (.int .u8 c.kind)∧(((((w1.setCell ⟨w.heap.size+1+1,0,none⟩ y0).setCell ⟨w.heap.size+1+1,1,none⟩ y1).setCell ⟨w.heap.size+1+1,2,none⟩ y2).setCell ⟨w.heap.size+1+1,3,none⟩ y3)).cell? ⟨w.heap.size+1,1,none⟩=some (.int .i64 c.num)∧(((((w1.setCell ⟨w.heap.size+1+1,0,none⟩ y0).setCell ⟨w.heap.size+1+1,1,none⟩ y1).setCell ⟨w.heap.size+1+1,2,none⟩ y2).setCell ⟨w.heap.size+1+1,3,none⟩ y3)).cell? ⟨w.heap.size+1,2,none⟩=some (.string c.name)∧(((((w1.setCell ⟨w.heap.size+1+1,0,none⟩ y0).setCell ⟨w.heap.size+1+1,1,none⟩ y1).setCell ⟨w.heap.size+1+1,2,none⟩ y2).setCell ⟨w.heap.size+1+1,3,none⟩ y3)).cell? ⟨w.heap.size+1,3,none⟩=some (.slice kb c.kids.length kd))):=Lib.hid (fun w1 h y0 y1 y2 y3=>⟨cells4 (zew (zad h hO) (by omega) _ _ _ _),cells4 (zew (zad h hM) (by omega) _ _ _ _)⟩)
 have HBL:Hid (∀ w1,Below W.heap.size W w1→Calls Tryz.prog 116 #[.slice ja n jc] w1 (NdR (NewC A w 3) (blockN l) w1)):=Lib.hid (fun w1 h=>zgg _ l n HLN.out ja jc w1 (HLD.out.stays (Stays.of_below h)))
 have HB0:Hid (∀ w1,Below W.heap.size W w1→Calls Tryz.prog 116 #[.slice none 0 0] w1 (NdR (NewC A w 3) (blockN []) w1)):=Lib.hid (fun w1 h=>zgg _ [] 0 rfl none 0 w1 (KidsAt.nil _))
 clear hO hM hN
 go_region_held3 (fun w1=>(w1.cell? ⟨w.heap.size,0,none⟩=some (.int .u8 a.kind)∧w1.cell? ⟨w.heap.size,1,none⟩=some (.int .i64 a.num)∧w1.cell? ⟨w.heap.size,2,none⟩=some (.string a.name)∧w1.cell? ⟨w.heap.size,3,none⟩=some (.slice ka a.kids.length kc))∧(w1.cell? ⟨w.heap.size+1,0,none⟩=some (.int .u8 c.kind)∧w1.cell? ⟨w.heap.size+1,1,none⟩=some (.int .i64 c.num)∧w1.cell? ⟨w.heap.size+1,2,none⟩=some (.string c.name)∧w1.cell? ⟨w.heap.size+1,3,none⟩=some (.slice kb c.kids.length kd)))
  (first|with_reducible exact HX2.out _ HW3.out _ _ _ _|with_reducible exact HX.out _ (by (repeat (with_reducible first|exact Below.refl _ _|refine zab ?_|refine zaa ?_|(apply zac;focus assumption)))))
  (first
  | (go_at_call 116;(with_reducible refine (HB0.out _ (by (repeat (with_reducible first|exact Below.refl _ _|refine zab ?_|refine zaa ?_|(apply zac;focus assumption))))).mono ?_);rintro e w1 ⟨kx,ky,rfl,hn1,hb1⟩;have HW1:Hid (Below W.heap.size W w1):=Lib.hid (by (repeat (with_reducible first|exact Below.refl _ _|refine zab ?_|refine zaa ?_|(apply zac;focus assumption))));have HN1:=Lib.hid (zaZ hn1 (zaX (by first|omega|(simp;omega))));clear hn1)
  | (go_at_call 116;(with_reducible refine (HBL.out _ (by (repeat (with_reducible first|exact Below.refl _ _|refine zab ?_|refine zaa ?_|(apply zac;focus assumption))))).mono ?_);rintro e w2 ⟨kx2,ky2,rfl,hn2,hb2⟩;have HW2:Hid (Below W.heap.size W w2):=Lib.hid (by (repeat (with_reducible first|exact Below.refl _ _|refine zab ?_|refine zaa ?_|(apply zac;focus assumption))));have HN2:=Lib.hid (zaZ hn2 (zaX (by have:=HW1.out.size;first|omega|(simp;omega))));clear hn2;
      have HW3:Hid (Below W.heap.size W (w2.alloc (.cells #[.int .u8 a.kind,.int .i64 a.num,.string a.name,.slice ka a.kids.length kc,.int .u8 (blockN []).kind,.int .i64 (blockN []).num,.string (blockN []).name,.slice kx (blockN []).kids.length ky,.int .u8 (blockN l).kind,.int .i64 (blockN l).num,.string (blockN l).name,.slice kx2 (blockN l).kids.length ky2,.int .u8 c.kind,.int .i64 c.num,.string c.name,.slice kb c.kids.length kd] 34))):=Lib.hid (zaa HW2.out);
      have hr2:=HR.out _ HW3.out;obtain ⟨r0,r1,r2,r3⟩:=cells4 hr2;have f:=unfrozen hr2;have HR2:=Lib.hid hr2;clear hr2))
 all_goals
  go_wp2
  (try simp only [Exit.inBlock,Exit.then]);refine bodyPost_ret (results_cell_row (P:=Tryz.prog) rfl _ _ (w.heap.size+1+1) _ _ _ _ rfl (set4 HR2.out _ _ _ _) Tryz.underlying34 rfl (by kernel_rfl)) rfl ?_
  exact zgi (x:=loopS a c l) (zam (k:=53) (s:=⟨#[]⟩) (l:=[a,blockN [],blockN l,c]) (ziA (zah w2 _) (.inr (by have:=HW2.out.size;omega)) (HAD.out.stays (Stays.of_below HW3.out)) (HN1.out.stays (Stays.of_below (by (repeat (with_reducible first|exact Below.refl _ _|refine zab ?_|refine zaa ?_|(apply zac;focus assumption)))))) (HN2.out.stays (Stays.of_below (by (repeat (with_reducible first|exact Below.refl _ _|refine zab ?_|refine zaa ?_|(apply zac;focus assumption)))))) (HCD.out.stays (Stays.of_below HW3.out))) (by omega) (Nat.zero_le _)) (by omega) (by omega) (HA.out.trans (HW3.out.mono HA.out.size)) _ _ _ _
theorem zoq (A:Nat→Prop) (x y:ByteArray) (hx:x.size≤maxLen) (hy:y.size≤maxLen) (w:World):Calls Tryz.prog 121 #[.string x,.string y] w (NdR A (moveS x y) w):=by
 have hA:Below w.heap.size w (w.alloc (.cells #[.int .u8 0,.int .i64 0,.string ⟨#[]⟩,.slice none 0 0] 34)):=zaa (Below.refl _ _)
 have hz:(w.alloc (.cells #[.int .u8 0,.int .i64 0,.string ⟨#[]⟩,.slice none 0 0] 34)).heap.size=w.heap.size+1:=by simp
 have hN:=zah w (.cells #[.int .u8 0,.int .i64 0,.string ⟨#[]⟩,.slice none 0 0] 34)
 have hxs:xS.size≤maxLen:=by unfold maxLen;decide
 have HA:=Lib.hid hA
 clear hA
 go_enter Tryz.func121,Tryz.ntmps121
 go_upto_region 1 with fail
 generalize (w.alloc (.cells #[.int .u8 0,.int .i64 0,.string ⟨#[]⟩,.slice none 0 0] 34))=W at *
 have HR:Hid (∀ w1,Below W.heap.size W w1→w1.heap[w.heap.size]?=some (.cells #[.int .u8 0,.int .i64 0,.string ⟨#[]⟩,.slice none 0 0] 34)):=Lib.hid (fun w1 h=>zad h hN)
 have HNU:Hid (∀ w1,Calls Tryz.prog 114 #[.int .i64 0] w1 (NdR (NewC A w 1) (numN 0) w1)):=Lib.hid (fun w1=>zix _ 0 (by unfold In64;omega) w1)
 have HPO:Hid (∀ w1,Calls Tryz.prog 122 #[.string ⟨#[120]⟩,.string x] w1 (NdR (NewC A w 1) (popS xS x) w1)):=Lib.hid (fun w1=>zoB _ xS x hxs hx w1)
 have HPU:Hid (∀ w1,Calls Tryz.prog 115 #[.string ⟨#[120]⟩,.string y] w1 (NdR (NewC A w 1) (pushS xS y) w1)):=Lib.hid (fun w1=>zng _ xS y hxs hy w1)
 have HLO:=Lib.hid (fun (w1:World) (k1:Option Addr) (k2:Nat) (k3:Option Addr) (k4:Nat) (k5:Option Addr) (k6:Nat) (k7:Option Addr) (k8:Nat) (hw:Below W.heap.size W w1) (h1:NdAt (NewC A w 1) w1 (.agg #[.int .u8 (numN 0).kind,.int .i64 (numN 0).num,.string (numN 0).name,.slice k1 (numN 0).kids.length k2]) (numN 0)) (h2:NdAt (NewC A w 1) w1 (.agg #[.int .u8 (numN 0).kind,.int .i64 (numN 0).num,.string (numN 0).name,.slice k3 (numN 0).kids.length k4]) (numN 0)) (h3:NdAt (NewC A w 1) w1 (.agg #[.int .u8 (popS xS x).kind,.int .i64 (popS xS x).num,.string (popS xS x).name,.slice k5 (popS xS x).kids.length k6]) (popS xS x)) (h4:NdAt (NewC A w 1) w1 (.agg #[.int .u8 (pushS xS y).kind,.int .i64 (pushS xS y).num,.string (pushS xS y).name,.slice k7 (pushS xS y).kids.length k8]) (pushS xS y))=>
  zkb (NewC A w 1) xS hxs (numN 0) (numN 0) [popS xS x,pushS xS y] 2 rfl k1 k2 k3 k4 (some ⟨w1.heap.size,0,none⟩) 2 (w1.alloc (.cells #[.int .u8 (popS xS x).kind,.int .i64 (popS xS x).num,.string (popS xS x).name,.slice k5 (popS xS x).kids.length k6,.int .u8 (pushS xS y).kind,.int .i64 (pushS xS y).num,.string (pushS xS y).name,.slice k7 (pushS xS y).kids.length k8] 34)) (h1.stays (Stays.of_below (zaa (Below.refl _ _)))) (h2.stays (Stays.of_below (zaa (Below.refl _ _))))
   (zdg (zah w1 _) (.inr (by have:=hw.size;omega)) (h3.stays (Stays.of_below (zaa (Below.refl _ _)))) (h4.stays (Stays.of_below (zaa (Below.refl _ _))))))
 clear hN
 go_wp2_with (first
  | (go_at_call 112;refine (HLO.out w4 k1 k2 k3 k4 k5 k6 k7 k8 HW4.out (HN1.out _ (by (repeat (with_reducible first|exact Below.refl _ _|refine zab ?_|refine zaa ?_|(apply zac;focus assumption))))) (HN2.out _ (by (repeat (with_reducible first|exact Below.refl _ _|refine zab ?_|refine zaa ?_|(apply zac;focus assumption))))) (HN3.out _ (by (repeat (with_reducible first|exact Below.refl _ _|refine zab ?_|refine zaa ?_|(apply zac;focus assumption))))) (HN4.out _ (Below.refl _ _))).mono ?_;rintro e w5 ⟨k9,k10,rfl,hn5,hb5⟩;have HW5:Hid (Below W.heap.size W w5):=Lib.hid (by (repeat (with_reducible first|exact Below.refl _ _|refine zab ?_|refine zaa ?_|(apply zac;focus assumption))));have hr:=HR.out _ HW5.out;obtain ⟨r0,r1,r2,r3⟩:=cells4 hr;have f:=unfrozen hr;have HR5:=Lib.hid hr;have HN5:=Lib.hid hn5;clear hr hn5)
  | (go_at_call 115;refine (HPU.out _).mono ?_;rintro e w4 ⟨k7,k8,rfl,hn4,hb4⟩;have HW4:Hid (Below W.heap.size W w4):=Lib.hid (by (repeat (with_reducible first|exact Below.refl _ _|refine zab ?_|refine zaa ?_|(apply zac;focus assumption))));have HN4:=Lib.hid (Held.call hn4 (by have:=HW3.out.size;omega));clear hn4)
  | (go_at_call 122;refine (HPO.out _).mono ?_;rintro e w3 ⟨k5,k6,rfl,hn3,hb3⟩;have HW3:Hid (Below W.heap.size W w3):=Lib.hid (by (repeat (with_reducible first|exact Below.refl _ _|refine zab ?_|refine zaa ?_|(apply zac;focus assumption))));have HN3:=Lib.hid (Held.call hn3 (by have:=HW2.out.size;omega));clear hn3)
  | (have:=HW1;go_at_call 114;refine (HNU.out _).mono ?_;rintro e w2 ⟨k3,k4,rfl,hn2,hb2⟩;have HW2:Hid (Below W.heap.size W w2):=Lib.hid (by (repeat (with_reducible first|exact Below.refl _ _|refine zab ?_|refine zaa ?_|(apply zac;focus assumption))));have HN2:=Lib.hid (Held.call hn2 (by have:=HW1.out.size;omega));clear hn2)
  | (go_at_call 114;refine (HNU.out _).mono ?_;rintro e w1 ⟨k1,k2,rfl,hn1,hb1⟩;have HW1:Hid (Below W.heap.size W w1):=Lib.hid (by (repeat (with_reducible first|exact Below.refl _ _|refine zab ?_|refine zaa ?_|(apply zac;focus assumption))));have HN1:=Lib.hid (Held.call hn1 (by omega));clear hn1))
 (try simp only [Exit.inBlock,Exit.then]);refine bodyPost_ret (results_cell_row (P:=Tryz.prog) rfl _ _ w.heap.size _ _ _ _ rfl (set4 HR5.out _ _ _ _) Tryz.underlying34 rfl (by kernel_rfl)) rfl ?_
 exact zgi (x:=moveS x y) (zaZ HN5.out (zaX (by have:=HW4.out.size;simp;omega))) (by omega) (by omega) (HA.out.trans (HW5.out.mono HA.out.size)) _ _ _ _
end Go.Proofs.YtpobmoegmdhbpaaGreatDoor
namespace Go.Proofs.YtpobmoegmdhbpaaGreatDoor
open Go.RowKit
theorem zbw {w W w1:World} {c:Nat} (hb:Below W.heap.size W w1) (hz:W.heap.size=w.heap.size+c):w.heap.size+c≤w1.heap.size:=by have:=hb.size;omega
theorem znk (A:Nat→Prop) (c:UInt8) (w:World):Calls Tryz.prog 120 #[.string ⟨#[c]⟩] w (NdR A (sizeS (bstr [c])) w):=zoA A (bstr [c]) (by unfold maxLen;simp [bstr,ByteArray.size]) w
theorem zfr (A:Nat→Prop) (c:UInt8) (w:World):Calls Tryz.prog 113 #[.string ⟨#[c]⟩] w (NdR A (vN (bstr [c])) w):=zdF A (bstr [c]) (by unfold maxLen;simp [bstr,ByteArray.size]) w
theorem zlG (A:Nat→Prop) (c d:UInt8) (w:World):Calls Tryz.prog 115 #[.string ⟨#[c]⟩,.string ⟨#[d]⟩] w (NdR A (pushS (bstr [c]) (bstr [d])) w):=zng A (bstr [c]) (bstr [d]) (by unfold maxLen;simp [bstr,ByteArray.size]) (by unfold maxLen;simp [bstr,ByteArray.size]) w
theorem zoJ (A:Nat→Prop) (c d:UInt8) (w:World):Calls Tryz.prog 122 #[.string ⟨#[c]⟩,.string ⟨#[d]⟩] w (NdR A (popS (bstr [c]) (bstr [d])) w):=zoB A (bstr [c]) (bstr [d]) (by unfold maxLen;simp [bstr,ByteArray.size]) (by unfold maxLen;simp [bstr,ByteArray.size]) w
theorem znl (A:Nat→Prop) (c d:UInt8) (w:World):Calls Tryz.prog 121 #[.string ⟨#[c]⟩,.string ⟨#[d]⟩] w (NdR A (moveS (bstr [c]) (bstr [d])) w):=zoq A (bstr [c]) (bstr [d]) (by unfold maxLen;simp [bstr,ByteArray.size]) (by unfold maxLen;simp [bstr,ByteArray.size]) w
theorem zfO (A:Nat→Prop) (w:World):Calls Tryz.prog 114 #[.int .i64 0] w (NdR A (numN 0) w):=zix A 0 (by unfold In64;omega) w
theorem zhD (A:Nat→Prop) (d:UInt8) {a c:Nd} {l:List Nd} {n:Nat} {ka:Option Addr} {kc:Nat} {kb:Option Addr} {kd:Nat} {ja:Option Addr} {jc:Nat} {w:World} (ha:NdAt A w (.agg #[.int .u8 a.kind,.int .i64 a.num,.string a.name,.slice ka a.kids.length kc]) a) (hc:NdAt A w (.agg #[.int .u8 c.kind,.int .i64 c.num,.string c.name,.slice kb c.kids.length kd]) c) (hl:KidsAt A w (.slice ja n jc) l) (hln:n=l.length):
 Calls Tryz.prog 112 #[.string ⟨#[d]⟩,(.agg #[.int .u8 a.kind,.int .i64 a.num,.string a.name,.slice ka a.kids.length kc]),(.agg #[.int .u8 c.kind,.int .i64 c.num,.string c.name,.slice kb c.kids.length kd]),.slice ja n jc] w (NdR A (localS (bstr [d]) a c l) w):=zkb A (bstr [d]) (by unfold maxLen;simp [bstr,ByteArray.size]) a c l n hln ka kc kb kd ja jc w ha hc hl
theorem znd (A:Nat→Prop) {a c:Nd} {l:List Nd} {n:Nat} {ka:Option Addr} {kc:Nat} {kb:Option Addr} {kd:Nat} {ja:Option Addr} {jc:Nat} {w:World} (ha:NdAt A w (.agg #[.int .u8 a.kind,.int .i64 a.num,.string a.name,.slice ka a.kids.length kc]) a) (hc:NdAt A w (.agg #[.int .u8 c.kind,.int .i64 c.num,.string c.name,.slice kb c.kids.length kd]) c) (hl:KidsAt A w (.slice ja n jc) l) (hln:n=l.length):
 Calls Tryz.prog 118 #[(.agg #[.int .u8 a.kind,.int .i64 a.num,.string a.name,.slice ka a.kids.length kc]),(.agg #[.int .u8 c.kind,.int .i64 c.num,.string c.name,.slice kb c.kids.length kd]),.slice ja n jc] w (NdR A (loopS a c l) w):=zox A a c l n hln ka kc kb kd ja jc w ha hc hl
theorem zhW (A:Nat→Prop) {l:List Nd} {n:Nat} {ja:Option Addr} {jc:Nat} {w:World} (hl:KidsAt A w (.slice ja n jc) l) (hln:n=l.length):Calls Tryz.prog 116 #[.slice ja n jc] w (NdR A (blockN l) w):=zgg A l n hln ja jc w hl
theorem znT (A:Nat→Prop) (k:Int) (hk:0≤k∧k≤255) (c:UInt8) {l:List Nd} {n:Nat} {ja:Option Addr} {jc:Nat} {w:World} (hl:KidsAt A w (.slice ja n jc) l) (hln:n=l.length):Calls Tryz.prog 117 #[.int .u8 k,.string ⟨#[c]⟩,.slice ja n jc] w (NdR A (nodeN k (bstr [c]) l) w):=zdR A k hk (bstr [c]) (by unfold maxLen;simp [bstr,ByteArray.size]) l n hln ja jc w hl
theorem zoi (A:Nat→Prop) (w:World):Calls Tryz.prog 71 #[] w (NdR A spillB w):=by
 have hA:Below w.heap.size w (w.alloc (.cells #[.int .u8 0,.int .i64 0,.string ⟨#[]⟩,.slice none 0 0] 34)):=zaa (Below.refl _ _)
 have hz:(w.alloc (.cells #[.int .u8 0,.int .i64 0,.string ⟨#[]⟩,.slice none 0 0] 34)).heap.size=w.heap.size+1:=by simp
 have hN:=zah w (.cells #[.int .u8 0,.int .i64 0,.string ⟨#[]⟩,.slice none 0 0] 34)
 have HA:=Lib.hid hA
 clear hA
 go_enter Tryz.func71,Tryz.ntmps71
 go_upto_region 1 with fail
 generalize (w.alloc (.cells #[.int .u8 0,.int .i64 0,.string ⟨#[]⟩,.slice none 0 0] 34))=W at *
 have HR:Hid (∀ w1,Below W.heap.size W w1→w1.heap[w.heap.size]?=some (.cells #[.int .u8 0,.int .i64 0,.string ⟨#[]⟩,.slice none 0 0] 34)):=Lib.hid (fun w1 h=>zad h hN)
 clear hN
 go_wp2_with (first
  | (go_at_call 114;refine (zfO (NewC A w 1) _).mono ?_;rintro e w9 ⟨k7,k8,rfl,hn9,hb9⟩;have HN9:=Held.call hn9 (zbw (by (repeat (with_reducible first|exact Below.refl _ _|refine zab ?_|refine zaa ?_|(apply zac;focus assumption)))) hz);clear hn9)
  | (go_at_call 120;refine (znk (NewC A w 1) _ _).mono ?_;rintro e w9 ⟨k7,k8,rfl,hn9,hb9⟩;have HN9:=Held.call hn9 (zbw (by (repeat (with_reducible first|exact Below.refl _ _|refine zab ?_|refine zaa ?_|(apply zac;focus assumption)))) hz);clear hn9)
  | (go_at_call 113;refine (zfr (NewC A w 1) _ _).mono ?_;rintro e w9 ⟨k7,k8,rfl,hn9,hb9⟩;have HN9:=Held.call hn9 (zbw (by (repeat (with_reducible first|exact Below.refl _ _|refine zab ?_|refine zaa ?_|(apply zac;focus assumption)))) hz);clear hn9)
  | (go_at_call 119;refine (zli (NewC A w 1) _ _ _ _ _ _ _ (by refine Held.use (by assumption) ?_;exact (by (repeat (with_reducible first|exact Below.refl _ _|refine zab ?_|refine zaa ?_|(apply zac;focus assumption))))) (by refine Held.use (by assumption) ?_;exact (by (repeat (with_reducible first|exact Below.refl _ _|refine zab ?_|refine zaa ?_|(apply zac;focus assumption)))))).mono ?_;rintro e w9 ⟨k7,k8,rfl,hn9,hb9⟩;have HN9:=Held.call hn9 (zbw (by (repeat (with_reducible first|exact Below.refl _ _|refine zab ?_|refine zaa ?_|(apply zac;focus assumption)))) hz);clear hn9)
  | (go_at_call 121;refine (znl (NewC A w 1) _ _ _).mono ?_;rintro e w9 ⟨k7,k8,rfl,hn9,hb9⟩;have HN9:=Held.call hn9 (zbw (by (repeat (with_reducible first|exact Below.refl _ _|refine zab ?_|refine zaa ?_|(apply zac;focus assumption)))) hz);clear hn9)
  | (go_at_call 115;refine (zlG (NewC A w 1) _ _ _).mono ?_;rintro e w9 ⟨k7,k8,rfl,hn9,hb9⟩;have HN9:=Held.call hn9 (zbw (by (repeat (with_reducible first|exact Below.refl _ _|refine zab ?_|refine zaa ?_|(apply zac;focus assumption)))) hz);clear hn9)
  | (go_at_call 118;refine (znd (NewC A w 1) (by refine Held.use (by assumption) ?_;exact (by (repeat (with_reducible first|exact Below.refl _ _|refine zab ?_|refine zaa ?_|(apply zac;focus assumption))))) (by refine Held.use (by assumption) ?_;exact (by (repeat (with_reducible first|exact Below.refl _ _|refine zab ?_|refine zaa ?_|(apply zac;focus assumption))))) (zbi (zah _ _) (.inr (zbw (by exact (by (repeat (with_reducible first|exact Below.refl _ _|refine zab ?_|refine zaa ?_|(apply zac;focus assumption))))) hz)) (by refine Held.use (by assumption) ?_;exact (by (repeat (with_reducible first|exact Below.refl _ _|refine zab ?_|refine zaa ?_|(apply zac;focus assumption)))))) rfl).mono ?_;rintro e w9 ⟨k7,k8,rfl,hn9,hb9⟩;have HN9:=Held.call hn9 (zbw (by (repeat (with_reducible first|exact Below.refl _ _|refine zab ?_|refine zaa ?_|(apply zac;focus assumption)))) hz);clear hn9)
  | (go_at_call 112;refine (zhD (NewC A w 1) _ (by refine Held.use (by assumption) ?_;exact (by (repeat (with_reducible first|exact Below.refl _ _|refine zab ?_|refine zaa ?_|(apply zac;focus assumption))))) (by refine Held.use (by assumption) ?_;exact (by (repeat (with_reducible first|exact Below.refl _ _|refine zab ?_|refine zaa ?_|(apply zac;focus assumption))))) (zdg (zah _ _) (.inr (zbw (by exact (by (repeat (with_reducible first|exact Below.refl _ _|refine zab ?_|refine zaa ?_|(apply zac;focus assumption))))) hz)) (by refine Held.use (by assumption) ?_;exact (by (repeat (with_reducible first|exact Below.refl _ _|refine zab ?_|refine zaa ?_|(apply zac;focus assumption))))) (by refine Held.use (by assumption) ?_;exact (by (repeat (with_reducible first|exact Below.refl _ _|refine zab ?_|refine zaa ?_|(apply zac;focus assumption)))))) rfl).mono ?_;rintro e w9 ⟨k7,k8,rfl,hn9,hb9⟩;have HN9:=Held.call hn9 (zbw (by (repeat (with_reducible first|exact Below.refl _ _|refine zab ?_|refine zaa ?_|(apply zac;focus assumption)))) hz);clear hn9)
  | (go_at_call 116;refine (zhW (NewC A w 1) (zbi (zah _ _) (.inr (zbw (by exact (by (repeat (with_reducible first|exact Below.refl _ _|refine zab ?_|refine zaa ?_|(apply zac;focus assumption))))) hz)) (by refine Held.use (by assumption) ?_;exact (by (repeat (with_reducible first|exact Below.refl _ _|refine zab ?_|refine zaa ?_|(apply zac;focus assumption)))))) rfl).mono ?_;rintro e w9 ⟨k7,k8,rfl,hn9,hb9⟩;have HW9:Hid (Below W.heap.size W w9):=Lib.hid (by (repeat (with_reducible first|exact Below.refl _ _|refine zab ?_|refine zaa ?_|(apply zac;focus assumption))));have hr:=HR.out _ HW9.out;obtain ⟨r0,r1,r2,r3⟩:=cells4 hr;have f:=unfrozen hr;have HR9:=Lib.hid hr;have HN9:=Lib.hid (zaZ hn9 (zaX (zbw (by (repeat (with_reducible first|exact Below.refl _ _|refine zab ?_|refine zaa ?_|(apply zac;focus assumption)))) hz)));clear hr hn9))
 (try simp only [Exit.inBlock,Exit.then]);refine bodyPost_ret (results_cell_row (P:=Tryz.prog) rfl _ _ w.heap.size _ _ _ _ rfl (set4 HR9.out _ _ _ _) Tryz.underlying34 rfl (by kernel_rfl)) rfl ?_
 exact zgi (x:=spillB) HN9.out (by omega) (by omega) (HA.out.trans (HW9.out.mono HA.out.size)) _ _ _ _
theorem zom (A:Nat→Prop) (w:World):Calls Tryz.prog 70 #[] w (NdR A copyB w):=by
 have hA:Below w.heap.size w (w.alloc (.cells #[.int .u8 0,.int .i64 0,.string ⟨#[]⟩,.slice none 0 0] 34)):=zaa (Below.refl _ _)
 have hz:(w.alloc (.cells #[.int .u8 0,.int .i64 0,.string ⟨#[]⟩,.slice none 0 0] 34)).heap.size=w.heap.size+1:=by simp
 have hN:=zah w (.cells #[.int .u8 0,.int .i64 0,.string ⟨#[]⟩,.slice none 0 0] 34)
 have HA:=Lib.hid hA
 clear hA
 go_enter Tryz.func70,Tryz.ntmps70
 go_upto_region 1 with fail
 generalize (w.alloc (.cells #[.int .u8 0,.int .i64 0,.string ⟨#[]⟩,.slice none 0 0] 34))=W at *
 have HR:Hid (∀ w1,Below W.heap.size W w1→w1.heap[w.heap.size]?=some (.cells #[.int .u8 0,.int .i64 0,.string ⟨#[]⟩,.slice none 0 0] 34)):=Lib.hid (fun w1 h=>zad h hN)
 clear hN
 go_upto_region 2 with (first
  | (go_at_call 114;refine (zfO (NewC A w 1) _).mono ?_;rintro e w9 ⟨k7,k8,rfl,hn9,hb9⟩;have HN9:=Held.call hn9 (zbw (by (repeat (with_reducible first|exact Below.refl _ _|refine zab ?_|refine zaa ?_|(apply zac;focus assumption)))) hz);clear hn9)
  | (go_at_call 113;refine (zfr (NewC A w 1) _ _).mono ?_;rintro e w9 ⟨k7,k8,rfl,hn9,hb9⟩;have HN9:=Held.call hn9 (zbw (by (repeat (with_reducible first|exact Below.refl _ _|refine zab ?_|refine zaa ?_|(apply zac;focus assumption)))) hz);clear hn9)
  | (go_at_call 115;refine (zlG (NewC A w 1) _ _ _).mono ?_;rintro e w9 ⟨k7,k8,rfl,hn9,hb9⟩;have HN9:=Held.call hn9 (zbw (by (repeat (with_reducible first|exact Below.refl _ _|refine zab ?_|refine zaa ?_|(apply zac;focus assumption)))) hz);clear hn9)
  | (go_at_call 112;refine (zhD (NewC A w 1) _ (by refine Held.use (by assumption) ?_;exact (by (repeat (with_reducible first|exact Below.refl _ _|refine zab ?_|refine zaa ?_|(apply zac;focus assumption))))) (by refine Held.use (by assumption) ?_;exact (by (repeat (with_reducible first|exact Below.refl _ _|refine zab ?_|refine zaa ?_|(apply zac;focus assumption))))) (zbi (zah _ _) (.inr (zbw (by exact (by (repeat (with_reducible first|exact Below.refl _ _|refine zab ?_|refine zaa ?_|(apply zac;focus assumption))))) hz)) (by refine Held.use (by assumption) ?_;exact (by (repeat (with_reducible first|exact Below.refl _ _|refine zab ?_|refine zaa ?_|(apply zac;focus assumption)))))) rfl).mono ?_;rintro e w1 ⟨ka,kc,rfl,hn1,hb1⟩;have HN1:=Held.call hn1 (zbw (by (repeat (with_reducible first|exact Below.refl _ _|refine zab ?_|refine zaa ?_|(apply zac;focus assumption)))) hz);have HW1:Hid (Below W.heap.size W w1):=Lib.hid (by (repeat (with_reducible first|exact Below.refl _ _|refine zab ?_|refine zaa ?_|(apply zac;focus assumption))));clear hn1))
 generalize hd:localS (bstr [121]) (vN (bstr [120])) (numN 0) [pushS (bstr [121]) (bstr [98])]=dup at *
 have hX:=zah w1 (.cells #[.int .u8 dup.kind,.int .i64 dup.num,.string dup.name,.slice ka dup.kids.length kc] 34)
 have hbX:Below w1.heap.size w1 (w1.alloc (.cells #[.int .u8 dup.kind,.int .i64 dup.num,.string dup.name,.slice ka dup.kids.length kc] 34)):=zaa (Below.refl _ _)
 have hg1:w.heap.size < w1.heap.size:=by have:=HW1.out.size;omega
 generalize (w1.alloc (.cells #[.int .u8 dup.kind,.int .i64 dup.num,.string dup.name,.slice ka dup.kids.length kc] 34))=X at *
 have HD:=HN1 X hbX
 have HWX:Hid (Below W.heap.size W X):=Lib.hid (HW1.out.trans (hbX.mono HW1.out.size))
 have hzX:=HWX.out.size
 have HDD:=Held.of HD
 have HX:Hid (∀ w',Below X.heap.size X w'→(w'.cell? ⟨w1.heap.size,0,none⟩=some (.int .u8 dup.kind)∧w'.cell? ⟨w1.heap.size,1,none⟩=some (.int .i64 dup.num)∧w'.cell? ⟨w1.heap.size,2,none⟩=some (.string dup.name)∧w'.cell? ⟨w1.heap.size,3,none⟩=some (.slice ka dup.kids.length kc))):=Lib.hid (fun w' h=>cells4 (zad h hX))
 have HX2:Hid (∀ w',Below X.heap.size X w'→∀ y0 y1 y2 y3,((((((w'.setCell ⟨w.heap.size,0,none⟩ y0).setCell ⟨w.heap.size,1,none⟩ y1).setCell ⟨w.heap.size,2,none⟩ y2).setCell ⟨w.heap.size,3,none⟩ y3)).cell? ⟨w1.heap.size,0,none⟩=some (.int .u8 dup.kind)∧(((((w'.setCell ⟨w.heap.size,0,none⟩ y0).setCell ⟨w.heap.size,1,none⟩ y1).setCell ⟨w.heap.size,2,none⟩ y2).setCell ⟨w.heap.size,3,none⟩ y3)).cell? ⟨w1.heap.size,1,none⟩=some (.int .i64 dup.num)∧(((((w'.setCell ⟨w.heap.size,0,none⟩ y0).setCell ⟨w.heap.size,1,none⟩ y1).setCell ⟨w.heap.size,2,none⟩ y2).setCell ⟨w.heap.size,3,none⟩ y3)).cell? ⟨w1.heap.size,2,none⟩=some (.string dup.name)∧(((((w'.setCell ⟨w.heap.size,0,none⟩ y0).setCell ⟨w.heap.size,1,none⟩ y1).setCell ⟨w.heap.size,2,none⟩ y2).setCell ⟨w.heap.size,3,none⟩ y3)).cell? ⟨w1.heap.size,3,none⟩=some (.slice ka dup.kids.length kc))):=Lib.hid (fun w' h y0 y1 y2 y3=>cells4 (zew (zad h hX) (by omega) _ _ _ _))
 have HRX:Hid (∀ w',Below X.heap.size X w'→w'.heap[w.heap.size]?=some (.cells #[.int .u8 0,.int .i64 0,.string ⟨#[]⟩,.slice none 0 0] 34)):=Lib.hid (fun w' h=>HR.out w' (HWX.out.trans (h.mono HWX.out.size)))
 obtain ⟨c,hc⟩:∃ c,X.heap.size=w.heap.size+1+c:=⟨X.heap.size - (w.heap.size+1),by omega⟩
 have hgx:∀ wi,Below X.heap.size X wi→w.heap.size+1≤wi.heap.size:=fun wi h=>by have:=h.size;omega
 clear hX hbX HD HN1 HR
 go_region_held3 (fun w'=>(w'.cell? ⟨w1.heap.size,0,none⟩=some (.int .u8 dup.kind)∧w'.cell? ⟨w1.heap.size,1,none⟩=some (.int .i64 dup.num)∧w'.cell? ⟨w1.heap.size,2,none⟩=some (.string dup.name)∧w'.cell? ⟨w1.heap.size,3,none⟩=some (.slice ka dup.kids.length kc)))
  (first|with_reducible exact HX2.out _ HW9.out _ _ _ _|with_reducible exact HX.out _ (by (repeat (with_reducible first|exact Below.refl _ _|refine zab ?_|refine zaa ?_|(apply zac;focus assumption)))))
  (first
  | (go_at_call 114;(with_reducible refine (zfO (NewC A w 1) _).mono ?_);rintro e w9 ⟨k7,k8,rfl,hn9,hb9⟩;have HN9:=Held.call hn9 (hgx _ (by (repeat (with_reducible first|exact Below.refl _ _|refine zab ?_|refine zaa ?_|(apply zac;focus assumption)))));clear hn9)
  | (go_at_call 120;(with_reducible refine (znk (NewC A w 1) _ _).mono ?_);rintro e w9 ⟨k7,k8,rfl,hn9,hb9⟩;have HN9:=Held.call hn9 (hgx _ (by (repeat (with_reducible first|exact Below.refl _ _|refine zab ?_|refine zaa ?_|(apply zac;focus assumption)))));clear hn9)
  | (go_at_call 119;(with_reducible refine (zli (NewC A w 1) _ _ _ _ _ _ _ (by refine Held.use (by assumption) ?_;exact (by (repeat (with_reducible first|exact Below.refl _ _|refine zab ?_|refine zaa ?_|(apply zac;focus assumption))))) (by refine Held.use (by assumption) ?_;exact (by (repeat (with_reducible first|exact Below.refl _ _|refine zab ?_|refine zaa ?_|(apply zac;focus assumption)))))).mono ?_);rintro e w9 ⟨k7,k8,rfl,hn9,hb9⟩;have HN9:=Held.call hn9 (hgx _ (by (repeat (with_reducible first|exact Below.refl _ _|refine zab ?_|refine zaa ?_|(apply zac;focus assumption)))));clear hn9)
  | (go_at_call 121;(with_reducible refine (znl (NewC A w 1) _ _ _).mono ?_);rintro e w9 ⟨k7,k8,rfl,hn9,hb9⟩;have HN9:=Held.call hn9 (hgx _ (by (repeat (with_reducible first|exact Below.refl _ _|refine zab ?_|refine zaa ?_|(apply zac;focus assumption)))));clear hn9)
  | (go_at_call 115;(with_reducible refine (zlG (NewC A w 1) _ _ _).mono ?_);rintro e w9 ⟨k7,k8,rfl,hn9,hb9⟩;have HN9:=Held.call hn9 (hgx _ (by (repeat (with_reducible first|exact Below.refl _ _|refine zab ?_|refine zaa ?_|(apply zac;focus assumption)))));clear hn9)
  | (go_at_call 122;(with_reducible refine (zoJ (NewC A w 1) _ _ _).mono ?_);rintro e w9 ⟨k7,k8,rfl,hn9,hb9⟩;have HN9:=Held.call hn9 (hgx _ (by (repeat (with_reducible first|exact Below.refl _ _|refine zab ?_|refine zaa ?_|(apply zac;focus assumption)))));clear hn9)
  | (go_at_call 118;refine (znd (NewC A w 1) (by refine Held.use (by assumption) ?_;exact (by (repeat (with_reducible first|exact Below.refl _ _|refine zab ?_|refine zaa ?_|(apply zac;focus assumption))))) (by refine Held.use (by assumption) ?_;exact (by (repeat (with_reducible first|exact Below.refl _ _|refine zab ?_|refine zaa ?_|(apply zac;focus assumption))))) (zbi (zah _ _) (.inr (hgx _ (by exact (by (repeat (with_reducible first|exact Below.refl _ _|refine zab ?_|refine zaa ?_|(apply zac;focus assumption))))))) (by refine Held.use (by assumption) ?_;exact (by (repeat (with_reducible first|exact Below.refl _ _|refine zab ?_|refine zaa ?_|(apply zac;focus assumption)))))) (by rfl)).mono ?_;rintro e w9 ⟨k7,k8,rfl,hn9,hb9⟩;have HN9:=Held.call hn9 (hgx _ (by (repeat (with_reducible first|exact Below.refl _ _|refine zab ?_|refine zaa ?_|(apply zac;focus assumption)))));clear hn9)
  | (go_at_call 112;refine (zhD (NewC A w 1) _ (by refine Held.use (by assumption) ?_;exact (by (repeat (with_reducible first|exact Below.refl _ _|refine zab ?_|refine zaa ?_|(apply zac;focus assumption))))) (by refine Held.use (by assumption) ?_;exact (by (repeat (with_reducible first|exact Below.refl _ _|refine zab ?_|refine zaa ?_|(apply zac;focus assumption))))) (zgH (zah _ _) (.inr (hgx _ (by exact (by (repeat (with_reducible first|exact Below.refl _ _|refine zab ?_|refine zaa ?_|(apply zac;focus assumption))))))) (by refine Held.use (by assumption) ?_;exact (by (repeat (with_reducible first|exact Below.refl _ _|refine zab ?_|refine zaa ?_|(apply zac;focus assumption))))) (by refine Held.use (by assumption) ?_;exact (by (repeat (with_reducible first|exact Below.refl _ _|refine zab ?_|refine zaa ?_|(apply zac;focus assumption))))) (by refine Held.use (by assumption) ?_;exact (by (repeat (with_reducible first|exact Below.refl _ _|refine zab ?_|refine zaa ?_|(apply zac;focus assumption)))))) (by rfl)).mono ?_;rintro e w9 ⟨k7,k8,rfl,hn9,hb9⟩;have HN9:=Held.call hn9 (hgx _ (by (repeat (with_reducible first|exact Below.refl _ _|refine zab ?_|refine zaa ?_|(apply zac;focus assumption)))));clear hn9)
  | (go_at_call 117;refine (znT (NewC A w 1) _ (by omega) _ (zbi (zah _ _) (.inr (hgx _ (by exact (by (repeat (with_reducible first|exact Below.refl _ _|refine zab ?_|refine zaa ?_|(apply zac;focus assumption))))))) (by refine Held.use (by assumption) ?_;exact (by (repeat (with_reducible first|exact Below.refl _ _|refine zab ?_|refine zaa ?_|(apply zac;focus assumption)))))) (by rfl)).mono ?_;have HNM:=True.intro;rintro e w9 ⟨k7,k8,rfl,hn9,hb9⟩;have HN9:=Held.call hn9 (hgx _ (by (repeat (with_reducible first|exact Below.refl _ _|refine zab ?_|refine zaa ?_|(apply zac;focus assumption)))));clear hn9)
  | (have:=HNM;go_at_call 116;refine (zhW (NewC A w 1) (zbi (zah _ _) (.inr (hgx _ (by exact (by (repeat (with_reducible first|exact Below.refl _ _|refine zab ?_|refine zaa ?_|(apply zac;focus assumption))))))) (by refine Held.use (by assumption) ?_;exact (by (repeat (with_reducible first|exact Below.refl _ _|refine zab ?_|refine zaa ?_|(apply zac;focus assumption)))))) (by rfl)).mono ?_;rintro e w9 ⟨k7,k8,rfl,hn9,hb9⟩;have HW9:Hid (Below X.heap.size X w9):=Lib.hid (by (repeat (with_reducible first|exact Below.refl _ _|refine zab ?_|refine zaa ?_|(apply zac;focus assumption))));have hr:=HRX.out _ HW9.out;obtain ⟨r0,r1,r2,r3⟩:=cells4 hr;have f:=unfrozen hr;have HR9:=Lib.hid hr;have HN9:=Lib.hid (zaZ hn9 (zaX (hgx _ (by (repeat (with_reducible first|exact Below.refl _ _|refine zab ?_|refine zaa ?_|(apply zac;focus assumption)))))));clear hr hn9)
  | (go_at_call 116;refine (zhW (NewC A w 1) (zdg (zah _ _) (.inr (hgx _ (by exact (by (repeat (with_reducible first|exact Below.refl _ _|refine zab ?_|refine zaa ?_|(apply zac;focus assumption))))))) (by refine Held.use (by assumption) ?_;exact (by (repeat (with_reducible first|exact Below.refl _ _|refine zab ?_|refine zaa ?_|(apply zac;focus assumption))))) (by refine Held.use (by assumption) ?_;exact (by (repeat (with_reducible first|exact Below.refl _ _|refine zab ?_|refine zaa ?_|(apply zac;focus assumption)))))) (by rfl)).mono ?_;rintro e w9 ⟨k7,k8,rfl,hn9,hb9⟩;have HN9:=Held.call hn9 (hgx _ (by (repeat (with_reducible first|exact Below.refl _ _|refine zab ?_|refine zaa ?_|(apply zac;focus assumption)))));clear hn9))
 all_goals
  go_wp2
  (try simp only [Exit.inBlock,Exit.then]);refine bodyPost_ret (results_cell_row (P:=Tryz.prog) rfl _ _ w.heap.size _ _ _ _ rfl (set4 HR9.out _ _ _ _) Tryz.underlying34 rfl (by kernel_rfl)) rfl ?_
  subst hd
  have hB:=HWX.out.trans (HW9.out.mono HWX.out.size)
  exact zgi (x:=copyB) HN9.out (by omega) (by omega) (HA.out.trans (hB.mono HA.out.size)) _ _ _ _
end Go.Proofs.YtpobmoegmdhbpaaGreatDoor
