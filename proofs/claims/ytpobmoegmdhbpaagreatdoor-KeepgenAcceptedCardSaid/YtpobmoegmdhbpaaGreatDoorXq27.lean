/- Contracts and plain lemmas (CgS): no statement of the seat is proved here. -/
import Derived.Test.YtpobmoegmdhbpaaGreatDoorXq26
import Derived.Test.YtpobmoegmdhbpaaGreatDoorXq14
/- Walks of package cleangen:Proc. -/
set_option linter.unusedSimpArgs false
set_option linter.unusedVariables false
set_option linter.unusedSectionVars false
set_option maxRecDepth 100000
set_option maxHeartbeats 6400000
namespace Go.Proofs.YtpobmoegmdhbpaaGreatDoor
open Go.RowKit
def selfF:CallF:=fun nm=>(nm,[])
theorem znt (nm:ByteArray) (w:World):Calls Tryz.prog 82 #[.string nm] w fun e w'=>e=.returned (.tuple #[.string nm,.slice none 0 0])∧w=w':=by
 go_enter Tryz.func82,Tryz.ntmps82
 go_wp2
 go_ret2
 exact ⟨rfl,rfl⟩
theorem zlK (w:World):ClosOk (.func (.func 82) #[] #[]) selfF w:=
 ⟨82,#[],rfl,fun args w=>by kernel_rfl,fun nm w1 hn hb=>⟨(znt nm w1).mono fun e w' ⟨he,hw⟩=>⟨none,0,0,he,by
   subst hw
   exact ⟨fun _ _=>undef,RowAt.empty _ _ _,fun j hj=>by simp [selfF] at hj⟩,by subst hw;exact Below.refl _ _⟩,hn,by simp [selfF]⟩⟩
theorem ndKids {A:Nat→Prop} {w:World} {a b c d:Value} {n:Nd} (h:NdAt A w (.agg #[a,b,c,d]) n):KidsAt A w d n.kids:=(zaS h).2.2.2.1
theorem zea (ts:List Par) (l:List Nd):∃ l',localsN ts (blockN l)=blockN l':=by
 cases ts with
 | nil=>exact ⟨l,rfl⟩
 | cons t r=>exact ⟨_,rfl⟩
def procB (g:AFn):Nd:=localsN g.temps (blockN (bindsN selfF g.body ++ [resultN g] ++ (invL (bindsN selfF g.body)).reverse))
def PBox (g:AFn) (pa ta ba:Option Addr) (pc tc bc:Nat) (w w1:World):Prop:=w1.heap[w.heap.size]?=some (.cells #[.string g.name,.slice pa g.params.length pc,.bool g.list,.slice ta g.temps.length tc,.slice ba g.body.length bc,.string g.result] 44)∧w1.heap[w.heap.size+1]?=some (.cells #[.string ⟨#[]⟩,.slice none 0 0,.int .u8 0,.int .i64 0,.string ⟨#[]⟩,.slice none 0 0] 83)
def CutB (g:AFn) (pa ta ba:Option Addr) (pc tc bc:Nat) (w:World) (s:Value) (wx:World):Prop:=
 ∃ gb ka kn kc,s=.pointer (some ⟨gb,0,none⟩)∧wx.heap[gb]?=some (.cells #[.int .u8 57,.int .i64 0,.string ⟨#[]⟩,.slice ka kn kc] 34 (0,0))∧NdAt (fun b=>Up (w.heap.size+2) b∧b≠gb) wx (.agg #[.int .u8 57,.int .i64 0,.string ⟨#[]⟩,.slice ka kn kc]) (procB g)∧PBox g pa ta ba pc tc bc w wx∧Below w.heap.size w wx
theorem set6 {w:World} {b e:Nat} {v0 v1 v2 v3 v4 v5:Value} (h:w.heap[b]?=some (.cells #[v0,v1,v2,v3,v4,v5] e (0,0))) (x0 x1 x2 x3 x4 x5:Value):
 ((((((w.setCell ⟨b,0,none⟩ x0).setCell ⟨b,1,none⟩ x1).setCell ⟨b,2,none⟩ x2).setCell ⟨b,3,none⟩ x3).setCell ⟨b,4,none⟩ x4).setCell ⟨b,5,none⟩ x5).heap[b]?=some (.cells #[x0,x1,x2,x3,x4,x5] e (0,0)):=by
 have h3:=heap_setCell_same _ b 5 _ _ x5 (heap_setCell_same _ b 4 _ _ x4 (heap_setCell_same _ b 3 _ _ x3 (heap_setCell_same _ b 2 _ _ x2 (heap_setCell_same _ b 1 _ _ x1 (heap_setCell_same w b 0 _ _ x0 h)))))
 simpa only [List.setIfInBounds_toArray,List.set_cons_zero,List.set_cons_succ] using h3
theorem zbU (w:World) (b:Nat) (x0 x1 x2 x3 x4 x5:Value):Keeps w ((((((w.setCell ⟨b,0,none⟩ x0).setCell ⟨b,1,none⟩ x1).setCell ⟨b,2,none⟩ x2).setCell ⟨b,3,none⟩ x3).setCell ⟨b,4,none⟩ x4).setCell ⟨b,5,none⟩ x5) (fun k=>k=b):=
 (((((zaf w b 0 x0).same (zaf _ b 1 x1)).same (zaf _ b 2 x2)).same (zaf _ b 3 x3)).same (zaf _ b 4 x4)).same (zaf _ b 5 x5)
theorem zau {B:Nat} {w0 w:World} {g:Nat} {x0 x1 x2 x3 x4 x5:Value} (h:Below B w0 w) (hg:B≤g):
 Below B w0 ((((((w.setCell ⟨g,0,none⟩ x0).setCell ⟨g,1,none⟩ x1).setCell ⟨g,2,none⟩ x2).setCell ⟨g,3,none⟩ x3).setCell ⟨g,4,none⟩ x4).setCell ⟨g,5,none⟩ x5):=(((((h.setCell hg _).setCell hg _).setCell hg _).setCell hg _).setCell hg _).setCell hg _
theorem zjn {A:Nat→Prop} {w w':World} {g:Nat} (h:Keeps w w' (fun k=>k=g)) (hA:∀ k,A k→k < w.heap.size→k≠g):Stays A A w w':=⟨h.size,fun b hb a=>⟨h.block b hb (hA b a hb),a⟩⟩
theorem RowsAt.young {α:Type} [Inhabited α] {E:Elem α} {A A':Nat→Prop} {w:World} {v:Value} {l:List α} (h:RowsAt E A w v l) (hA:∀ k,k < w.heap.size→A k→A' k):RowsAt E A' w v l:=h.stays ⟨Nat.le_refl _,fun b hb a=>⟨rfl,hA b hb a⟩⟩
def ProcPost (g:AFn) (w:World) (e:Ending) (w':World):Prop:=Below w.heap.size w w'∧
 (80 < depthN (procB g)→e=.returned (.tuple #[.agg #[.string ⟨#[]⟩,.slice none 0 0,.int .u8 0,.int .i64 0,.string ⟨#[]⟩,.slice none 0 0],.int .i64 19]))∧
 (¬ 80 < depthN (procB g)→(2000 < sizeN (procB g)∨8 < (paramsN g).length)→e=.returned (.tuple #[.agg #[.string ⟨#[]⟩,.slice none 0 0,.int .u8 0,.int .i64 0,.string ⟨#[]⟩,.slice none 0 0],.int .i64 5]))∧
 (¬ 80 < depthN (procB g)→¬ (2000 < sizeN (procB g)∨8 < (paramsN g).length)→∃ a c ka kn kc,e=.returned (.tuple #[.agg #[.string g.name,.slice a (paramsN g).length c,.int .u8 57,.int .i64 0,.string ⟨#[]⟩,.slice ka kn kc],.int .i64 0])∧
   RowsAt DclE (Up w.heap.size) w' (.slice a (paramsN g).length c) (paramsN g)∧NdAt (Up w.heap.size) w' (.agg #[.int .u8 57,.int .i64 0,.string ⟨#[]⟩,.slice ka kn kc]) (procB g))
theorem zie (B:Nat) (w3:World) (rk:Int) (rs:ByteArray) (ka ja ra:Option Addr) (kn kc jn jc rn rc:Nat) (l0 l2:List Nd) (r:Nd) (hB:B≤w3.heap.size) (h0:KidsAt (Up B) w3 (.slice ka kn kc) l0) (h1:NdAt (Up B) w3 (.agg #[.int .u8 rk,.int .i64 0,.string rs,.slice ra rn rc]) r) (h2:KidsAt (Up B) w3 (.slice ja jn jc) l2) (z0:l0.length≤100000) (z2:l2.length≤100000):
 Calls Tryz.prog 68 #[.slice (some ⟨w3.heap.size+1,0,none⟩) 3 3] ((w3.alloc (.cells #[.int .u8 rk,.int .i64 0,.string rs,.slice ra rn rc] 34)).alloc (.cells #[.slice ka kn kc,.slice (some ⟨w3.heap.size,0,none⟩) 1 1,.slice ja jn jc] 32)) fun e w'=>∃ a n c,e=.returned (.slice a n c)∧RowsAt NdE (Up B) w' (.slice a n c) (l0 ++ [r] ++ l2)∧Below w3.heap.size w3 w':=by
 have hb1:Below w3.heap.size w3 (w3.alloc (.cells #[.int .u8 rk,.int .i64 0,.string rs,.slice ra rn rc] 34)):=(Below.refl _ _).alloc (Nat.le_refl _) _
 have hb2:Below (w3.alloc (.cells #[.int .u8 rk,.int .i64 0,.string rs,.slice ra rn rc] 34)).heap.size (w3.alloc (.cells #[.int .u8 rk,.int .i64 0,.string rs,.slice ra rn rc] 34)) ((w3.alloc (.cells #[.int .u8 rk,.int .i64 0,.string rs,.slice ra rn rc] 34)).alloc (.cells #[.slice ka kn kc,.slice (some ⟨w3.heap.size,0,none⟩) 1 1,.slice ja jn jc] 32)):=(Below.refl _ _).alloc (Nat.le_refl _) _
 have hb:=hb1.trans (hb2.mono hb1.size)
 refine (zlD _ _ _ _ l0 [r] l2 (Up B) _ (zaj (by simp)) (zar.1 (h0.stays (Stays.of_below hb))) (zar.1 ((zbi (A:=Up B) (heap_alloc_new w3 _) hB (h1.stays (Stays.of_below hb1))).stays (Stays.of_below hb2))) (zar.1 (h2.stays (Stays.of_below hb))) z0 (by simp) z2).mono fun e w' ⟨a,n,c,he,hr,hbb⟩=>⟨a,n,c,he,hr.stays (zbz (by simp;omega)),hb.trans (hbb.mono hb.size)⟩
def InvB (l:List Nd) (A:Nat→Prop) (w:World) (e:Ending) (w':World):Prop:=∃ a n c,e=.returned (.agg #[.int .u8 57,.int .i64 0,.string ⟨#[]⟩,.slice a n c])∧NdAt (NewB A w) w' (.agg #[.int .u8 57,.int .i64 0,.string ⟨#[]⟩,.slice a n c]) (blockN l)∧Below w.heap.size w w'
theorem zlO (ts:List Par) (pa:Option Addr) (pc:Nat) (ka:Option Addr) (kn kc:Nat) (l:List Nd) (A:Nat→Prop) (w:World) (hp:ParsAt Any w (.slice pa ts.length pc) ts) (hv:NdAt A w (.agg #[.int .u8 57,.int .i64 0,.string ⟨#[]⟩,.slice ka kn kc]) (blockN l)) (hl:ts.length≤100000):
 Calls Tryz.prog 85 #[.slice pa ts.length pc,.agg #[.int .u8 57,.int .i64 0,.string ⟨#[]⟩,.slice ka kn kc]] w fun e w'=>∃ a n c,e=.returned (.agg #[.int .u8 57,.int .i64 0,.string ⟨#[]⟩,.slice a n c])∧NdAt (NewB A w) w' (.agg #[.int .u8 57,.int .i64 0,.string ⟨#[]⟩,.slice a n c]) (localsN ts (blockN l))∧Below w.heap.size w w':=
 (zmk ts pa pc _ (blockN l) A w hp hv hl).mono fun e w' ⟨u,he,hn,hb⟩=>by
   obtain ⟨l',hl'⟩:=zea ts l
   rw [hl'] at hn ⊢
   obtain ⟨a,c,rfl⟩:=hn.form
   exact ⟨a,_,c,he,hn,hb⟩
theorem zma {g:AFn} {pa ta ba:Option Addr} {pc tc bc:Nat} {w w4 w5 w6 wx:World} {g9:Nat} {a:Option Addr} {n c:Nat} (h:wx.heap[g9]?=some (.cells #[.int .u8 57,.int .i64 0,.string ⟨#[]⟩,.slice a n c] 34 (0,0))) (hk:NdAt (NewB (fun b=>Up (w.heap.size+2) b∧b < w4.heap.size) w5) w6 (.agg #[.int .u8 57,.int .i64 0,.string ⟨#[]⟩,.slice a n c]) (procB g)) (h5:w.heap.size+2≤w5.heap.size) (hg:w6.heap.size≤g9) (hx:Below w6.heap.size w6 wx) (hb:PBox g pa ta ba pc tc bc w wx) (hB:Below w.heap.size w wx):
 CutB g pa ta ba pc tc bc w (.pointer (some ⟨g9,0,none⟩)) wx:=
 ⟨g9,a,n,c,rfl,h,hk.stays ⟨hx.size,fun b hb a=>⟨hx.block b hb,by rcases a with a|a;exact a.1;exact Nat.le_trans h5 a,by omega⟩⟩,hb,hB⟩
theorem zmh {g:AFn} {pa ta ba:Option Addr} {pc tc bc:Nat} {w w4 w5 w6 wx:World} {g9:Nat} {a:Option Addr} {n c:Nat} (h:wx.heap[g9]?=some (.cells #[.int .u8 0,.int .i64 0,.string ⟨#[]⟩,.slice none 0 0] 34)) (hk:NdAt (NewB (fun b=>Up (w.heap.size+2) b∧b < w4.heap.size) w5) w6 (.agg #[.int .u8 57,.int .i64 0,.string ⟨#[]⟩,.slice a n c]) (procB g)) (h5:w.heap.size+2≤w4.heap.size) (h4:w4.heap.size≤g9) (hg:g9 < w5.heap.size) (hx:Below w6.heap.size w6 wx) (hb:PBox g pa ta ba pc tc bc w wx) (hB:Below w.heap.size w wx):
 CutB g pa ta ba pc tc bc w (.pointer (some ⟨g9,0,none⟩)) ((((wx.setCell ⟨g9,0,none⟩ (.int .u8 57)).setCell ⟨g9,1,none⟩ (.int .i64 0)).setCell ⟨g9,2,none⟩ (.string ⟨#[]⟩)).setCell ⟨g9,3,none⟩ (.slice a n c)):=by
 have hK4:=(((zaf wx g9 0 (.int .u8 57)).same (zaf _ g9 1 (.int .i64 0))).same (zaf _ g9 2 (.string ⟨#[]⟩))).same (zaf _ g9 3 (.slice a n c))
 refine ⟨g9,a,n,c,rfl,set4 h _ _ _ _,(hk.stays (A':=fun b=>Up (w.heap.size+2) b∧b≠g9) ⟨hx.size,fun b hb a=>⟨hx.block b hb,?_⟩⟩).stays ⟨hK4.size,fun b hb a=>⟨hK4.block b hb a.2,a⟩⟩,⟨zaN hb.1 (by omega),zaN hb.2 (by omega)⟩,zaq hB (by omega)⟩
 rcases a with a|a
 · exact ⟨a.1,by have:=a.2;omega⟩
 · exact ⟨by unfold Up;omega,by omega⟩
theorem znh (g:AFn) (lib:List Fn) (pa ta ba:Option Addr) (pc tc bc:Nat) (w:World) (hp:ParsAt Any w (.slice pa g.params.length pc) g.params) (ht:ParsAt Any w (.slice ta g.temps.length tc) g.temps) (hb:BdsAt Any w (.slice ba g.body.length bc) g.body) (hr:g.result.size≤maxLen)
 (hg:GoodBs lib g.body) (hz:sizeBs g.body≤10000) (htl:g.temps.length≤4000) (hpl:g.params.length≤8) (hsz:sizeN (procB g)≤1000000):
 Calls Tryz.prog 43 #[.agg #[.string g.name,.slice pa g.params.length pc,.bool g.list,.slice ta g.temps.length tc,.slice ba g.body.length bc,.string g.result]] w (ProcPost g w):=by
 have hcs:=zbY lib selfF (fun _=>by simp [selfF]) g.body hg hz
 have hbl:(bindsN selfF g.body).length≤20000:=by have:=zbq selfF g.body;have:=zaV g.body;omega
 have HINV:Hid (∀ (ka:Option Addr) (kn kc:Nat) (A:Nat→Prop) (w:World),NdAt A w (.agg #[.int .u8 57,.int .i64 0,.string ⟨#[]⟩,.slice ka kn kc]) (blockN (bindsN selfF g.body))→Calls Tryz.prog 83 #[.agg #[.int .u8 57,.int .i64 0,.string ⟨#[]⟩,.slice ka kn kc]] w (InvB (invL (bindsN selfF g.body)).reverse A w)):=Lib.hid (fun ka kn kc A w hv=>(zcw _ (fun s hs=>zjQ (hcs s hs)) (by omega) _ A w hv).mono fun e w' ⟨a,c,he,hn,hb⟩=>⟨a,_,c,he,hn,hb⟩)
 have hA1:Below w.heap.size w (w.alloc (.cells #[.string g.name,.slice pa g.params.length pc,.bool g.list,.slice ta g.temps.length tc,.slice ba g.body.length bc,.string g.result] 44)):=(Below.refl _ _).alloc (Nat.le_refl _) _
 have hA:Below w.heap.size w ((w.alloc (.cells #[.string g.name,.slice pa g.params.length pc,.bool g.list,.slice ta g.temps.length tc,.slice ba g.body.length bc,.string g.result] 44)).alloc (.cells #[.string ⟨#[]⟩,.slice none 0 0,.int .u8 0,.int .i64 0,.string ⟨#[]⟩,.slice none 0 0] 83)):=hA1.alloc hA1.size _
 have HBX:Hid (PBox g pa ta ba pc tc bc w ((w.alloc (.cells #[.string g.name,.slice pa g.params.length pc,.bool g.list,.slice ta g.temps.length tc,.slice ba g.body.length bc,.string g.result] 44)).alloc (.cells #[.string ⟨#[]⟩,.slice none 0 0,.int .u8 0,.int .i64 0,.string ⟨#[]⟩,.slice none 0 0] 83))):=Lib.hid ⟨zaI w (.cells #[.string g.name,.slice pa g.params.length pc,.bool g.list,.slice ta g.temps.length tc,.slice ba g.body.length bc,.string g.result] 44) (.cells #[.string ⟨#[]⟩,.slice none 0 0,.int .u8 0,.int .i64 0,.string ⟨#[]⟩,.slice none 0 0] 83),zaw w (.cells #[.string g.name,.slice pa g.params.length pc,.bool g.list,.slice ta g.temps.length tc,.slice ba g.body.length bc,.string g.result] 44) (.cells #[.string ⟨#[]⟩,.slice none 0 0,.int .u8 0,.int .i64 0,.string ⟨#[]⟩,.slice none 0 0] 83)⟩
 have HSZ:Hid (((w.alloc (.cells #[.string g.name,.slice pa g.params.length pc,.bool g.list,.slice ta g.temps.length tc,.slice ba g.body.length bc,.string g.result] 44)).alloc (.cells #[.string ⟨#[]⟩,.slice none 0 0,.int .u8 0,.int .i64 0,.string ⟨#[]⟩,.slice none 0 0] 83)).heap.size=w.heap.size+1+1):=Lib.hid (by simp)
 have HP:=Lib.hid hp
 have HT:=Lib.hid ht
 have HCO:=Lib.hid (fun (w1:World) (h:Below w.heap.size w w1)=>zeY g pa ta ba pc tc bc _ selfF w1 (hb.stays (Stays.of_below h)) (zlK w1) (by omega))
 clear hA1 hcs hp ht hb hg
 go_enter Tryz.func43,Tryz.ntmps43
 go_wp2_with fail
 generalize ((w.alloc (.cells #[.string g.name,.slice pa g.params.length pc,.bool g.list,.slice ta g.temps.length tc,.slice ba g.body.length bc,.string g.result] 44)).alloc (.cells #[.string ⟨#[]⟩,.slice none 0 0,.int .u8 0,.int .i64 0,.string ⟨#[]⟩,.slice none 0 0] 83))=W at *
 refine (HCO.out _ hA).mono ?_
 rintro e w1 ⟨ka,kn,kc,rfl,hk1,hb1⟩
 have hA1:Below w.heap.size w w1:=hA.trans (hb1.mono hA.size)
 have hk1':KidsAt (Up (w.heap.size+2)) w1 (.slice ka kn kc) (bindsN selfF g.body):=hk1.stays (zaJ (by have:=HSZ.out;omega))
 have HK1:=Lib.hid hk1'
 have hb1a:Below w1.heap.size w1 (w1.alloc (.cells #[.int .u8 57,.int .i64 0,.string ⟨#[]⟩,.slice ka kn kc] 34)):=(Below.refl _ _).alloc (Nat.le_refl _) _
 have HI:=Lib.hid (HINV.out ka kn kc (Up (w.heap.size+2)) (w1.alloc (.cells #[.int .u8 57,.int .i64 0,.string ⟨#[]⟩,.slice ka kn kc] 34)) ((zam (k:=57) (s:=⟨#[]⟩) hk1' (by omega) (Nat.zero_le _)).stays (Stays.of_below hb1a)))
 clear hk1 hk1'
 go_wp2_with fail
 refine HI.out.mono ?_
 rintro e w2 ⟨ja,jn,jc,rfl,hk2,hb2⟩
 have hb12:Below w1.heap.size w1 w2:=hb1a.trans (hb2.mono hb1a.size)
 have hs1:=hb1.size
 have hs2:=hb12.size
 have hzz:=HSZ.out
 have hA2:Below w.heap.size w w2:=hA1.trans (hb12.mono hA1.size)
 have HK2:Hid (KidsAt (Up (w.heap.size+2)) w2 (.slice ja jn jc) (invL (bindsN selfF g.body)).reverse):=Lib.hid ((ndKids hk2).stays (zbz (by simp;omega)))
 have HO1:Hid (w2.heap[w1.heap.size]?=some (.cells #[.int .u8 57,.int .i64 0,.string ⟨#[]⟩,.slice ka kn kc] 34)):=Lib.hid (zad hb2 (zaj rfl))
 clear hk2 HI HINV
 go_wp2
 have HO2:Hid ((w2.alloc (.cells #[.int .u8 57,.int .i64 0,.string ⟨#[]⟩,.slice ja jn jc] 34)).heap[w2.heap.size]?=some (.cells #[.int .u8 57,.int .i64 0,.string ⟨#[]⟩,.slice ja jn jc] 34)):=Lib.hid (zaj rfl)
 have hb2a:Below w2.heap.size w2 (w2.alloc (.cells #[.int .u8 57,.int .i64 0,.string ⟨#[]⟩,.slice ja jn jc] 34)):=(Below.refl _ _).alloc (Nat.le_refl _) _
 have HS6:Hid (∀ w1',Below (w2.alloc (.cells #[.int .u8 57,.int .i64 0,.string ⟨#[]⟩,.slice ja jn jc] 34)).heap.size (w2.alloc (.cells #[.int .u8 57,.int .i64 0,.string ⟨#[]⟩,.slice ja jn jc] 34)) w1'→(fun w1'=>w1'.cell? ⟨w.heap.size,0,none⟩=some (.string g.name)∧w1'.cell? ⟨w.heap.size,1,none⟩=some (.slice pa g.params.length pc)∧w1'.cell? ⟨w.heap.size,2,none⟩=some (.bool g.list)∧w1'.cell? ⟨w.heap.size,3,none⟩=some (.slice ta g.temps.length tc)∧w1'.cell? ⟨w.heap.size,4,none⟩=some (.slice ba g.body.length bc)∧w1'.cell? ⟨w.heap.size,5,none⟩=some (.string g.result)∧w1'.cell? ⟨w1.heap.size,3,none⟩=some (.slice ka kn kc)∧w1'.cell? ⟨w2.heap.size,3,none⟩=some (.slice ja jn jc)) w1'):=Lib.hid (fun w1' hw=>by
  have hw2:Below w2.heap.size w2 w1':=hb2a.trans (hw.mono hb2a.size)
  obtain ⟨f0,f1,f2,f3,f4,f5⟩:=cells6 (zad hw2 (zad hb12 (zad hb1 HBX.out.1)))
  exact ⟨f0,f1,f2,f3,f4,f5,(cells4 (zad hw2 HO1.out)).2.2.2,(cells4 (zad hw HO2.out)).2.2.2⟩)
 generalize hw2b:(w2.alloc (.cells #[.int .u8 57,.int .i64 0,.string ⟨#[]⟩,.slice ja jn jc] 34))=w2b at *
 have hb22:Below w2.heap.size w2 w2b:=hb2a
 have hs2b:=hb22.size
 go_region_held3 (fun w1'=>w1'.cell? ⟨w.heap.size,0,none⟩=some (.string g.name)∧w1'.cell? ⟨w.heap.size,1,none⟩=some (.slice pa g.params.length pc)∧w1'.cell? ⟨w.heap.size,2,none⟩=some (.bool g.list)∧w1'.cell? ⟨w.heap.size,3,none⟩=some (.slice ta g.temps.length tc)∧w1'.cell? ⟨w.heap.size,4,none⟩=some (.slice ba g.body.length bc)∧w1'.cell? ⟨w.heap.size,5,none⟩=some (.string g.result)∧w1'.cell? ⟨w1.heap.size,3,none⟩=some (.slice ka kn kc)∧w1'.cell? ⟨w2.heap.size,3,none⟩=some (.slice ja jn jc))
  (with_reducible exact HS6.out _ (by (repeat (with_reducible first|exact Below.refl _ _|refine zab ?_|refine zaa ?_|(apply zac;focus assumption)))))
  (first
  | (go_at_call 84;refine (zmP g pa ta ba pc tc bc _ hr).mono ?_;rintro e w3 ⟨rk,ra,rn,rc,rfl,hk3,hb3⟩;have hw3:Below w2b.heap.size w2b w3:=(by (repeat (with_reducible first|exact Below.refl _ _|refine zab ?_|refine zaa ?_|(apply zac;focus assumption))));have HW23:=Lib.hid (hb22.trans (hw3.mono hb22.size));have HW13:=Lib.hid (hb12.trans (HW23.out.mono hb12.size));have hs3:=HW23.out.size;have HK3:Hid (NdAt (Up (w.heap.size+2)) w3 (.agg #[.int .u8 rk,.int .i64 0,.string (resultN g).name,.slice ra rn rc]) (resultN g)):=Lib.hid (hk3.stays (zaJ (by simp;omega))))
  | (go_at_call 68;refine (zie (w.heap.size+2) w3 rk (resultN g).name ka ja ra kn kc jn jc rn rc (bindsN selfF g.body) (invL (bindsN selfF g.body)).reverse (resultN g) (by omega) (HK1.out.stays (Stays.of_below HW13.out)) HK3.out (HK2.out.stays (Stays.of_below HW23.out)) (by omega) (by rw [List.length_reverse,zee];omega)).mono ?_;rintro e w4 ⟨xa,xn,xc,rfl,hk4,hb4⟩))
 all_goals
  have hbb4:Below W.heap.size W w4:=(hb1.trans ((hb12.trans ((HW23.out.trans (hb4.mono HW23.out.size)).mono hb12.size)).mono hb1.size))
  have HBX4:Hid (PBox g pa ta ba pc tc bc w w4):=Lib.hid ⟨zad hbb4 HBX.out.1,zad hbb4 HBX.out.2⟩
  have hA4:Below w.heap.size w w4:=hA.trans (hbb4.mono hA.size)
  have hs4:=hbb4.size
  have HA4:=Lib.hid hA4
  have HND4:Hid (NdAt (fun b=>Up (w.heap.size+2) b∧b < w4.heap.size) w4 (.agg #[.int .u8 57,.int .i64 0,.string ⟨#[]⟩,.slice xa xn xc]) (blockN (bindsN selfF g.body ++ [resultN g] ++ (invL (bindsN selfF g.body)).reverse))):=Lib.hid (zam (k:=57) ((zar.2 hk4).stays ⟨Nat.le_refl _,fun b hb a=>⟨rfl,a,hb⟩⟩) (by omega) (Nat.zero_le _))
  go_wp2
  clear hb1 hb12 hb1a hb2 hb2a hb22 hw3 hb3 hb4 hbb4 hA1 hA2 hk3 hk4 HS6 HK1 HK2 HK3 HO1 HO2 HW23 HW13 hA hA4 hw2b hs3
  have HS7:Hid (∀ w1',Below w4.heap.size w4 w1'→w1'.cell? ⟨w.heap.size,3,none⟩=some (.slice ta g.temps.length tc)):=Lib.hid (fun w1' hw=>(cells6 (zad hw HBX4.out.1)).2.2.2.1)
  go_cut [9] (fun s wx=>CutB g pa ta ba pc tc bc w s wx)
  case first=>
   go_region_held3 (fun w1'=>w1'.cell? ⟨w.heap.size,3,none⟩=some (.slice ta g.temps.length tc))
    (with_reducible exact HS7.out _ (by (repeat (with_reducible first|exact Below.refl _ _|refine zab ?_|refine zaa ?_|(refine zaq ?_ ?_;rotate_left;(focus (first|exact Nat.le_refl _|exact Below.size (by (repeat (with_reducible first|exact Below.refl _ _|refine zab ?_|refine zaa ?_|(apply zac;focus assumption)))))))|(apply zac;focus assumption)))))
    (first
    | (go_at_call 86;refine (zcr _ _ _ _).mono ?_;rintro e w5 ⟨rfl,hb5⟩)
    | (go_at_call 85;refine (zlO g.temps ta tc xa xn xc _ (fun b=>Up (w.heap.size+2) b∧b < w4.heap.size) _ (HT.out.stays (Stays.of_below (HA4.out.trans (Below.mono (by (repeat (with_reducible first|exact Below.refl _ _|refine zab ?_|refine zaa ?_|(apply zac;focus assumption)))) HA4.out.size)))) (HND4.out.stays (Stays.of_below (by (repeat (with_reducible first|exact Below.refl _ _|refine zab ?_|refine zaa ?_|(apply zac;focus assumption)))))) (by omega)).mono ?_;rintro e w6 ⟨ya,yn,yc,rfl,hk6,hb6⟩;(first|(refine zbn w6 w4.heap.size ?_ (fun g0 g1 g2 g3 gf=>?_);focus ((repeat (with_reducible first|(refine zaj ?_;(simp;done))|refine zai ?_|refine zag ?_|(apply zad;focus assumption)));done))|skip);(first|(refine zbn w6 w5.heap.size ?_ (fun g0 g1 g2 g3 gf=>?_);focus ((repeat (with_reducible first|(refine zaj ?_;(simp;done))|refine zai ?_|refine zag ?_|(apply zad;focus assumption)));done))|skip)))
   all_goals
    have hz5:=hb5.size
    have hz6:=hb6.size
    simp only [World.size_alloc,World.size_drew] at hz5 hz6
    have hzz:=HSZ.out
    go_wp2
    go_meet
    first
    | ((with_reducible refine zma ?_ hk6 ?_ ?_ ?_ ?_ ?_);(focus ((repeat (with_reducible first|(refine zaj ?_;(simp;done))|refine zai ?_|refine zag ?_|(apply zad;focus assumption)));done));(focus (first|omega|(simp;done)|(simp;omega)));(focus (first|exact Nat.le_refl _|(simp;done)));(focus ((repeat (with_reducible first|exact Below.refl _ _|refine zab ?_|refine zaa ?_|(apply zac;focus assumption)));done));(focus exact ⟨zad (by (repeat (with_reducible first|exact Below.refl _ _|refine zab ?_|refine zaa ?_|(apply zac;focus assumption)))) HBX4.out.1,zad (by (repeat (with_reducible first|exact Below.refl _ _|refine zab ?_|refine zaa ?_|(apply zac;focus assumption)))) HBX4.out.2⟩);(focus exact HA4.out.trans (Below.mono (by (repeat (with_reducible first|exact Below.refl _ _|refine zab ?_|refine zaa ?_|(apply zac;focus assumption)))) HA4.out.size)))
    | ((with_reducible refine zmh ?_ hk6 ?_ ?_ ?_ ?_ ?_ ?_);(focus ((repeat (with_reducible first|(refine zaj ?_;(simp;done))|refine zai ?_|refine zag ?_|(apply zad;focus assumption)));done));(focus omega);(focus omega);(focus (first|omega|(simp;done)|(simp;omega)));(focus ((repeat (with_reducible first|exact Below.refl _ _|refine zab ?_|refine zaa ?_|(apply zac;focus assumption)));done));(focus exact ⟨zad (by (repeat (with_reducible first|exact Below.refl _ _|refine zab ?_|refine zaa ?_|(apply zac;focus assumption)))) HBX4.out.1,zad (by (repeat (with_reducible first|exact Below.refl _ _|refine zab ?_|refine zaa ?_|(apply zac;focus assumption)))) HBX4.out.2⟩);(focus exact HA4.out.trans (Below.mono (by (repeat (with_reducible first|exact Below.refl _ _|refine zab ?_|refine zaa ?_|(apply zac;focus assumption)))) HA4.out.size)))
  case rest=>
   obtain ⟨gb,ya,yn,yc,rfl,hG,hN,hPB,hBw⟩:=hcut
   have HG:=Lib.hid hG
   have HN:=Lib.hid hN
   have HPB:=Lib.hid hPB
   have HBw:=Lib.hid hBw
   obtain ⟨f0,f1,f2,f3,f4,f5⟩:=cells6 hPB.1
   clear hG hN hPB hBw HS7 HND4 HBX4 HA4 HBX hs4
   have HPC:=Lib.hid (zfy g pa ta ba pc tc bc wc (HP.out.stays (Stays.of_below HBw.out)) (by omega))
   have hpn:(paramsN g).length≤9:=by simp [paramsN];omega
   go_wp2_with fail
   refine HPC.out.mono ?_
   rintro e w7 ⟨va,vc,rfl,hv7,hb7⟩
   have HV7:=Lib.hid hv7
   obtain ⟨g0,g1,g2,g3⟩:=cells4 (zad hb7 HG.out)
   have HD7:=Lib.hid (zdT (procB g) _ _ w7 hsz (HN.out.stays (Stays.of_below hb7)))
   clear hv7 f0 f1 f2 f3 f4 f5
   go_wp2_with fail
   refine HD7.out.mono ?_
   rintro e w8 ⟨rfl,hb8⟩
   have hb78:Below wc.heap.size wc w8:=hb7.trans (hb8.mono hb7.size)
   obtain ⟨p0,p1,p2,p3⟩:=cells4 (zad hb78 HG.out)
   have HS8:=Lib.hid (zeM (procB g) _ _ w8 hsz (HN.out.stays (Stays.of_below hb78)))
   obtain ⟨z0,z1,z2,z3,z4,z5⟩:=cells6 (zad hb78 HPB.out.2)
   have zf:=unfrozen (zad hb78 HPB.out.2)
   clear g0 g1 g2 g3
   by_cases h80:80 < depthN (procB g)
   · have d80:decide ((80:Int) < (depthN (procB g):Int))=true:=by simp;omega
     have HH:=Lib.hid h80
     clear h80
     go_wp2
     (try simp only [Exit.inBlock,Exit.then])
     refine bodyPost_ret (zak (P:=Tryz.prog) rfl _ _ (w.heap.size+1) _ _ _ _ _ rfl (set6 (zad hb78 HPB.out.2) _ _ _ _ _ _) rfl Tryz.underlying83 rfl (by kernel_rfl)) rfl ?_
     exact ⟨zau (HBw.out.trans (hb78.mono HBw.out.size)) (by omega),fun _=>rfl,fun h=>absurd HH.out h,fun h=>absurd HH.out h⟩
   · have d80:decide ((80:Int) < (depthN (procB g):Int))=false:=by simp;omega
     have HH:=Lib.hid h80
     clear h80
     go_wp2_with fail
     refine HS8.out.mono ?_
     rintro e w9 ⟨rfl,hb9⟩
     have hb79:Below wc.heap.size wc w9:=hb78.trans (hb9.mono hb78.size)
     obtain ⟨z0,z1,z2,z3,z4,z5⟩:=cells6 (zad hb79 HPB.out.2)
     have zf:=unfrozen (zad hb79 HPB.out.2)
     obtain ⟨q0,q1,q2,q3⟩:=cells4 (zad hb79 HG.out)
     obtain ⟨f0,f1,f2,f3,f4,f5⟩:=cells6 (zad hb79 HPB.out.1)
     have ff:=unfrozen (zad hb79 HPB.out.1)
     by_cases hs:2000 < sizeN (procB g)
     · have d:decide ((2000:Int) < (sizeN (procB g):Int))=true:=by simp;omega
       have HQ:Hid (2000 < sizeN (procB g)∨8 < (paramsN g).length):=Lib.hid (.inl hs)
       clear hs
       go_wp2
       (try simp only [Exit.inBlock,Exit.then])
       refine bodyPost_ret (zak (P:=Tryz.prog) rfl _ _ (w.heap.size+1) _ _ _ _ _ rfl (set6 (zad hb79 HPB.out.2) _ _ _ _ _ _) rfl Tryz.underlying83 rfl (by kernel_rfl)) rfl ?_
       exact ⟨zau (HBw.out.trans (hb79.mono HBw.out.size)) (by omega),fun h=>absurd h HH.out,fun _ _=>rfl,fun _ h=>absurd HQ.out h⟩
     · have d:decide ((2000:Int) < (sizeN (procB g):Int))=false:=by simp;omega
       by_cases hl:8 < (paramsN g).length
       · have d2:decide ((8:Int) < ((paramsN g).length:Int))=true:=by simp;omega
         have HQ:Hid (2000 < sizeN (procB g)∨8 < (paramsN g).length):=Lib.hid (.inr hl)
         clear hs hl
         go_wp2
         (try simp only [Exit.inBlock,Exit.then])
         refine bodyPost_ret (zak (P:=Tryz.prog) rfl _ _ (w.heap.size+1) _ _ _ _ _ rfl (set6 (zad hb79 HPB.out.2) _ _ _ _ _ _) rfl Tryz.underlying83 rfl (by kernel_rfl)) rfl ?_
         exact ⟨zau (HBw.out.trans (hb79.mono HBw.out.size)) (by omega),fun h=>absurd h HH.out,fun _ _=>rfl,fun _ h=>absurd HQ.out h⟩
       · have d2:decide ((8:Int) < ((paramsN g).length:Int))=false:=by simp;omega
         have HQ:Hid (¬ (2000 < sizeN (procB g)∨8 < (paramsN g).length)):=Lib.hid (by omega)
         clear hs hl
         go_wp2
         (try simp only [Exit.inBlock,Exit.then])
         refine bodyPost_ret (zak (P:=Tryz.prog) rfl _ _ (w.heap.size+1) _ _ _ _ _ rfl (set6 (zad hb79 HPB.out.2) _ _ _ _ _ _) rfl Tryz.underlying83 rfl (by kernel_rfl)) rfl ?_
         have hbw:=HBw.out
         have hsz2:=hbw.size
         have hzl:w.heap.size+1 < wc.heap.size:=by have h:=HPB.out.2;rw [Array.getElem?_eq_some_iff] at h;exact h.1
         have hK:=zbU w9 (w.heap.size+1) (.string g.name) (.slice va (paramsN g).length vc) (.int .u8 57) (.int .i64 0) (.string ⟨#[]⟩) (.slice ya yn yc)
         have hb89:Below w7.heap.size w7 w9:=hb8.trans (hb9.mono hb8.size)
         refine ⟨zau (hbw.trans (hb79.mono hbw.size)) (by omega),fun h=>absurd h HH.out,fun _ h=>absurd h HQ.out,fun _ _=>⟨_,_,_,_,_,rfl,?_,?_⟩⟩
         · exact ((HV7.out.stays (Stays.of_below hb89)).stays (zjn hK (fun k hk _ e=>by have:wc.heap.size≤k:=hk;omega))).young (fun k _ hk=>by have:wc.heap.size≤k:=hk;unfold Up;omega)
         · exact (HN.out.stays (Stays.of_below hb79)).stays ⟨hK.size,fun b hb a=>⟨hK.block b hb (fun e=>by have:w.heap.size+2≤b:=a.1;omega),by have:w.heap.size+2≤b:=a.1;unfold Up;omega⟩⟩
end Go.Proofs.YtpobmoegmdhbpaaGreatDoor
