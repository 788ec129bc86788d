/- Contracts and plain lemmas (InvA, InvB0, InvB, InvC): no statement of the seat is proved here. -/
import Derived.Test.YtpobmoegmdhbpaaGreatDoorXq13
import Derived.Test.YtpobmoegmdhbpaaGreatDoorXq15
import Derived.Deep.DeepCutAuto
import Derived.RegionTactic
import Derived.BigRegion
/- The inverter:the state of invert's loop,exchanged,Reverse of at most one. -/
set_option linter.unusedSimpArgs false
set_option linter.unusedVariables false
set_option linter.unusedSectionVars false
set_option maxRecDepth 100000
set_option maxHeartbeats 25600000
namespace Go.Proofs.YtpobmoegmdhbpaaGreatDoor
open Go.RowKit
theorem zhM (k k':Int) (w:World) (h:k=40∧k'=41∨k=44∧k'=45∨k=45∧k'=44):Calls Tryz.prog 218 #[.int .u8 k] w fun e w'=>e=.returned (.int .u8 k')∧w=w':=by
 rcases h with ⟨rfl,rfl⟩|⟨rfl,rfl⟩|⟨rfl,rfl⟩
 all_goals
  go_enter Tryz.func218,Tryz.ntmps218
  go_wp2
  go_ret
  exact ⟨rfl,rfl⟩
theorem zht (a:Option Addr) (c:Nat) (w:World):Calls Tryz.prog 217 #[.slice a 1 c] w fun e w'=>e=.returned (.tuple #[])∧w=w':=by
 go_enter Tryz.func217,Tryz.ntmps217
 go_wp2
 go_loop [2,3] (fun i j=>i=.int .i64 0∧j=.int .i64 0) (fun _ _=>0)
 case atStart=>exact ⟨rfl,rfl⟩
 case round=>
  obtain ⟨rfl,rfl⟩:=hrel
  go_wp2
  go_end0
  exact ⟨rfl,rfl⟩
def IV (w:World) (g5 gk b:Nat):Prop:=w.heap.size+2≤b∧b≠g5∧b≠gk
structure InvSt (n:Nd) (ka:Option Addr) (kc:Nat) (w:World) (g5 gk:Nat) (rk:List Nd) (k:Nat) (cur:Array Value) (wr:World):Prop where
 box:wr.heap[w.heap.size]?=some (.cells #[.int .u8 n.kind,.int .i64 n.num,.string n.name,.slice ka n.kids.length kc] 34 (0,0))
 zero:wr.heap[w.heap.size+1]?=some (.cells #[.int .u8 0,.int .i64 0,.string ⟨#[]⟩,.slice none 0 0] 34 (0,0))
 m:wr.heap[g5]?=some (.cells #[.int .u8 n.kind,.int .i64 n.num,.string n.name,.slice (some ⟨gk,0,none⟩) n.kids.length n.kids.length] 34 (0,0))
 row:wr.heap[gk]?=some (.cells cur 34 (0,0))
 size:cur.size=n.kids.length * 4
 el:∀ j,j < k→NdC (IV w g5 gk) wr (fun i=>cur.getD (j * 4+i) undef) (at' rk j)
 ne:g5≠gk
 h5:w.heap.size+2≤g5
 hk:w.heap.size+2≤gk
 below:Below w.heap.size w wr
theorem zfx {w:World} {g e o:Nat} {cur:Array Value} (h:w.heap[g]?=some (.cells cur e (0,0))) (x0 x1 x2 x3:Value):
 ((((w.setCell ⟨g,o,none⟩ x0).setCell ⟨g,o+1,none⟩ x1).setCell ⟨g,o+2,none⟩ x2).setCell ⟨g,o+3,none⟩ x3).heap[g]?=some (.cells ((((cur.setIfInBounds o x0).setIfInBounds (o+1) x1).setIfInBounds (o+2) x2).setIfInBounds (o+3) x3) e (0,0)):=
 heap_setCell_same _ g (o+3) _ _ x3 (heap_setCell_same _ g (o+2) _ _ x2 (heap_setCell_same _ g (o+1) _ _ x1 (heap_setCell_same w g o _ _ x0 h)))
theorem zcL (w:World) (g o:Nat) (x0 x1 x2 x3:Value):Keeps w ((((w.setCell ⟨g,o,none⟩ x0).setCell ⟨g,o+1,none⟩ x1).setCell ⟨g,o+2,none⟩ x2).setCell ⟨g,o+3,none⟩ x3) (fun b=>b=g):=
 (((zaf w g o x0).same (zaf _ g (o+1) x1)).same (zaf _ g (o+2) x2)).same (zaf _ g (o+3) x3)
theorem zkj {cur:Array Value} {o:Nat} (x0 x1 x2 x3:Value) (h:o+3 < cur.size):
 (∀ i,i < o→((((cur.setIfInBounds o x0).setIfInBounds (o+1) x1).setIfInBounds (o+2) x2).setIfInBounds (o+3) x3).getD i undef=cur.getD i undef)∧
 ((((cur.setIfInBounds o x0).setIfInBounds (o+1) x1).setIfInBounds (o+2) x2).setIfInBounds (o+3) x3).getD (o+0) undef=x0∧((((cur.setIfInBounds o x0).setIfInBounds (o+1) x1).setIfInBounds (o+2) x2).setIfInBounds (o+3) x3).getD (o+1) undef=x1∧
 ((((cur.setIfInBounds o x0).setIfInBounds (o+1) x1).setIfInBounds (o+2) x2).setIfInBounds (o+3) x3).getD (o+2) undef=x2∧((((cur.setIfInBounds o x0).setIfInBounds (o+1) x1).setIfInBounds (o+2) x2).setIfInBounds (o+3) x3).getD (o+3) undef=x3:=by
 refine ⟨fun i hi=>?_,?_,?_,?_,?_⟩
 · simp only [Array.getD_eq_getD_getElem?]
   rw [Array.getElem?_setIfInBounds_ne (by omega),Array.getElem?_setIfInBounds_ne (by omega),Array.getElem?_setIfInBounds_ne (by omega),Array.getElem?_setIfInBounds_ne (by omega)]
 · simp only [Array.getD_eq_getD_getElem?,Nat.add_zero]
   rw [Array.getElem?_setIfInBounds_ne (by omega),Array.getElem?_setIfInBounds_ne (by omega),Array.getElem?_setIfInBounds_ne (by omega),Array.getElem?_setIfInBounds_self_of_lt (by omega)];rfl
 · simp only [Array.getD_eq_getD_getElem?]
   rw [Array.getElem?_setIfInBounds_ne (by omega),Array.getElem?_setIfInBounds_ne (by omega),Array.getElem?_setIfInBounds_self_of_lt (by simp;omega)];rfl
 · simp only [Array.getD_eq_getD_getElem?]
   rw [Array.getElem?_setIfInBounds_ne (by omega),Array.getElem?_setIfInBounds_self_of_lt (by simp;omega)];rfl
 · simp only [Array.getD_eq_getD_getElem?]
   rw [Array.getElem?_setIfInBounds_self_of_lt (by simp;omega)];rfl
theorem InvSt.step {n:Nd} {ka:Option Addr} {kc:Nat} {w wr w1:World} {g5 gk:Nat} {rk:List Nd} {k:Nat} {cur:Array Value} {a b c d:Value} (h:InvSt n ka kc w g5 gk rk k cur wr) (hk:k < n.kids.length) (hb:Below wr.heap.size wr w1) (hx:NdAt (Up wr.heap.size) w1 (.agg #[a,b,c,d]) (at' rk k)):
 InvSt n ka kc w g5 gk rk (k+1) ((((cur.setIfInBounds (k * 4) a).setIfInBounds (k * 4+1) b).setIfInBounds (k * 4+2) c).setIfInBounds (k * 4+3) d) ((((w1.setCell ⟨gk,k * 4,none⟩ a).setCell ⟨gk,k * 4+1,none⟩ b).setCell ⟨gk,k * 4+2,none⟩ c).setCell ⟨gk,k * 4+3,none⟩ d):=by
 have hK:=zcL w1 gk (k * 4) a b c d
 have hb5:=h.h5
 have hbk:=h.hk
 have lt:∀ {g:Nat} {o:Obj},wr.heap[g]?=some o→g < wr.heap.size:=fun e=>by rw [Array.getElem?_eq_some_iff] at e;exact e.1
 have st:∀ {g:Nat} {o:Obj},wr.heap[g]?=some o→g≠gk→((((w1.setCell ⟨gk,k * 4,none⟩ a).setCell ⟨gk,k * 4+1,none⟩ b).setCell ⟨gk,k * 4+2,none⟩ c).setCell ⟨gk,k * 4+3,none⟩ d).heap[g]?=some o:=fun e hne=>by
  rw [hK.block _ (Nat.lt_of_lt_of_le (lt e) hb.size) hne];exact zad hb e
 have l5:=lt h.m
 have lk:=lt h.row
 have hgd:=zkj a b c d (show k * 4+3 < cur.size by rw [h.size];omega)
 refine ⟨st h.box (by omega),st h.zero (by omega),st h.m h.ne,zfx (zad hb h.row) _ _ _ _,by simp only [Array.size_setIfInBounds];exact h.size,fun j hj=>?_,h.ne,h.h5,h.hk,?_⟩
 · by_cases hjk:j < k
   · refine ((h.el j hjk).stays ⟨Nat.le_trans hb.size hK.size,fun x hx a=>⟨?_,a⟩⟩).congr fun i hi=>hgd.1 _ (by omega)
     rw [hK.block x (Nat.lt_of_lt_of_le hx hb.size) a.2.2];exact hb.block x hx
   · obtain rfl:j=k:=by omega
     obtain ⟨rfl,rfl,rfl,hkk,hok⟩:=zaS hx
     refine ⟨hgd.2.1,hgd.2.2.1,hgd.2.2.2.1,?_,hok⟩
     show KidsAt _ _ (Array.getD _ (j * 4+3) undef) _
     rw [hgd.2.2.2.2]
     refine hkk.stays ⟨hK.size,fun x hx a=>⟨hK.block x hx (fun e=>?_),?_⟩⟩
     · have:wr.heap.size≤x:=a
       omega
     · have:wr.heap.size≤x:=a
       exact ⟨by omega,by omega,by omega⟩
 · refine ((((h.below.trans (hb.mono h.below.size)).setCell (by show w.heap.size≤gk;omega) _).setCell (by show w.heap.size≤gk;omega) _).setCell (by show w.heap.size≤gk;omega) _).setCell (by show w.heap.size≤gk;omega) _
theorem InvSt.kids {n:Nd} {ka:Option Addr} {kc:Nat} {w wr:World} {g5 gk:Nat} {rk:List Nd} {cur:Array Value} (h:InvSt n ka kc w g5 gk rk n.kids.length cur wr) (hl:rk.length=n.kids.length) (hm:n.kids.length≤1000):KidsAt (fun b=>w.heap.size+2≤b∧b≠g5) wr (.slice (some ⟨gk,0,none⟩) n.kids.length n.kids.length) rk:=by
 rw [← hl]
 refine zdl h.row ⟨h.hk,h.ne.symm⟩ (by omega) (fun j hj=>?_)
 have e:=(h.el j (by omega)).stays (A':=fun b=>w.heap.size+2≤b∧b≠g5) ⟨Nat.le_refl _,fun b _ a=>⟨rfl,a.1,a.2.1⟩⟩
 have key:∀ i,i < 4→cur[j * 4+i]?=some (cur.getD (j * 4+i) undef):=fun i hi=>by
  have:j * 4+i < cur.size:=by rw [h.size];omega
  rw [Array.getD_eq_getD_getElem?,Array.getElem?_eq_getElem this];rfl
 refine ⟨_,(key 0 (by omega)).trans (congrArg some e.c0),(key 1 (by omega)).trans (congrArg some e.c1),(key 2 (by omega)).trans (congrArg some e.c2),key 3 (by omega),e.c3,e.ok⟩
end Go.Proofs.YtpobmoegmdhbpaaGreatDoor
/- The inverter:lemmas on the memory of invert. -/
namespace Go.Proofs.YtpobmoegmdhbpaaGreatDoor
open Go.RowKit
def InvCut (n:Nd) (ka:Option Addr) (kc:Nat) (w:World) (rk:List Nd) (s:Value) (wx:World):Prop:=∃ g5 gk cur,s=.pointer (some ⟨g5,0,none⟩)∧InvSt n ka kc w g5 gk rk 0 cur wx
theorem zjl {n:Nd} {ka:Option Addr} {kc:Nat} {w W:World} {rk:List Nd} {Z:Array Value} (hx:W.heap[w.heap.size]?=some (.cells #[.int .u8 n.kind,.int .i64 n.num,.string n.name,.slice ka n.kids.length kc] 34 (0,0))) (hz:W.heap[w.heap.size+1]?=some (.cells #[.int .u8 0,.int .i64 0,.string ⟨#[]⟩,.slice none 0 0] 34 (0,0))) (hs:W.heap.size=w.heap.size+1+1) (hZ:Z.size=n.kids.length * 4) (hb:Below w.heap.size w W):
 InvCut n ka kc w rk (.pointer (some ⟨W.heap.size+1,0,none⟩)) ((W.alloc (.cells Z 34)).alloc (.cells #[.int .u8 n.kind,.int .i64 n.num,.string n.name,.slice (some ⟨W.heap.size,0,none⟩) n.kids.length n.kids.length] 34)).drew:=
 ⟨_,W.heap.size,Z,rfl,zai (zag (zag hx)),zai (zag (zag hz)),zai (zaj (by simp)),zai (zag (zaj rfl)),hZ,fun j hj=>by omega,by omega,by omega,by omega,zab (zaa (zaa hb))⟩
theorem ziU {n:Nd} {ka:Option Addr} {kc:Nat} {w W:World} {rk:List Nd} {Z:Array Value} (hx:W.heap[w.heap.size]?=some (.cells #[.int .u8 n.kind,.int .i64 n.num,.string n.name,.slice ka n.kids.length kc] 34 (0,0))) (hz:W.heap[w.heap.size+1]?=some (.cells #[.int .u8 0,.int .i64 0,.string ⟨#[]⟩,.slice none 0 0] 34 (0,0))) (hs:W.heap.size=w.heap.size+1+1) (hZ:Z.size=n.kids.length * 4) (hb:Below w.heap.size w W):
 InvCut n ka kc w rk (.pointer (some ⟨W.heap.size,0,none⟩)) ((W.alloc (.cells #[.int .u8 n.kind,.int .i64 n.num,.string n.name,.slice (some ⟨W.heap.size+1,0,none⟩) n.kids.length n.kids.length] 34)).alloc (.cells Z 34)).drew:=
 ⟨_,W.heap.size+1,Z,rfl,zai (zag (zag hx)),zai (zag (zag hz)),zai (zag (zaj rfl)),zai (zaj (by simp)),hZ,fun j hj=>by omega,by omega,by omega,by omega,zab (zaa (zaa hb))⟩
theorem zge {w:World} {g o b:Nat} {y:Obj} {x0 x1 x2 x3:Value} (h:w.heap[b]?=some y) (hne:b≠g):((((w.setCell ⟨g,o,none⟩ x0).setCell ⟨g,o+1,none⟩ x1).setCell ⟨g,o+2,none⟩ x2).setCell ⟨g,o+3,none⟩ x3).heap[b]?=some y:=by
 have hb:b < w.heap.size:=by rw [Array.getElem?_eq_some_iff] at h;exact h.1
 rw [(zcL w g o x0 x1 x2 x3).block b hb hne];exact h
theorem cellsInv {w:World} {g5 g7 e e':Nat} {a b c d x0 x1 x2 x3:Value} (h5:w.heap[g5]?=some (.cells #[a,b,c,d] e (0,0))) (h7:w.heap[g7]?=some (.cells #[x0,x1,x2,x3] e' (0,0))):
 w.cell? ⟨g5,3,none⟩=some d∧w.cell? ⟨g7,0,none⟩=some x0∧w.cell? ⟨g7,1,none⟩=some x1∧w.cell? ⟨g7,2,none⟩=some x2∧w.cell? ⟨g7,3,none⟩=some x3:=
 ⟨zae h5 3 rfl,zae h7 0 rfl,zae h7 1 rfl,zae h7 2 rfl,zae h7 3 rfl⟩
theorem zdS {w:World} {g k n e:Nat} {cur:Array Value} (h:w.heap[g]?=some (.cells cur e (0,0))) (hs:cur.size=n * 4) (hk:k < n):
 ∃ a b c d,w.cell? ⟨g,k * 4,none⟩=some a∧w.cell? ⟨g,k * 4+1,none⟩=some b∧w.cell? ⟨g,k * 4+2,none⟩=some c∧w.cell? ⟨g,k * 4+3,none⟩=some d∧∀ j,w.frozen? ⟨g,j,none⟩=false:=
 ⟨_,_,_,_,zae h (k * 4) (Array.getElem?_eq_getElem (by omega)),zae h (k * 4+1) (Array.getElem?_eq_getElem (by omega)),zae h (k * 4+2) (Array.getElem?_eq_getElem (by omega)),zae h (k * 4+3) (Array.getElem?_eq_getElem (by omega)),unfrozen h⟩
theorem InvSt.cells {n:Nd} {ka:Option Addr} {kc:Nat} {w wr:World} {g5 gk:Nat} {rk:List Nd} {k:Nat} {cur:Array Value} (h:InvSt n ka kc w g5 gk rk k cur wr) {j:Nat} (hj:j < k) (hn:j < n.kids.length):
 ∃ xa xc,wr.cell? ⟨gk,j * 4,none⟩=some (.int .u8 (at' rk j).kind)∧wr.cell? ⟨gk,j * 4+1,none⟩=some (.int .i64 (at' rk j).num)∧wr.cell? ⟨gk,j * 4+2,none⟩=some (.string (at' rk j).name)∧wr.cell? ⟨gk,j * 4+3,none⟩=some (.slice xa (at' rk j).kids.length xc)∧NdAt (IV w g5 gk) wr (.agg #[.int .u8 (at' rk j).kind,.int .i64 (at' rk j).num,.string (at' rk j).name,.slice xa (at' rk j).kids.length xc]) (at' rk j):=by
 have e:=h.el j hj
 obtain ⟨_,xa,xc,e3⟩:=e.c3.form
 have key:∀ i,i < 4→wr.cell? ⟨gk,j * 4+i,none⟩=some (cur.getD (j * 4+i) undef):=fun i hi=>by
  have:j * 4+i < cur.size:=by rw [h.size];omega
  exact zae h.row _ (by rw [Array.getD_eq_getD_getElem?,Array.getElem?_eq_getElem this];rfl)
 refine ⟨xa,xc,(key 0 (by omega)).trans (congrArg some e.c0),(key 1 (by omega)).trans (congrArg some e.c1),(key 2 (by omega)).trans (congrArg some e.c2),(key 3 (by omega)).trans (congrArg some e3),e.ok,_,rfl,?_⟩
 have:=e.c3
 rw [e3] at this
 exact this
structure SwapSt (n:Nd) (w:World) (g5 gk:Nat) (rk:List Nd) (wx:World):Prop where
 zero:wx.heap[w.heap.size+1]?=some (.cells #[.int .u8 0,.int .i64 0,.string ⟨#[]⟩,.slice none 0 0] 34 (0,0))
 m:wx.heap[g5]?=some (.cells #[.int .u8 n.kind,.int .i64 n.num,.string n.name,.slice (some ⟨gk,0,none⟩) n.kids.length n.kids.length] 34 (0,0))
 kids:KidsAt (fun b=>w.heap.size+2≤b∧b≠g5) wx (.slice (some ⟨gk,0,none⟩) 3 3) [at' rk 2,at' rk 1,at' rk 0]
 below:Below w.heap.size w wx
theorem arr12 {cur:Array Value} (h:cur.size=12):∃ c0 c1 c2 c3 c4 c5 c6 c7 c8 c9 c10 c11,cur=#[c0,c1,c2,c3,c4,c5,c6,c7,c8,c9,c10,c11]:=by
 rcases cur with ⟨l⟩
 simp only [List.size_toArray] at h
 match l,h with
 | [c0,c1,c2,c3,c4,c5,c6,c7,c8,c9,c10,c11],_=>exact ⟨c0,c1,c2,c3,c4,c5,c6,c7,c8,c9,c10,c11,rfl⟩
theorem InvSt.swap {n:Nd} {ka:Option Addr} {kc:Nat} {w wr wx:World} {g5 gk:Nat} {rk:List Nd} {cur cur':Array Value} {x0 x1 x2 x3 y0 y1 y2 y3:Value} (h:InvSt n ka kc w g5 gk rk n.kids.length cur wr) (h3:n.kids.length=3)
 (hx:NdAt (IV w g5 gk) wr (.agg #[x0,x1,x2,x3]) (at' rk 0)) (hy:NdAt (IV w g5 gk) wr (.agg #[y0,y1,y2,y3]) (at' rk 2)) (hK:Keeps wr wx (fun b=>b=gk)) (hrow:wx.heap[gk]?=some (.cells cur' 34 (0,0)))
 (hc:∀ c0 c1 c2 c3 c4 c5 c6 c7 c8 c9 c10 c11,cur=#[c0,c1,c2,c3,c4,c5,c6,c7,c8,c9,c10,c11]→cur'=#[y0,y1,y2,y3,c4,c5,c6,c7,x0,x1,x2,x3]) (hb:Below w.heap.size w wx):SwapSt n w g5 gk rk wx:=by
 obtain ⟨c0,c1,c2,c3,c4,c5,c6,c7,c8,c9,c10,c11,rfl⟩:=arr12 (by rw [h.size,h3])
 have e:=hc _ _ _ _ _ _ _ _ _ _ _ _ rfl
 subst e
 have st:∀ {g:Nat} {o:Obj},wr.heap[g]?=some o→g≠gk→wx.heap[g]?=some o:=fun e hne=>by
  rw [hK.block _ (by rw [Array.getElem?_eq_some_iff] at e;exact e.1) hne];exact e
 have hstay:Stays (IV w g5 gk) (fun b=>w.heap.size+2≤b∧b≠g5) wr wx:=⟨hK.size,fun b hb a=>⟨hK.block b hb a.2.2,a.1,a.2.1⟩⟩
 have hgk:=h.hk
 have e1:=h.el 1 (by omega)
 have hmid:NdAt (IV w g5 gk) wr (.agg #[c4,c5,c6,c7]) (at' rk 1):=by
  have a0:c4=_:=e1.c0
  have a1:c5=_:=e1.c1
  have a2:c6=_:=e1.c2
  have a3:KidsAt _ _ c7 _:=e1.c3
  subst a0 a1 a2
  exact ⟨e1.ok,c7,rfl,a3⟩
 refine ⟨st h.zero (by omega),st h.m h.ne,zgH hrow ⟨h.hk,h.ne.symm⟩ (hy.stays hstay) (hmid.stays hstay) (hx.stays hstay),hb⟩
theorem zfJ {R:Nd} {K num:Int} {name:ByteArray} {rk:List Nd} {w wx:World} {a:Option Addr} {len c:Nat} (hR:R=.mk K num name rk) (hl:rk.length=len) (hok:(0≤K∧K≤255)∧In64 num∧name.size≤maxLen) (hk:KidsAt (Up w.heap.size) wx (.slice a len c) rk) (hb:Below w.heap.size w wx):
 CopyPost R w (.returned (.agg #[.int .u8 K,.int .i64 num,.string name,.slice a len c])) wx:=by
 subst hR hl
 exact ⟨a,c,rfl,⟨hok,_,rfl,hk⟩,hb⟩
theorem zhY {w w':World} {S:Nat→Prop} (h:Keeps w w' S):Keeps w w'.drew S:=⟨h.os,h.tape,h.output,h.size,h.block⟩
theorem zbv {w w':World} {g o:Nat} {x:Value} (h:Below w.heap.size w w') (hg:w.heap.size≤g):Below w.heap.size w (w'.setCell ⟨g,o,none⟩ x):=h.setCell hg x
theorem InvSt.swapped {n:Nd} {ka:Option Addr} {kc:Nat} {w wr:World} {g5 gk:Nat} {rk:List Nd} {cur:Array Value} {xa ya:Option Addr} {xc yc:Nat} (h:InvSt n ka kc w g5 gk rk n.kids.length cur wr) (h3:n.kids.length=3)
 (hx:NdAt (IV w g5 gk) wr (.agg #[.int .u8 (at' rk 0).kind,.int .i64 (at' rk 0).num,.string (at' rk 0).name,.slice xa (at' rk 0).kids.length xc]) (at' rk 0)) (hy:NdAt (IV w g5 gk) wr (.agg #[.int .u8 (at' rk 2).kind,.int .i64 (at' rk 2).num,.string (at' rk 2).name,.slice ya (at' rk 2).kids.length yc]) (at' rk 2)):
 SwapSt n w g5 gk rk ((((((((((wr).setCell ⟨gk,0,none⟩ (.int .u8 (at' rk 2).kind)).setCell ⟨gk,1,none⟩ (.int .i64 (at' rk 2).num)).setCell ⟨gk,2,none⟩ (.string (at' rk 2).name)).setCell ⟨gk,3,none⟩ (.slice ya (at' rk 2).kids.length yc))).setCell ⟨gk,8,none⟩ (.int .u8 (at' rk 0).kind)).setCell ⟨gk,9,none⟩ (.int .i64 (at' rk 0).num)).setCell ⟨gk,10,none⟩ (.string (at' rk 0).name)).setCell ⟨gk,11,none⟩ (.slice xa (at' rk 0).kids.length xc)).drew:=by
 have hK:=(zcL wr gk 0 (.int .u8 (at' rk 2).kind) (.int .i64 (at' rk 2).num) (.string (at' rk 2).name) (.slice ya (at' rk 2).kids.length yc)).same (zcL _ gk 8 (.int .u8 (at' rk 0).kind) (.int .i64 (at' rk 0).num) (.string (at' rk 0).name) (.slice xa (at' rk 0).kids.length xc))
 simp only [Nat.zero_add,Nat.reduceAdd] at hK
 have hg:w.heap.size≤gk:=by have:=h.hk;omega
 have hrow:=zfx (o:=8) (zfx (o:=0) h.row (.int .u8 (at' rk 2).kind) (.int .i64 (at' rk 2).num) (.string (at' rk 2).name) (.slice ya (at' rk 2).kids.length yc)) (.int .u8 (at' rk 0).kind) (.int .i64 (at' rk 0).num) (.string (at' rk 0).name) (.slice xa (at' rk 0).kids.length xc)
 simp only [Nat.zero_add,Nat.reduceAdd] at hrow
 refine h.swap h3 hx hy (zhY hK) (zai hrow) (fun c0 c1 c2 c3 c4 c5 c6 c7 c8 c9 c10 c11 e=>?_) ?_
 · subst e
   simp only [List.setIfInBounds_toArray,List.set_cons_zero,List.set_cons_succ]
 · exact zab (zbv (zbv (zbv (zbv (zbv (zbv (zbv (zbv h.below hg) hg) hg) hg) hg) hg) hg) hg)
end Go.Proofs.YtpobmoegmdhbpaaGreatDoor
/- Walks of package inverter:invert,on small trees. -/
namespace Go.Proofs.YtpobmoegmdhbpaaGreatDoor
open Go.RowKit
theorem zcQ (n R:Nd) (v:Value) (A:Nat→Prop) (w:World) (rk:List Nd) (hv:NdAt A w v n) (hl:rk.length=n.kids.length) (hn:n.kids.length≤3)
 (HI:Hid (∀ j,j < n.kids.length→(n.kind=57∨(at' n.kids j).kind=57)→∀ (v:Value) (A:Nat→Prop) (w:World),NdAt A w v (at' n.kids j)→Calls Tryz.prog 163 #[v,.bool false] w (CopyPost (at' rk j) w)))
 (HC:Hid (∀ j,j < n.kids.length→¬ (n.kind=57∨(at' n.kids j).kind=57)→at' rk j=at' n.kids j∧sizeN (at' n.kids j)≤100000))
 (HR:Hid ((n.kind=57∧n.kids.length=1∧R=.mk 57 n.num n.name rk)∨(n.kind=54∧n.kids.length=3∧R=.mk 54 n.num n.name [at' rk 2,at' rk 1,at' rk 0])∨(∃ k',(n.kind=40∧k'=41∨n.kind=44∧k'=45∨n.kind=45∧k'=44)∧R=.mk k' n.num n.name rk))):
 Calls Tryz.prog 163 #[v,.bool false] w (CopyPost R w):=by
 obtain ⟨hok,hlen,ka,kc,rfl,hk⟩:=hv.open
 have hA1:Below w.heap.size w (w.alloc (.cells #[.int .u8 n.kind,.int .i64 n.num,.string n.name,.slice ka n.kids.length kc] 34)):=(Below.refl _ _).alloc (Nat.le_refl _) _
 have hA:Below w.heap.size w ((w.alloc (.cells #[.int .u8 n.kind,.int .i64 n.num,.string n.name,.slice ka n.kids.length kc] 34)).alloc (.cells #[.int .u8 0,.int .i64 0,.string ⟨#[]⟩,.slice none 0 0] 34)):=hA1.alloc hA1.size _
 have HX:=Lib.hid (zaI w (.cells #[.int .u8 n.kind,.int .i64 n.num,.string n.name,.slice ka n.kids.length kc] 34) (.cells #[.int .u8 0,.int .i64 0,.string ⟨#[]⟩,.slice none 0 0] 34))
 have HZ:=Lib.hid (zaw w (.cells #[.int .u8 n.kind,.int .i64 n.num,.string n.name,.slice ka n.kids.length kc] 34) (.cells #[.int .u8 0,.int .i64 0,.string ⟨#[]⟩,.slice none 0 0] 34))
 have HSZ:Hid (((w.alloc (.cells #[.int .u8 n.kind,.int .i64 n.num,.string n.name,.slice ka n.kids.length kc] 34)).alloc (.cells #[.int .u8 0,.int .i64 0,.string ⟨#[]⟩,.slice none 0 0] 34)).heap.size=w.heap.size+1+1):=Lib.hid (by simp)
 have HK:=Lib.hid hk
 obtain ⟨i,hi,hz,hsize,hby⟩:=info_parts TNd.inf
 obtain ⟨Z,hZ⟩:∃ Z:Array Value,Z.size=n.kids.length * 4∧∀ w0:World,(Instr.makeSlice 32 (.int .i64 n.kids.length) (.int .i64 n.kids.length)).run Tryz.prog w0=.ok (.slice (some ⟨w0.heap.size,0,none⟩) n.kids.length n.kids.length) (w0.alloc (.cells Z 34)):=by
  refine ⟨madeCells (Value.agg #[.int .u8 0,.int .i64 0,.string ByteArray.empty,.slice none 0 0]).cells (n.kids.length * 4),size_madeCells _ _,fun w0=>?_⟩
  have h:=run_makeSlice (P:=Tryz.prog) w0 32 34 i _ Tryz.underlying32 hi hz .i64 .i64 (n.kids.length:Int) (n.kids.length:Int) (by omega) (by omega) (by rw [hsize];simp;omega) (by rw [hby];omega) (by omega)
  rw [hsize] at h
  simpa using h
 obtain ⟨hZ1,hmk⟩:=hZ
 have HZ1:=Lib.hid hZ1
 have HOK:=Lib.hid hok
 have HLN:=Lib.hid hl
 clear hv hk hA1 hok hlen hl hi hz hsize hby hZ1
 go_enter Tryz.func163,Tryz.ntmps163
 go_wp2
 generalize ((w.alloc (.cells #[.int .u8 n.kind,.int .i64 n.num,.string n.name,.slice ka n.kids.length kc] 34)).alloc (.cells #[.int .u8 0,.int .i64 0,.string ⟨#[]⟩,.slice none 0 0] 34))=W at *
 obtain ⟨r0,r1,r2,r3⟩:=cells4 HX.out
 have hws:w.heap.size < W.heap.size:=by rw [HSZ.out];omega
 go_cut [5] (fun s wx=>InvCut n ka kc w rk s wx)
 case first=>
  go_region
  all_goals
   go_wp2
   go_meet
   first
   | with_reducible exact zjl HX.out HZ.out HSZ.out HZ1.out hA
   | with_reducible exact ziU HX.out HZ.out HSZ.out HZ1.out hA
 case rest=>
  obtain ⟨g5,gk,cur0,rfl,hst⟩:=hcut
  have HST:=Lib.hid hst
  obtain ⟨p0,p1,p2,p3⟩:=cells4 hst.box
  clear hst r0 r1 r2 r3 HX HZ HSZ HZ1 hmk hws hA
  go_wp2
  clear p0 p1 p2 p3
  go_loopw [23] (fun i wr=>∃ (k:Nat) (cur:Array Value),i=.int .i64 k∧k≤n.kids.length∧InvSt n ka kc w g5 gk rk k cur wr) (fun i _=>n.kids.length - (intOf i).toNat)
  case atStart=>exact ⟨0,_,rfl,Nat.zero_le _,HST.out⟩
  case round=>
   obtain ⟨k,cur,rfl,hk,hst⟩:=hrel
   have HS:=Lib.hid hst
   have hbx:=hst.box
   have HM:=Lib.hid hst.m
   have HROW:=Lib.hid hst.row
   have HSI:=Lib.hid hst.size
   have hne5:=hst.ne
   have hne7:wr.heap.size≠gk:=by have h:=hst.row;rw [Array.getElem?_eq_some_iff] at h;have:=h.1;omega
   have hbl:=hst.below
   obtain ⟨p0,p1,p2,p3⟩:=cells4 hbx
   have hwl:w.heap.size < wr.heap.size:=by rw [Array.getElem?_eq_some_iff] at hbx;exact hbx.1
   clear hst hbx
   by_cases hlt:k < n.kids.length
   · obtain ⟨b,off,cap,kb,kd,he,hb,_,_,c0,c1,c2,c3,hnd⟩:=(HK.out.stays (Stays.of_below hbl)).at hlt
     simp only [Value.slice.injEq] at he
     obtain ⟨rfl,-,rfl⟩:=he
     have hA2:Below wr.heap.size wr (wr.alloc (.cells #[.int .u8 (at' n.kids k).kind,.int .i64 (at' n.kids k).num,.string (at' n.kids k).name,.slice kb (at' n.kids k).kids.length kd] 34)):=(Below.refl _ _).alloc (Nat.le_refl _) _
     have HND:=Lib.hid (hnd.stays (Stays.of_below (zab hA2)))
     have i0:(0:Int)≤(k:Int):=by omega
     have i1:(k:Int) < (n.kids.length:Int):=by omega
     clear hnd
     by_cases h57:n.kind=57
     · have HI2:=Lib.hid (HI.out k hlt (.inl h57) _ A _ HND.out)
       have d1:(n.kind == 57)=true:=by simp [h57]
       have H57:=Lib.hid h57
       clear h57
       go_wp2
       go_region_held3 (fun w1=>w1.cell? ⟨g5,3,none⟩=some (.slice (some ⟨gk,0,none⟩) n.kids.length n.kids.length)∧w1.cell? ⟨wr.heap.size,0,none⟩=some (.int .u8 (at' n.kids k).kind)∧w1.cell? ⟨wr.heap.size,1,none⟩=some (.int .i64 (at' n.kids k).num)∧w1.cell? ⟨wr.heap.size,2,none⟩=some (.string (at' n.kids k).name)∧w1.cell? ⟨wr.heap.size,3,none⟩=some (.slice kb (at' n.kids k).kids.length kd))
        ((refine cellsInv (a:=.int .u8 n.kind) (b:=.int .i64 n.num) (c:=.string n.name) (e:=34) (e':=34) ?_ ?_ <;> (repeat (with_reducible first|exact HM.out|(refine zaj ?_;(simp;done))|refine zai ?_|refine zag ?_|(apply zad;focus assumption)|(refine zge ?_ ?_;rotate_left;(focus assumption))))))
        (first
        | (go_at_call 163;refine HI2.out.mono ?_;rintro e w2 ⟨xa,xc,rfl,hx2,hb2⟩;obtain ⟨y0,y1,y2,y3,q0,q1,q2,q3,qf⟩:=zdS (zad hb2 (zai (zag HROW.out))) HSI.out hlt;have HX2:=Lib.hid hx2;clear hx2))
       all_goals
        go_wp2
        have hB2:Below wr.heap.size wr w2:=by (repeat (with_reducible first|exact Below.refl _ _|refine zab ?_|refine zaa ?_|(apply zac;focus assumption)))
        refine ⟨⟨k+1,_,by go_num,by omega,HS.out.step hlt hB2 (HX2.out.stays (zaJ (Below.size (zab hA2))))⟩,by simp [intOf];omega⟩
     · have d1:(n.kind == 57)=false:=by simp [h57]
       by_cases hk57:(at' n.kids k).kind=57
       · have HI2:=Lib.hid (HI.out k hlt (.inr hk57) _ A _ HND.out)
         have d2:((at' n.kids k).kind == 57)=true:=by simp [hk57]
         clear h57 hk57
         go_wp2
         go_region_held3 (fun w1=>w1.cell? ⟨g5,3,none⟩=some (.slice (some ⟨gk,0,none⟩) n.kids.length n.kids.length)∧w1.cell? ⟨wr.heap.size,0,none⟩=some (.int .u8 (at' n.kids k).kind)∧w1.cell? ⟨wr.heap.size,1,none⟩=some (.int .i64 (at' n.kids k).num)∧w1.cell? ⟨wr.heap.size,2,none⟩=some (.string (at' n.kids k).name)∧w1.cell? ⟨wr.heap.size,3,none⟩=some (.slice kb (at' n.kids k).kids.length kd))
          ((refine cellsInv (a:=.int .u8 n.kind) (b:=.int .i64 n.num) (c:=.string n.name) (e:=34) (e':=34) ?_ ?_ <;> (repeat (with_reducible first|exact HM.out|(refine zaj ?_;(simp;done))|refine zai ?_|refine zag ?_|(apply zad;focus assumption)|(refine zge ?_ ?_;rotate_left;(focus assumption))))))
          (first
          | (go_at_call 163;refine HI2.out.mono ?_;rintro e w2 ⟨xa,xc,rfl,hx2,hb2⟩;obtain ⟨y0,y1,y2,y3,q0,q1,q2,q3,qf⟩:=zdS (zad hb2 (zai (zag HROW.out))) HSI.out hlt;have HX2:=Lib.hid hx2;clear hx2))
         all_goals
          go_wp2
          have hB2:Below wr.heap.size wr w2:=by (repeat (with_reducible first|exact Below.refl _ _|refine zab ?_|refine zaa ?_|(apply zac;focus assumption)))
          refine ⟨⟨k+1,_,by go_num,by omega,HS.out.step hlt hB2 (HX2.out.stays (zaJ (Below.size (zab hA2))))⟩,by simp [intOf];omega⟩
       · obtain ⟨hrk,hszk⟩:=HC.out k hlt (by rintro (h|h);exact h57 h;exact hk57 h)
         have HI2:=Lib.hid (zcn _ _ A _ hszk HND.out)
         have HRK:=Lib.hid hrk
         have d2:((at' n.kids k).kind == 57)=false:=by simp [hk57]
         clear h57 hk57 hrk
         go_wp2
         go_region_held3 (fun w1=>w1.cell? ⟨g5,3,none⟩=some (.slice (some ⟨gk,0,none⟩) n.kids.length n.kids.length)∧w1.cell? ⟨wr.heap.size,0,none⟩=some (.int .u8 (at' n.kids k).kind)∧w1.cell? ⟨wr.heap.size,1,none⟩=some (.int .i64 (at' n.kids k).num)∧w1.cell? ⟨wr.heap.size,2,none⟩=some (.string (at' n.kids k).name)∧w1.cell? ⟨wr.heap.size,3,none⟩=some (.slice kb (at' n.kids k).kids.length kd))
          ((refine cellsInv (a:=.int .u8 n.kind) (b:=.int .i64 n.num) (c:=.string n.name) (e:=34) (e':=34) ?_ ?_ <;> (repeat (with_reducible first|exact HM.out|(refine zaj ?_;(simp;done))|refine zai ?_|refine zag ?_|(apply zad;focus assumption)|(refine zge ?_ ?_;rotate_left;(focus assumption))))))
          (first
          | (go_at_call 176;refine HI2.out.mono ?_;rintro e w2 ⟨xa,xc,rfl,hx2,hb2⟩;obtain ⟨y0,y1,y2,y3,q0,q1,q2,q3,qf⟩:=zdS (zad hb2 (zai (zag HROW.out))) HSI.out hlt;have HX2:=Lib.hid hx2;clear hx2))
         all_goals
          go_wp2
          have hB2:Below wr.heap.size wr w2:=by (repeat (with_reducible first|exact Below.refl _ _|refine zab ?_|refine zaa ?_|(apply zac;focus assumption)))
          have hst2:=HS.out.step (rk:=rk) (k:=k) hlt hB2 (by rw [HRK.out];exact HX2.out.stays (zaJ (Below.size (zab hA2))))
          exact ⟨⟨k+1,_,by go_num,by omega,hst2⟩,by simp [intOf];omega⟩
   · obtain rfl:k=n.kids.length:=by omega
     have hlt':¬ (n.kids.length:Int) < (n.kids.length:Int):=by omega
     have hm:=HS.out.m
     have hzr:=HS.out.zero
     obtain ⟨m0,m1,m2,m3⟩:=cells4 hm
     obtain ⟨z0,z1,z2,z3⟩:=cells4 hzr
     have mf:=unfrozen hm
     have zf:=unfrozen hzr
     have h5:=HS.out.h5
     have hgk:=HS.out.hk
     have HKD:=Lib.hid (HS.out.kids HLN.out (by omega))
     clear hm hzr
     rcases HR.out with ⟨e57,e1,hR⟩|⟨e54,e3,hR⟩|⟨k',hkk,hR⟩
     · have HRR:=Lib.hid hR
       have HRV:Hid (Calls Tryz.prog 217 #[.slice (some ⟨gk,0,none⟩) n.kids.length n.kids.length] wr fun e w'=>e=.returned (.tuple #[])∧wr=w'):=Lib.hid (by rw [e1];exact zht _ _ _)
       have d57:(n.kind == 57)=true:=by simp [e57]
       have HE1:=Lib.hid e1
       have HE57:=Lib.hid e57
       clear hR e1 e57
       go_wp2_with (go_at_call 217;refine HRV.out.mono ?_;rintro e w2 ⟨rfl,rfl⟩)
       (try simp only [Exit.inBlock,Exit.then])
       refine bodyPost_ret (results_cell_row (P:=Tryz.prog) rfl _ _ (w.heap.size+1) _ _ _ _ rfl (set4 HS.out.zero _ _ _ _) Tryz.underlying34 rfl (by kernel_rfl)) rfl ?_
       have hK4:=(((zaf wr (w.heap.size+1) 0 (.int .u8 n.kind)).same (zaf _ (w.heap.size+1) 1 (.int .i64 n.num))).same (zaf _ (w.heap.size+1) 2 (.string n.name))).same (zaf _ (w.heap.size+1) 3 (.slice (some ⟨gk,0,none⟩) n.kids.length n.kids.length))
       have hkd:=HKD.out.stays (A':=Up w.heap.size) ⟨hK4.size,fun b hb a=>⟨hK4.block b hb (fun e=>by have:=a.1;omega),by have:=a.1;unfold Up;omega⟩⟩
       have hok:=HOK.out
       exact zfJ (by rw [HRR.out,HE57.out]) HLN.out hok hkd (zaq hbl (by omega))
     · have HRR:=Lib.hid hR
       have HE3:=Lib.hid e3
       have HE54:=Lib.hid e54
       have d57:(n.kind == 57)=false:=by simp [e54]
       have d52:(n.kind == 52)=false:=by simp [e54]
       have d53:(n.kind == 53)=false:=by simp [e54]
       have d54:(n.kind == 54)=true:=by simp [e54]
       have l3:(n.kids.length:Int) - 1=2:=by omega
       have j0:(0:Int) < (n.kids.length:Int):=by omega
       have j2:(2:Int) < (n.kids.length:Int):=by omega
       have jn0:0 < n.kids.length:=by omega
       have jn2:2 < n.kids.length:=by omega
       have qf:=unfrozen HROW.out
       obtain ⟨xa,xc,q0,q1,q2,q3,hq⟩:=HS.out.cells (j:=0) jn0 jn0
       obtain ⟨ya,yc,t0,t1,t2,t3,ht⟩:=HS.out.cells (j:=2) jn2 jn2
       have HQ:=Lib.hid hq
       have HT:=Lib.hid ht
       simp only [Nat.zero_mul,Nat.zero_add] at q0 q1 q2 q3
       simp only [Nat.reduceMul,Nat.reduceAdd] at t0 t1 t2 t3
       clear hR e3 e54 hq ht
       go_wp2
       have HSW0:=HS.out.swapped HE3.out HQ.out HT.out
       have HSW:=Lib.hid HSW0
       clear HSW0
       go_region
       obtain ⟨wc,hwc⟩:∃ wc,((((((((((wr).setCell ⟨gk,0,none⟩ (.int .u8 (at' rk 2).kind)).setCell ⟨gk,1,none⟩ (.int .i64 (at' rk 2).num)).setCell ⟨gk,2,none⟩ (.string (at' rk 2).name)).setCell ⟨gk,3,none⟩ (.slice ya (at' rk 2).kids.length yc))).setCell ⟨gk,8,none⟩ (.int .u8 (at' rk 0).kind)).setCell ⟨gk,9,none⟩ (.int .i64 (at' rk 0).num)).setCell ⟨gk,10,none⟩ (.string (at' rk 0).name)).setCell ⟨gk,11,none⟩ (.slice xa (at' rk 0).kids.length xc)).drew=wc:=⟨_,rfl⟩
       rw [hwc] at HSW
       rw [hwc]
       clear hwc
       obtain ⟨n0,n1,n2,n3⟩:=cells4 HSW.out.m
       obtain ⟨v0,v1,v2,v3⟩:=cells4 HSW.out.zero
       have nf:=unfrozen HSW.out.zero
       clear m0 m1 m2 m3 z0 z1 z2 z3 mf zf q0 q1 q2 q3 t0 t1 t2 t3 qf p0 p1 p2 p3
       go_wp2
       (try simp only [Exit.inBlock,Exit.then])
       refine bodyPost_ret (results_cell_row (P:=Tryz.prog) rfl _ _ (w.heap.size+1) _ _ _ _ rfl (set4 HSW.out.zero _ _ _ _) Tryz.underlying34 rfl (by kernel_rfl)) rfl ?_
       have hK4:=(((zaf wc (w.heap.size+1) 0 (.int .u8 n.kind)).same (zaf _ (w.heap.size+1) 1 (.int .i64 n.num))).same (zaf _ (w.heap.size+1) 2 (.string n.name))).same (zaf _ (w.heap.size+1) 3 (.slice (some ⟨gk,0,none⟩) n.kids.length n.kids.length))
       have hkd:=HSW.out.kids.stays (A':=Up w.heap.size) ⟨hK4.size,fun b hb a=>⟨hK4.block b hb (fun e=>by have:=a.1;omega),by have:=a.1;unfold Up;omega⟩⟩
       have hok:=HOK.out
       have h3:=HE3.out
       refine zfJ (by rw [HRR.out,HE54.out]) (by rw [h3];rfl) hok ?_ (zaq HSW.out.below (by omega))
       rw [h3] at hkd ⊢
       exact hkd
     · have HRR:=Lib.hid hR
       have d57:(n.kind == 57)=false:=by rcases hkk with ⟨h,_⟩|⟨h,_⟩|⟨h,_⟩ <;> simp [h]
       have d52:(n.kind == 52)=false:=by rcases hkk with ⟨h,_⟩|⟨h,_⟩|⟨h,_⟩ <;> simp [h]
       have d53:(n.kind == 53)=false:=by rcases hkk with ⟨h,_⟩|⟨h,_⟩|⟨h,_⟩ <;> simp [h]
       have d54:(n.kind == 54)=false:=by rcases hkk with ⟨h,_⟩|⟨h,_⟩|⟨h,_⟩ <;> simp [h]
       have d50:(n.kind == 50)=false:=by rcases hkk with ⟨h,_⟩|⟨h,_⟩|⟨h,_⟩ <;> simp [h]
       have d51:(n.kind == 51)=false:=by rcases hkk with ⟨h,_⟩|⟨h,_⟩|⟨h,_⟩ <;> simp [h]
       have HEX:=Lib.hid (zhM n.kind k' wr hkk)
       have HK':Hid (0≤k'∧k'≤255):=Lib.hid (by omega)
       have HZ2:Hid ((wr.setCell ⟨g5,0,none⟩ (.int .u8 k')).heap[w.heap.size+1]?=some (.cells #[.int .u8 0,.int .i64 0,.string ⟨#[]⟩,.slice none 0 0] 34)):=Lib.hid (by
        have hz:=HS.out.zero
        rw [(zaf wr g5 0 (.int .u8 k')).block _ (by rw [Array.getElem?_eq_some_iff] at hz;exact hz.1) (by omega)];exact hz)
       have hne1:w.heap.size+1≠g5:=by omega
       clear hR hkk
       go_wp2_with (go_at_call 218;refine HEX.out.mono ?_;rintro e w2 ⟨rfl,rfl⟩)
       (try simp only [Exit.inBlock,Exit.then])
       refine bodyPost_ret (results_cell_row (P:=Tryz.prog) rfl _ _ (w.heap.size+1) _ _ _ _ rfl (set4 HZ2.out _ _ _ _) Tryz.underlying34 rfl (by kernel_rfl)) rfl ?_
       have hK:=zaf wr g5 0 (.int .u8 k')
       have hK4:=(((zaf (wr.setCell ⟨g5,0,none⟩ (.int .u8 k')) (w.heap.size+1) 0 (.int .u8 k')).same (zaf _ (w.heap.size+1) 1 (.int .i64 n.num))).same (zaf _ (w.heap.size+1) 2 (.string n.name))).same (zaf _ (w.heap.size+1) 3 (.slice (some ⟨gk,0,none⟩) n.kids.length n.kids.length))
       have hkd:=(HKD.out.stays (A':=fun b=>w.heap.size+2≤b) ⟨hK.size,fun b hb a=>⟨hK.block b hb a.2,a.1⟩⟩).stays (A':=Up w.heap.size) ⟨hK4.size,fun b hb a=>⟨hK4.block b hb (fun e=>by omega),by unfold Up;omega⟩⟩
       have hok:=HOK.out
       exact zfJ HRR.out HLN.out ⟨HK'.out,hok.2⟩ hkd (zaq (hbl.setCell (by show w.heap.size≤g5;omega) _) (by omega))
end Go.Proofs.YtpobmoegmdhbpaaGreatDoor
/- Walks of package inverter:Stmt,at the statements of a bind. -/
namespace Go.Proofs.YtpobmoegmdhbpaaGreatDoor
open Go.RowKit
def Inverts (n R:Nd):Prop:=∀ (v:Value) (A:Nat→Prop) (w:World),NdAt A w v n→Calls Tryz.prog 163 #[v,.bool false] w (CopyPost R w)
theorem zct (k k':Int) (num:Int) (name:ByteArray) (kids:List Nd) (hl:kids.length≤3) (hk:k=40∧k'=41∨k=44∧k'=45∨k=45∧k'=44) (hb:∀ j,j < kids.length→(at' kids j).kind≠57∧sizeN (at' kids j)≤100000):Inverts (.mk k num name kids) (.mk k' num name kids):=by
 intro v A w hv
 refine zcQ (.mk k num name kids) _ v A w kids hv rfl hl (Lib.hid fun j hj h=>?_) (Lib.hid fun j hj _=>⟨rfl,(hb j hj).2⟩) (Lib.hid (.inr (.inr ⟨k',hk,rfl⟩)))
 rcases h with h|h
 · have h':k=57:=h
   omega
 · exact absurd h (hb j hj).1
theorem zdB (num:Int) (name:ByteArray) (s s':Nd) (h:Inverts s s'):Inverts (.mk 57 num name [s]) (.mk 57 num name [s']):=by
 intro v A w hv
 refine zcQ (.mk 57 num name [s]) _ v A w [s'] hv rfl (by show 1≤3;omega) (Lib.hid fun j hj _=>?_) (Lib.hid fun j hj hn=>absurd (.inl rfl) hn) (Lib.hid (.inl ⟨rfl,rfl,rfl⟩))
 match j,hj with
 | 0,_=>exact h
theorem zdc (num:Int) (name:ByteArray) (a b b' c:Nd) (ha:a.kind≠57) (hb:b.kind=57) (hc:c.kind≠57) (sa:sizeN a≤100000) (sc:sizeN c≤100000) (h:Inverts b b'):Inverts (.mk 54 num name [a,b,c]) (.mk 54 num name [c,b',a]):=by
 intro v A w hv
 refine zcQ (.mk 54 num name [a,b,c]) _ v A w [a,b',c] hv rfl (by show 3≤3;omega) (Lib.hid fun j hj hn=>?_) (Lib.hid fun j hj hn=>?_) (Lib.hid (.inr (.inl ⟨rfl,rfl,rfl⟩)))
 · match j,hj with
   | 0,_=>
     rcases hn with hn|hn
     · have:(54:Int)=57:=hn
       omega
     · exact absurd hn ha
   | 1,_=>exact h
   | 2,_=>
     rcases hn with hn|hn
     · have:(54:Int)=57:=hn
       omega
     · exact absurd hn hc
 · match j,hj with
   | 0,_=>exact ⟨rfl,sa⟩
   | 1,_=>exact absurd (.inr hb) hn
   | 2,_=>exact ⟨rfl,sc⟩
theorem zni (n R:Nd) (v:Value) (A:Nat→Prop) (w:World) (hv:NdAt A w v n) (hp:Passes 162 n) (hi:Inverts n R):
 Calls Tryz.prog 110 #[v] w fun e w'=>∃ ka kc,e=.returned (.tuple #[.agg #[.int .u8 R.kind,.int .i64 R.num,.string R.name,.slice ka R.kids.length kc],.int .i64 0])∧NdAt (Up w.heap.size) w' (.agg #[.int .u8 R.kind,.int .i64 R.num,.string R.name,.slice ka R.kids.length kc]) R∧Below w.heap.size w w':=by
 obtain ⟨hok,hlen,ka,kc,rfl,hk⟩:=hv.open
 have hA1:Below w.heap.size w (w.alloc (.cells #[.int .u8 n.kind,.int .i64 n.num,.string n.name,.slice ka n.kids.length kc] 34)):=(Below.refl _ _).alloc (Nat.le_refl _) _
 have hA:Below w.heap.size w ((w.alloc (.cells #[.int .u8 n.kind,.int .i64 n.num,.string n.name,.slice ka n.kids.length kc] 34)).alloc (.cells #[.int .u8 0,.int .i64 0,.string ⟨#[]⟩,.slice none 0 0] 34)):=hA1.alloc hA1.size _
 have HX:=Lib.hid (zaI w (.cells #[.int .u8 n.kind,.int .i64 n.num,.string n.name,.slice ka n.kids.length kc] 34) (.cells #[.int .u8 0,.int .i64 0,.string ⟨#[]⟩,.slice none 0 0] 34))
 have HZ:=Lib.hid (zaw w (.cells #[.int .u8 n.kind,.int .i64 n.num,.string n.name,.slice ka n.kids.length kc] 34) (.cells #[.int .u8 0,.int .i64 0,.string ⟨#[]⟩,.slice none 0 0] 34))
 have HSZ:Hid (((w.alloc (.cells #[.int .u8 n.kind,.int .i64 n.num,.string n.name,.slice ka n.kids.length kc] 34)).alloc (.cells #[.int .u8 0,.int .i64 0,.string ⟨#[]⟩,.slice none 0 0] 34)).heap.size=w.heap.size+1+1):=Lib.hid (by simp)
 have HV:=Lib.hid (hv.stays (Stays.of_below hA))
 have HP:=Lib.hid (hp _ A _ HV.out)
 have HI:=Lib.hid hi
 clear hv hk hp hi hA1 hok hlen
 go_enter Tryz.func110,Tryz.ntmps110
 go_wp2_with fail
 generalize ((w.alloc (.cells #[.int .u8 n.kind,.int .i64 n.num,.string n.name,.slice ka n.kids.length kc] 34)).alloc (.cells #[.int .u8 0,.int .i64 0,.string ⟨#[]⟩,.slice none 0 0] 34))=W at *
 refine HP.out.mono ?_
 rintro e w1 ⟨rfl,hb1⟩
 obtain ⟨r0,r1,r2,r3⟩:=cells4 (zad hb1 HX.out)
 have HIW:=Lib.hid (HI.out _ A w1 (HV.out.stays (Stays.of_below hb1)))
 go_wp2_with (go_at_call 163;refine HIW.out.mono ?_;rintro e w2 ⟨xa,xc,rfl,hx2,hb2⟩;have hr:=zad hb2 (zad hb1 HZ.out);obtain ⟨z0,z1,z2,z3⟩:=cells4 hr;have f:=unfrozen hr;have HR:=Lib.hid hr;have HX2:=Lib.hid hx2;clear hr hx2)
 (try simp only [Exit.inBlock,Exit.then])
 refine bodyPost_ret (zak (P:=Tryz.prog) rfl _ _ (w.heap.size+1) _ _ _ _ _ rfl (set4 HR.out _ _ _ _) rfl Tryz.underlying34 rfl (by kernel_rfl)) rfl ?_
 have hB2:Below w.heap.size w w2:=hA.trans ((hb1.trans (hb2.mono hb1.size)).mono hA.size)
 have hz1:=hb1.size
 have hzz:=HSZ.out
 have hK4:=(((zaf w2 (w.heap.size+1) 0 (.int .u8 R.kind)).same (zaf _ (w.heap.size+1) 1 (.int .i64 R.num))).same (zaf _ (w.heap.size+1) 2 (.string R.name))).same (zaf _ (w.heap.size+1) 3 (.slice xa R.kids.length xc))
 refine ⟨_,_,rfl,?_,zaq hB2 (by omega)⟩
 exact HX2.out.stays ⟨hK4.size,fun b hb a=>⟨hK4.block b hb (fun e=>by have:w1.heap.size≤b:=a;omega),by have:w1.heap.size≤b:=a;unfold Up;omega⟩⟩
end Go.Proofs.YtpobmoegmdhbpaaGreatDoor
