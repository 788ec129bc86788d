/- Contracts and plain lemmas (RfG, RfH, RfI): no statement of the seat is proved here. -/
import Derived.Test.YtjhimhlebbamoaaDoorZs1
import Derived.Test.YtjhimhlebbamoaaDoorZq09
/- Expr of the reference of layer 38:a let. -/
set_option linter.unusedSimpArgs false
set_option linter.unusedVariables false
set_option linter.unusedSectionVars false
set_option maxRecDepth 100000
set_option maxHeartbeats 12800000
namespace Go.Proofs.YtjhimhlebbamoaaDoor
open Go.RowKit
theorem TVar8:RowT Tryd.prog 129 131 (.agg #[.string ByteArray.empty,.string ByteArray.empty,.bool false]) 3 40:=⟨Tryd.underlying129,by kernel_rfl⟩
theorem cell_bel {w w1:World} (h:Below w.heap.size w w1) {a:Addr} {v:Value} (hc:w.cell? a=some v):w1.cell? a=some v:=by
 have hlt:a.block < w.heap.size:=by
  rcases Nat.lt_or_ge a.block w.heap.size with h|h
  · exact h
  · unfold World.cell? at hc
    rw [Array.getElem?_eq_none h] at hc
    cases hc
 unfold World.cell? at hc ⊢
 rw [h.block _ hlt]
 exact hc
theorem KB.cell {n0 hi G:Nat} {W W':World} (h:KB n0 hi G W W') {a:Addr} {v:Value} (hc:W.cell? a=some v) (hb:a.block < hi) (hm:¬ Bx G W a.block):W'.cell? a=some v:=by
 have e:=(h.2 a.block hb hm).1
 unfold World.cell? at hc ⊢
 rw [e]
 exact hc
theorem rows_emptyR {α:Type} [Inhabited α] {E:Elem α} {e:Nat} {D:Nat→Prop} {base:Nat} {w:World} {g:Nat} (h:w.heap[g]?=some (.cells #[] e (0,0))) (hb:base≤g):RowsOwn E e D base w (.slice (some ⟨g,0,none⟩) 0 0) []:=
 ⟨[],⟨by simp,.inr ⟨g,0,#[],rfl,hb,h,Nat.le_refl _,by unfold maxLen;omega,by simp,by simp⟩⟩,fun j hj=>by simp at hj⟩
theorem wpl_ros {ops:Array Oper} {rest:List Oper} {o:Oper} {a:Act} {Q:Exit→Act→World→Prop} (hgd:o.guard=none) (s x:Operand)
 (ho:o.op=.call { callee:=.builtin .append,args:=#[s,x],argTypes:=#[132,132] })
 {n0 G lo:Nat} {ts:List Par} {W:World} {v y:Value} {l my:List Bd} {D':Nat→Prop} (hG:GS n0 G ts W) (hn:n0≤lo) (hlo:lo≤W.heap.size) (h:RO BdE 161 lo W.heap.size G W v l)
 (hy:RowsAt BdE D' W y my) (hD:∀ k,k < W.heap.size→D' k→DR lo W.heap.size G W k∧v.ownBlock≠some k) (hs:a.eval s=v) (hx:a.eval x=y) (hl:l.length+my.length≤100000)
 (hh:∀ a' c' w1,RO BdE 161 lo w1.heap.size G w1 (.slice a' (l.length+my.length) c') (l ++ my)→KB n0 lo G W w1→GS n0 G ts w1→W.heap.size≤w1.heap.size→wpList Tryd.prog ops Q rest (a.put o.dst (.slice a' (l.length+my.length) c')) w1):
 wpList Tryd.prog ops Q (o :: rest) a W:=by
 refine wpl_rows TBd8 rfl (by decide) hgd s x ho hs hx h.own hy hD (by unfold maxLen;omega) (by omega) hlo ?_
 intro a' c' w1 h1 hg hno
 obtain ⟨r1,r2,r3⟩:=RO.grown hG hn hlo h h1 hg hno
 exact hh a' c' w1 r1 r2 r3 hg.size
theorem XIn.scopd {lib:List Fn} {n0 G:Nat} {A:Nat→Prop} {lv ev ev':Value} {el:List (ByteArray × Par)} {env:Env} {ts:List Par} {W w1:World} {nm:ByteArray} {p:Par} (h:XIn lib n0 G A lv ev el env ts W) (hb:Below W.heap.size W w1)
 (ho:RowsOwn VarE 131 (fun _=>True) W.heap.size w1 ev' (el ++ [(nm,p)])) (hel:el.length+1≤100000):XIn lib n0 G (fun k=>A k∨W.heap.size≤k∧k < w1.heap.size) lv ev' (el ++ [(nm,p)]) (env.put nm p) ts w1:=by
 have hbx:∀ k,Bx G w1 k→Bx G W k:=fun k e=>bx_below h.gs.glt hb e
 have hst:Stays A (fun k=>A k∨W.heap.size≤k∧k < w1.heap.size) W w1:=⟨hb.size,fun k hk a=>⟨hb.block k hk,.inl a⟩⟩
 refine ⟨h.gs.new hb,fun k hk=>?_,?_,h.lvs.stays hst,fun s=>?_,by simpa using hel⟩
 · rcases hk with a|⟨a1,a2⟩
   · obtain ⟨h1,h2⟩:=h.ap k a
     exact ⟨Nat.lt_of_lt_of_le h1 hb.size,fun e=>h2 (hbx k e)⟩
   · exact ⟨a2,fun e=>by have:=h.gs.lt (hbx k e);omega⟩
 · obtain ⟨xs,hx,hf⟩:=ho
   exact (show RowsOwn VarE 131 (fun _=>False) W.heap.size w1 ev' (el ++ [(nm,p)]) from ⟨xs,hx,hf⟩).shut (fun _ e=>e.elim) (fun k e=>.inr (hx.lt k e)) (by unfold maxLen;simp;omega)
 · rw [lkV_snoc,h.lk]
   unfold Env.put
   by_cases e:nm=s
   · simp [e]
   · have:¬ s=nm:=fun x=>e x.symm
     simp [e,this]
def CutL (n0 G:Nat) (W2:World) (Y:XR) (s1 s2 s3:Value) (wx:World):Prop:=∃ a5 c5 w5,s1=.slice a5 Y.bs.length c5∧s2=.string Y.par.name∧s3=.bool Y.par.list∧Below W2.heap.size W2 w5∧GS n0 G Y.ts wx∧KB n0 w5.heap.size G w5 wx∧RO BdE 161 w5.heap.size wx.heap.size G wx (.slice a5 Y.bs.length c5) Y.bs
theorem cutL_mk {n0 G:Nat} {W2 w5 wx:World} {Y:XR} {a:Option Addr} {c:Nat} (hb:Below W2.heap.size W2 w5) (g:GS n0 G Y.ts wx) (k:KB n0 w5.heap.size G w5 wx) (r:RO BdE 161 w5.heap.size wx.heap.size G wx (.slice a Y.bs.length c) Y.bs):CutL n0 G W2 Y (.slice a Y.bs.length c) (.string Y.par.name) (.bool Y.par.list) wx:=⟨a,c,w5,rfl,rfl,rfl,hb,g,k,r⟩
theorem rx_let (lib:List Fn) (hl:PLen lib) (n0 G m:Nat) (IH:XOk8 lib n0 G m) (n:Nd) (nv lv ev:Value) (A:Nat→Prop) (W:World) (vis:Vis) (env:Env) (el:List (ByteArray × Par)) (ts:List Par) (hm:sizeN n≤m+1) (hel:el.length+sizeN n≤100000) (hk:n.kind=84) (hr:Rdy lib n vis env ts) (hx:XIn lib n0 G A lv ev el env ts W) (hn:NdAt A W nv n):
 Calls Tryd.prog 52 #[.pointer (some ⟨G,0,none⟩),lv,ev,nv] W (XOut n0 G W (exprN lib n env ts)):=by
 obtain ⟨a,b,vis2,X,Y,hkids,hX,hY,ra,rb,le1,ets,ebs,epar⟩:=rdy_let hl hr hk
 obtain ⟨hok,hlen,ka,kc,rfl,hkk⟩:=hn.open
 have h2:n.kids.length=2:=by rw [hkids];rfl
 obtain ⟨W1,hW1⟩:∃ W1,W1=W.alloc (.cells #[.int .u8 n.kind,.int .i64 n.num,.string n.name,.slice ka n.kids.length kc] 66):=⟨_,rfl⟩
 obtain ⟨q,off,rfl,x1,hnb,kb1,hs1⟩:=hx.boxed hn (by omega) hW1
 have e0:at' n.kids 0=a:=by rw [hkids];rfl
 have e1:at' n.kids 1=b:=by rw [hkids];rfl
 have hsz:(sizeN a≤m∧el.length+sizeN a≤100000)∧(sizeN b≤m∧el.length+1+sizeN b≤100000):=by
  have h0:=size_kid n 0 (by omega)
  have h1:=size_kid n 1 (by omega)
  have hp:=size_pos a
  have hs:=sizeN_eq n
  rw [e0] at h0
  rw [e1] at h1
  omega
 have gx:=(ra.good hl).name
 rw [← hX] at gx
 have hnm:n.name.size≤maxLen:=hok.2.2
 have HX1:=Lib.hid x1
 have HNB:=Lib.hid hnb
 have HKB1:=Lib.hid kb1
 have HR:=Lib.hid (And.intro ra rb)
 have HE:=Lib.hid (And.intro hX hY)
 have HF:=Lib.hid (And.intro ets (And.intro epar ebs))
 have HG:=Lib.hid gx
 have HNM:=Lib.hid hnm
 have HS:=Lib.hid hsz
 have k81:(n.kind == 81)=false:=by simp [hk]
 have k84:(n.kind == 84)=true:=by simp [hk]
 have HC:Hid (∀ w1,KB n0 W1.heap.size G W1 w1→(w1.cell? ⟨W.heap.size,0,none⟩=some (.int .u8 n.kind)∧w1.cell? ⟨W.heap.size,2,none⟩=some (.string n.name)∧w1.cell? ⟨W.heap.size,3,none⟩=some (.slice (some ⟨q,off,none⟩) 2 kc))):=Lib.hid (fun w1 h=>by
  obtain ⟨h0,h1,h2',h3'⟩:=hnb.cells x1.ap h
  rw [h2] at h3'
  exact ⟨h0,h2',h3'⟩)
 have HK:Hid (∀ w1,KB n0 W1.heap.size G W1 w1→∀ j x,j < 2→at' n.kids j=x→∃ ka kcj,w1.cell? ⟨q,off+j * 4,none⟩=some (.int .u8 x.kind)∧w1.cell? ⟨q,off+j * 4+1,none⟩=some (.int .i64 x.num)∧w1.cell? ⟨q,off+j * 4+2,none⟩=some (.string x.name)∧w1.cell? ⟨q,off+j * 4+3,none⟩=some (.slice ka x.kids.length kcj)∧
  NdAt A w1 (.agg #[.int .u8 x.kind,.int .i64 x.num,.string x.name,.slice ka x.kids.length kcj]) x):=Lib.hid (fun w1 h j x hj hx=>by subst hx;exact hnb.kid x1.ap h (by omega))
 have HEE:=Lib.hid (And.intro e0 e1)
 obtain ⟨z0,z2,z3⟩:=HC.out W1 (KB.refl _ _ _ _)
 obtain ⟨ka0,kc0,y0,y1,y2,y3,hnd0⟩:=HK.out W1 (KB.refl _ _ _ _) 0 a (by omega) e0
 simp only [Nat.zero_mul,Nat.add_zero] at y0 y1 y2 y3
 have HI1:=Lib.hid (IH a _ lv ev A W1 vis env el ts hsz.1.1 hsz.1.2 ra x1 hnd0)
 rw [← hX] at HI1
 have HIH:=Lib.hid IH
 rw [h2] at hW1
 clear hn hkk hok hlen hr hx x1 hnb kb1 ra rb hX hY ets epar ebs gx hsz e0 e1 hnd0 hk hel hnm IH
 rw [h2]
 go_enter Tryd.func52,Tryd.ntmps52
 go_upto_region 10 with fail
 rw [← hW1]
 clear hW1
 go_wp2_with fail
 refine HI1.out.mono ?_
 rintro e W2 ⟨a1,c1,rfl,g2,k2,r2⟩
 clear z0 z2 z3 y0 y1 y2 y3
 have h12:=k2.1.size
 have hx2:=HX1.out.keep k2 g2
 obtain ⟨_,ea,ec,rfl⟩:=hx2.evs.form
 obtain ⟨z0,z2,z3⟩:=HC.out W2 k2
 obtain ⟨kb,kcb,y0,y1,y2,y3,hndb⟩:=HK.out W2 k2 1 b (by omega) HEE.out.2
 simp only [Nat.one_mul,Nat.add_assoc,Nat.reduceAdd] at y0 y1 y2 y3
 have hAq:A q:=by
  obtain ⟨b',o',cap',_,_,he,_,_,hA,_⟩:=HNB.out.kids.at (j:=1) (by omega)
  simp only [Value.slice.injEq,Option.some.injEq,Addr.mk.injEq,and_true,true_and] at he
  obtain ⟨⟨rfl,rfl⟩,-⟩:=he
  exact hA
 obtain ⟨hq1,hq2⟩:=hx2.ap q hAq
 have hb1:W.heap.size < W2.heap.size:=Nat.lt_of_lt_of_le HNB.out.lt h12
 have hb2:=(k2.2 _ HNB.out.lt HNB.out.nb).2
 have HFS:Hid (∀ w1,KB n0 W2.heap.size G W2 w1→((w1.cell? ⟨W.heap.size,0,none⟩=some (.int .u8 n.kind)∧w1.cell? ⟨W.heap.size,2,none⟩=some (.string n.name)∧w1.cell? ⟨W.heap.size,3,none⟩=some (.slice (some ⟨q,off,none⟩) 2 kc))∧w1.cell? ⟨q,off+4,none⟩=some (.int .u8 b.kind)∧w1.cell? ⟨q,off+5,none⟩=some (.int .i64 b.num)∧w1.cell? ⟨q,off+6,none⟩=some (.string b.name)∧w1.cell? ⟨q,off+7,none⟩=some (.slice kb b.kids.length kcb))):=Lib.hid (fun w1 h=>⟨⟨h.cell z0 hb1 hb2,h.cell z2 hb1 hb2,h.cell z3 hb1 hb2⟩,h.cell y0 hq1 hq2,h.cell y1 hq1 hq2,h.cell y2 hq1 hq2,h.cell y3 hq1 hq2⟩)
 have HEV:Hid (∀ w1,Below W2.heap.size W2 w1→RowsAt VarE A w1 (.slice ea el.length ec) el):=Lib.hid (fun w1 h=>hx2.evs.stays (Stays.of_below h))
 have HAP:Hid (∀ k,A k→k < W2.heap.size):=Lib.hid (fun k a=>(hx2.ap k a).1)
 have HXP:Hid (X.par.name.size≤maxLen):=Lib.hid (by have:=gname_size HG.out;unfold maxLen;omega)
 have HIB:Hid (∀ w1 a6 c6,Below W2.heap.size W2 w1→RowsOwn VarE 131 (fun _=>True) W2.heap.size w1 (.slice a6 (el.length+1) c6) (el ++ [(n.name,X.par)])→
  Calls Tryd.prog 52 #[.pointer (some ⟨G,0,none⟩),lv,.slice a6 (el.length+1) c6,.agg #[.int .u8 b.kind,.int .i64 b.num,.string b.name,.slice kb b.kids.length kcb]] w1 (fun e W'=>∃ a c,e=.returned (.tuple #[.slice a Y.bs.length c,.string Y.par.name,.bool Y.par.list])∧GS n0 G Y.ts W'∧KB n0 w1.heap.size G w1 W'∧RO BdE 161 w1.heap.size W'.heap.size G W' (.slice a Y.bs.length c) Y.bs)):=Lib.hid (fun w1 a6 c6 hb ho=>by
  have hx3:=hx2.scopd hb ho (by have:=HS.out.2.2;omega)
  have h:=HIH.out b _ lv _ _ w1 _ _ _ _ HS.out.2.1 (by simpa using HS.out.2.2) HR.out.2 hx3 (hndb.stays ⟨hb.size,fun k hk a=>⟨hb.block k hk,.inl a⟩⟩)
  rw [← HE.out.2] at h
  exact h)
 have HG2:=Lib.hid g2
 have HK2:=Lib.hid k2
 have HR2:=Lib.hid r2
 have HN0:Hid (n0≤W1.heap.size):=Lib.hid (by have:=HX1.out.gs.1;have:=HX1.out.gs.glt;omega)
 have HYL:Hid (X.bs.length+Y.bs.length≤100000):=Lib.hid (by
  have h1:=expr_len lib a env ts
  have h2:=expr_len lib b (env.put n.name X.par) X.ts
  have h3:=HR.out.1.size
  have h4:=HR.out.2.size
  rw [← HE.out.1] at h1
  rw [← HE.out.2] at h2
  omega)
 have HLE:Hid (el.length+1≤100000∧W1.heap.size≤W2.heap.size):=Lib.hid ⟨by have:=HS.out.2.2;omega,h12⟩
 clear g2 k2 r2 hx2 hndb HI1 HX1 HIH h12 hAq hq1 hq2 hb1 hb2
 go_wp2
 go_cut [15,16,17] (fun s1 s2 s3 wx=>CutL n0 G W2 Y s1 s2 s3 wx)
 case first=>
  go_region_held3 (fun w1=>((w1.cell? ⟨W.heap.size,0,none⟩=some (.int .u8 n.kind)∧w1.cell? ⟨W.heap.size,2,none⟩=some (.string n.name)∧w1.cell? ⟨W.heap.size,3,none⟩=some (.slice (some ⟨q,off,none⟩) 2 kc))∧w1.cell? ⟨q,off+4,none⟩=some (.int .u8 b.kind)∧w1.cell? ⟨q,off+5,none⟩=some (.int .i64 b.num)∧w1.cell? ⟨q,off+6,none⟩=some (.string b.name)∧w1.cell? ⟨q,off+7,none⟩=some (.slice kb b.kids.length kcb)))
   (with_reducible first|exact HFS.out _ HKX.out|exact HFS.out _ (HG2.out.kb (by (repeat (with_reducible first|exact Below.refl _ _|refine bel_drew ?_|refine bel_alloc ?_|(apply bel_step;focus assumption))))))
   (first
   | (refine step_rows (E:=VarE) (D:=fun _=>True) (D':=A) (base:=W2.heap.size) (l:=[]) (m:=el) TVar8 rfl (by decide) (by rfl) (.tmp 84) (.tmp 85) (by rfl) (by rfl) (by rfl) (rows_emptyR (by (repeat (with_reducible first|(refine blk_new ?_;(simp;done))|(refine blk_new ?_;rfl)|refine blk_drew ?_|refine blk_alloc ?_|(apply blk_below;focus assumption)))) (by first|omega|(simp;done)|(simp;omega))) (HEV.out _ (by (repeat (with_reducible first|exact Below.refl _ _|refine bel_drew ?_|refine bel_alloc ?_|(apply bel_step;focus assumption))))) (fun b _ hb2=>⟨trivial,fun e=>by simp [Value.ownBlock] at e;have:=HAP.out _ hb2;omega⟩) (by have:=HLE.out.1;unfold maxLen;simp;omega) (by have:=HLE.out.1;simp;omega) (by first|omega|(simp;done)|(simp;omega)) ?_;intro a6 c6 w4 h4 hg4 hn4;have hb4:Below W2.heap.size W2 w4:=Below.grown (by (repeat (with_reducible first|exact Below.refl _ _|refine bel_drew ?_|refine bel_alloc ?_|(apply bel_step;focus assumption)))) hg4 (by first|omega|(simp;done)|(simp;omega)) (fun k e=>by simp [Value.ownBlock] at e;omega);simp only [List.nil_append,List.length_nil,Nat.zero_add] at h4 hn4;have H4:=Lib.hid h4;have HG4:=Lib.hid hg4;have HN4:=Lib.hid hn4;clear h4 hg4 hn4)
   | (refine step_rows (E:=VarE) (D:=fun _=>True) (base:=W2.heap.size) (l:=el) (m:=[(n.name,X.par)]) TVar8 rfl (by decide) (by rfl) (.tmp 86) (.tmp 92) (by rfl) (by first|rfl|(show Value.slice a6 (0+el.length) c6=_;rw [Nat.zero_add])|(show Value.slice a6 (([]:List (ByteArray × Par)).length+el.length) c6=_;simp)) (by rfl) (H4.out.below (by (repeat (with_reducible first|exact Below.refl _ _|refine bel_drew ?_|refine bel_alloc ?_|(apply bel_step;focus assumption))))) (rows_1 (E:=VarE) (A:=fun b=>b=w4.heap.size) (blk_new rfl) rfl rfl ⟨rfl,rfl,rfl,HNM.out,HXP.out⟩) (fun b _ hb2=>⟨trivial,fun e=>by have:=(H4.out.lt e).2;omega⟩) (by have:=HLE.out.1;unfold maxLen;simp;omega) (by have:=HLE.out.1;simp;omega) (by have:=hb4.size;(try simp);omega) ?_;intro a7 c7 w5 h5 hg5 hn5;have hb5:Below W2.heap.size W2 w5:=Below.grown (by (repeat (with_reducible first|exact Below.refl _ _|refine bel_drew ?_|refine bel_alloc ?_|(apply bel_step;focus assumption)))) hg5 (by have:=hb4.size;(try simp);omega) (fun k e=>(H4.out.lt e).1);have H5:=Lib.hid h5;clear h5 hg5 hn5)
   | (refine step_rows (E:=VarE) (D:=fun _=>True) (base:=W2.heap.size) (l:=el) (m:=[(n.name,X.par)]) TVar8 rfl (by decide) (by rfl) (.tmp 86) (.tmp 92) (by rfl) (by first|rfl|(show Value.slice a6 (0+el.length) c6=_;rw [Nat.zero_add])|(show Value.slice a6 (([]:List (ByteArray × Par)).length+el.length) c6=_;simp)) (by rfl) (H4.out.below (by (repeat (with_reducible first|exact Below.refl _ _|refine bel_drew ?_|refine bel_alloc ?_|(apply bel_step;focus assumption))))) (rows_1 (E:=VarE) (A:=fun b=>W2.heap.size≤b∧b < w4.heap.size∧(Value.slice a6 el.length c6).ownBlock≠some b) ((HG4.out.block _ (by first|omega|(simp;done)|(simp;omega)) (by simp [Value.ownBlock])).trans (by (repeat (with_reducible first|(refine blk_new ?_;(simp;done))|(refine blk_new ?_;rfl)|refine blk_drew ?_|refine blk_alloc ?_|(apply blk_below;focus assumption))))) ⟨(by first|omega|(simp;done)|(simp;omega)),by have:=HG4.out.size;simp at this;omega,fun e=>by rcases HN4.out _ e with e|e <;> simp [Value.ownBlock] at e <;> omega⟩ rfl ⟨rfl,rfl,rfl,HNM.out,HXP.out⟩) (fun b _ hb2=>⟨trivial,hb2.2.2⟩) (by have:=HLE.out.1;unfold maxLen;simp;omega) (by have:=HLE.out.1;simp;omega) (by have:=hb4.size;(try simp);omega) ?_;intro a7 c7 w5 h5 hg5 hn5;have hb5:Below W2.heap.size W2 w5:=Below.grown (by (repeat (with_reducible first|exact Below.refl _ _|refine bel_drew ?_|refine bel_alloc ?_|(apply bel_step;focus assumption)))) hg5 (by have:=hb4.size;(try simp);omega) (fun k e=>(H4.out.lt e).1);have H5:=Lib.hid h5;clear h5 hg5 hn5)
   | (go_at_call 52;with_reducible refine (HIB.out _ _ _ (by (repeat (with_reducible first|exact Below.refl _ _|refine bel_drew ?_|refine bel_alloc ?_|(apply bel_step;focus assumption)))) (H5.out.below (by (repeat (with_reducible first|exact Below.refl _ _|refine bel_drew ?_|refine bel_alloc ?_|(apply bel_step;focus assumption)))))).mono ?_;rintro e wx ⟨a8,c8,rfl,g8,k8,r8⟩;have HCL:=Lib.hid (cutL_mk (W2:=W2) (Y:=Y) (by (repeat (with_reducible first|exact Below.refl _ _|refine bel_drew ?_|refine bel_alloc ?_|(apply bel_step;focus assumption)))) g8 k8 r8);have HKX:Hid (KB n0 W2.heap.size G W2 wx):=Lib.hid ((HG2.out.kb (by (repeat (with_reducible first|exact Below.refl _ _|refine bel_drew ?_|refine bel_alloc ?_|(apply bel_step;focus assumption))))).step k8 ((by (repeat (with_reducible first|exact Below.refl _ _|refine bel_drew ?_|refine bel_alloc ?_|(apply bel_step;focus assumption)))):Below W2.heap.size W2 _).size);clear g8 k8 r8)
   | fail)
  all_goals
   go_wp2
   go_meet
   exact HCL.out
 case rest=>
  obtain ⟨a5,c5,w5,rfl,rfl,rfl,hb5,g5,k5,r5⟩:=hcut
  have h25:=hb5.size
  have h5c:=k5.1.size
  have k25:=(HG2.out.kb hb5).step k5 h25
  have HK25:=Lib.hid k25
  have r2c:=(HR2.out.keep k25).more (hi':=wc.heap.size) (by omega)
  have hn1:=HN0.out
  have hy:=r5.shut (by have:=HYL.out;unfold maxLen;omega)
  have HY2:=Lib.hid hy
  have HR2c:=Lib.hid r2c
  have HG5:=Lib.hid g5
  have HK5:=Lib.hid k5
  have hle:=HLE.out.2
  clear z0 z2 z3 y0 y1 y2 y3 hy r2c k25 g5 k5 r5
  go_wp2_with (at_builtin;refine wpl_ros rfl (.tmp 102) (.tmp 103) rfl HG5.out hn1 (by omega) HR2c.out HY2.out (fun k hk d=>⟨⟨by have:=d.1;omega,hk,d.2.2⟩,fun e=>by have:=(HR2.out.sep k e).1;have:=d.1;omega⟩) rfl rfl (by have:=HYL.out;omega) ?_;intro a9 c9 w9 r9 k9 g9 hs9;have HR9:=Lib.hid r9;have HK9:=Lib.hid k9;have HG9:=Lib.hid g9;clear r9 k9 g9)
  refine bodyPost_ret (results_tmp3 rfl _ _ _) rfl ?_
  unfold XOut
  rw [HF.out.1,HF.out.2.1,HF.out.2.2,List.length_append]
  exact ⟨_,_,rfl,HG9.out,(HKB1.out.step (HK2.out.step HK25.out (by omega)) (by omega)).step HK9.out (by omega),HR9.out.low (by omega)⟩
end Go.Proofs.YtjhimhlebbamoaaDoor
/- Expr of the reference of layer 38:an operation or a call;a round of the loop over the kids. -/
namespace Go.Proofs.YtjhimhlebbamoaaDoor
open Go.RowKit
structure NO (n:Nd) (A:Nat→Prop) (B:Nat) (ka:Option Addr) (kc n0 G:Nat) (W1:World):Prop where
 lt:B < W1.heap.size
 nb:¬ Bx G W1 B
 box:W1.heap[B]?=some (.cells #[.int .u8 n.kind,.int .i64 n.num,.string n.name,.slice ka n.kids.length kc] 66 (0,0))
 kids:KidsAt A W1 (.slice ka n.kids.length kc) n.kids
theorem NO.cells {n:Nd} {A:Nat→Prop} {B kc n0 G:Nat} {ka:Option Addr} {W1 w1:World} (h:NO n A B ka kc n0 G W1) (hk:KB n0 W1.heap.size G W1 w1):
 w1.cell? ⟨B,0,none⟩=some (.int .u8 n.kind)∧w1.cell? ⟨B,1,none⟩=some (.int .i64 n.num)∧w1.cell? ⟨B,2,none⟩=some (.string n.name)∧w1.cell? ⟨B,3,none⟩=some (.slice ka n.kids.length kc):=
 cells4 (hk.blk h.box h.lt h.nb)
theorem NO.kid {n:Nd} {A:Nat→Prop} {B kc n0 G:Nat} {ka:Option Addr} {W1 w1:World} (h:NO n A B ka kc n0 G W1) (hA:∀ b,A b→b < W1.heap.size∧¬ Bx G W1 b) (hk:KB n0 W1.heap.size G W1 w1) {j:Nat} (hj:j < n.kids.length):
 ∃ q off kaj kcj,ka=some ⟨q,off,none⟩∧w1.cell? ⟨q,off+j * 4,none⟩=some (.int .u8 (at' n.kids j).kind)∧w1.cell? ⟨q,off+j * 4+1,none⟩=some (.int .i64 (at' n.kids j).num)∧w1.cell? ⟨q,off+j * 4+2,none⟩=some (.string (at' n.kids j).name)∧w1.cell? ⟨q,off+j * 4+3,none⟩=some (.slice kaj (at' n.kids j).kids.length kcj)∧
   NdAt A w1 (.agg #[.int .u8 (at' n.kids j).kind,.int .i64 (at' n.kids j).num,.string (at' n.kids j).name,.slice kaj (at' n.kids j).kids.length kcj]) (at' n.kids j):=by
 obtain ⟨b,off',cap,kaj,kcj,he,hb,_,_,c0,c1,c2,c3,hnd⟩:=(h.kids.stays (hk.stays hA)).at hj
 simp only [Value.slice.injEq,and_true,true_and] at he
 exact ⟨b,off',kaj,kcj,he.1,c0,c1,c2,c3,hnd⟩
theorem XIn.boxedO {lib:List Fn} {n0 G:Nat} {A:Nat→Prop} {lv ev:Value} {el:List (ByteArray × Par)} {env:Env} {ts:List Par} {W W1:World} {n:Nd} {ka:Option Addr} {kc:Nat} (hx:XIn lib n0 G A lv ev el env ts W) (hn:KidsAt A W (.slice ka n.kids.length kc) n.kids)
 (hW:W1=W.alloc (.cells #[.int .u8 n.kind,.int .i64 n.num,.string n.name,.slice ka n.kids.length kc] 66)):
 XIn lib n0 G A lv ev el env ts W1∧NO n A W.heap.size ka kc n0 G W1∧KB n0 W.heap.size G W W1∧W1.heap.size=W.heap.size+1:=by
 have hb:Below W.heap.size W W1:=by subst hW;exact bel_alloc (Below.refl _ _)
 have hs:W1.heap.size=W.heap.size+1:=by subst hW;simp
 have hbk:W1.heap[W.heap.size]?=some (.cells #[.int .u8 n.kind,.int .i64 n.num,.string n.name,.slice ka n.kids.length kc] 66 (0,0)):=by subst hW;exact at_new0 _ _
 have hkb:=hx.gs.kb hb
 exact ⟨hx.keep hkb (hx.gs.new hb),⟨by omega,fun e=>by have:=hx.gs.lt (bx_below hx.gs.glt hb e);omega,hbk,hn.stays (hkb.stays hx.ap)⟩,hkb,hs⟩
theorem sizeL_takeR:∀ (l:List Nd) (q:Nat),sizeL (l.take q)≤sizeL l
 | [],q=>by simp
 | n :: r,0=>by rw [List.take_zero,sizeL];omega
 | n :: r,q+1=>by
   rw [List.take_succ_cons,sizeL,sizeL]
   have:=sizeL_takeR r q
   omega
def QLoop (lib:List Fn) (call:Bool) (n0 G:Nat) (n:Nd) (env:Env) (ts:List Par) (W1:World) (vl va i:Value) (wr:World):Prop:=∃ q:Nat,i=.int .i64 q∧q≤n.kids.length∧GS n0 G (argsN lib call (n.kids.take q) env ts).ts wr∧KB n0 W1.heap.size G W1 wr∧
 RP W1.heap.size G wr vl (argsN lib call (n.kids.take q) env ts).bs va (argsN lib call (n.kids.take q) env ts).args
theorem QLoop.next {lib:List Fn} {call:Bool} {n0 G:Nat} {n:Nd} {env:Env} {ts:List Par} {W1 wr:World} {vl va i:Value} {q:Nat} {T:List Par} {B:List Bd} {As:List ByteArray} {E:Env} (hq:q < n.kids.length) (e:argsN lib call (n.kids.take (q+1)) env ts=⟨T,B,As,E⟩)
 (hg:GS n0 G T wr) (hk:KB n0 W1.heap.size G W1 wr) (hr:RP W1.heap.size G wr vl B va As) (hi:i=.int .i64 ((q+1:Nat):Int)):QLoop lib call n0 G n env ts W1 vl va i wr:=
 ⟨q+1,hi,hq,by rw [e];exact hg,hk,by rw [e];exact hr⟩
theorem RP.ro {lo G:Nat} {W:World} {v u:Value} {l:List Bd} {m:List ByteArray} (h:RP lo G W v l u m):RO BdE 161 lo W.heap.size G W v l:=⟨h.own.mono (fun _ a=>a.1),h.sep⟩
theorem RP.strs {lo G:Nat} {W:World} {v u:Value} {l:List Bd} {m:List ByteArray} (h:RP lo G W v l u m) (hm:m.length≤maxLen):StrsAt (fun k=>u.ownBlock=some k) W u m:=by
 obtain ⟨xs,hx,hf⟩:=h.au
 exact strs_rows.2 ((show RowsOwn StrE 9 (fun _=>False) lo W u m from ⟨xs,hx,hf⟩).shut (fun _ e=>e.elim) (fun k e=>e) hm)
end Go.Proofs.YtjhimhlebbamoaaDoor
/- Expr of the reference of layer 38:an operation or a call. -/
namespace Go.Proofs.YtjhimhlebbamoaaDoor
open Go.RowKit
def CutK (k:Int) (wr:World) (s:Value) (wx:World):Prop:=s=.bool (opList k)∧wx=wr
theorem rx_op (lib:List Fn) (hl:PLen lib) (n0 G m:Nat) (IH:XOk8 lib n0 G m) (n:Nd) (nv lv ev:Value) (A:Nat→Prop) (W:World) (vis:Vis) (env:Env) (el:List (ByteArray × Par)) (ts:List Par) (hm:sizeN n≤m+1) (hel:el.length+sizeN n≤100000) (h81:n.kind≠81) (h84:n.kind≠84) (h83:n.kind≠83) (hr:Rdy lib n vis env ts) (hx:XIn lib n0 G A lv ev el env ts W) (hn:NdAt A W nv n):
 Calls Tryd.prog 52 #[.pointer (some ⟨G,0,none⟩),lv,ev,nv] W (XOut n0 G W (exprN lib n env ts)):=by
 obtain ⟨hok,hlen,ka,kc,rfl,hkk⟩:=hn.open
 obtain ⟨W1,hW1⟩:∃ W1,W1=W.alloc (.cells #[.int .u8 n.kind,.int .i64 n.num,.string n.name,.slice ka n.kids.length kc] 66):=⟨_,rfl⟩
 obtain ⟨x1,hno,kb1,hs1⟩:=hx.boxedO hkk hW1
 obtain ⟨call,hcall⟩:∃ call,call=decide (n.kind=85):=⟨_,rfl⟩
 have k85:(n.kind == 85)=call:=by rw [hcall];rfl
 have HX1:=Lib.hid x1
 have HNO:=Lib.hid hno
 have HKB1:=Lib.hid kb1
 have HR:=Lib.hid hr
 have HAQ:=Lib.hid (rdy_args hl hr h81 h84 call)
 have HOP:Hid (exprN lib n env ts=⟨(argsN lib call n.kids env ts).ts ++ [⟨tname (argsN lib call n.kids env ts).ts.length,if n.kind=85 then (fnAt lib (findF lib n.name)).list else opList n.kind⟩],
  (argsN lib call n.kids env ts).bs ++ [.mk (tname (argsN lib call n.kids env ts).ts.length) (if n.kind=85 then (fnAt lib (findF lib n.name)).list else opList n.kind) n.kind n.num n.name (argsN lib call n.kids env ts).args [] []],
  ⟨tname (argsN lib call n.kids env ts).ts.length,if n.kind=85 then (fnAt lib (findF lib n.name)).list else opList n.kind⟩,(argsN lib call n.kids env ts).env⟩):=Lib.hid (by rw [hcall];exact rdy_op hr h81 h84 h83)
 have hrc:call=true→0≤findF lib n.name:=fun h=>(rdy_call hr (by rw [hcall] at h;simpa using h)).1
 have HRC:=Lib.hid hrc
 obtain ⟨lt,hLT⟩:∃ lt,lt=if n.kind=85 then (fnAt lib (findF lib n.name)).list else opList n.kind:=⟨_,rfl⟩
 rw [← hLT] at HOP
 have HL1:Hid (call=true→lt=(fnAt lib (findF lib n.name)).list):=Lib.hid (fun h=>by rw [hLT,if_pos (by rw [hcall] at h;simpa using h)])
 have HJ:Hid (call=true→∃ j:Nat,findF lib n.name=(j:Int)∧j < lib.length∧(at' lib j).list=lt):=Lib.hid (fun h=>by
  have h1:=hrc h
  have h2:=HL1.out h
  have h3:=findF_lt (lib:=lib) (name:=n.name) (by omega)
  refine ⟨(findF lib n.name).toNat,by omega,h3.2,?_⟩
  rw [h2];rfl)
 have HL2:Hid (call=false→lt=opList n.kind):=Lib.hid (fun h=>by rw [hLT,if_neg (by rw [hcall] at h;simpa using h)])
 have HOK:=Lib.hid hok
 have HEL:Hid (el.length+sizeN n≤100000∧sizeN n≤m+1∧ts.length+2 * sizeN n≤10000):=Lib.hid ⟨hel,hm,hr.size⟩
 have HIH:=Lib.hid IH
 have k81:(n.kind == 81)=false:=by simp [h81]
 have k84:(n.kind == 84)=false:=by simp [h84]
 have k83:(n.kind == 83)=false:=by simp [h83]
 have HPL:=Lib.hid hl
 have HN0:Hid (n0≤W1.heap.size):=Lib.hid (by have:=x1.gs.1;have:=x1.gs.glt;omega)
 have hw1:W.heap.size < W1.heap.size:=by omega
 have HW1:=Lib.hid hw1
 obtain ⟨z0,z1,z2,z3⟩:=hno.cells (KB.refl _ _ _ _)
 have hkl:n.kids.length≤100000:=by
  have:=HEL.out.2.2
  have h2:=sizeN_eq n
  have h3:=length_size n.kids
  omega
 clear hn hkk hok hlen hr hx x1 hno kb1 hrc hLT hel IH hm hcall h81 h84 h83 hs1 hl hw1
 go_enter Tryd.func52,Tryd.ntmps52
 go_wp2_with fail
 rw [← hW1]
 clear hW1
 go_loopw [29,30,31] (fun vl va i wr=>QLoop lib call n0 G n env ts W1 vl va i wr) (fun _ _ i _=>n.kids.length - (intOf i).toNat)
 case atStart=>
  have e:argsN lib call (n.kids.take 0) env ts=⟨ts,[],[],env⟩:=by rw [List.take_zero,argsN]
  exact ⟨0,rfl,Nat.zero_le _,by rw [e];exact HX1.out.gs,KB.refl _ _ _ _,by rw [e];exact RP.nil _ _ _⟩
 case round=>
  clear z0 z1 z2 z3
  obtain ⟨q,rfl,hq,hg,hkb,hrp⟩:=hrel
  obtain ⟨⟨al,cl,rfl⟩,aa,ca,rfl⟩:=hrp.forms
  obtain ⟨z0,z1,z2,z3⟩:=HNO.out.cells hkb
  have hzr:=hkb.1.size
  have HAq:=Lib.hid (HAQ.out q hq)
  have HKr:=Lib.hid hkb
  by_cases hlt:q < n.kids.length
  · obtain ⟨qb,off,kaj,kcj,hka,y0,y1,y2,y3,hnd⟩:=HNO.out.kid HX1.out.ap hkb hlt
    subst hka
    have he:=args_take lib call hlt env ts
    have hbl:=(args_len lib call (n.kids.take q) env ts).2.2
    have hst:=sizeL_takeR n.kids q
    have hsk:=size_kid n q hlt
    have hsn:=sizeN_eq n
    have hrd:=HAq.out.rdy hlt
    have hal:=args_len2 lib call (n.kids.take q) env ts
    rw [List.length_take,Nat.min_eq_left hq] at hal
    rw [argStep,HAq.out.ev] at he
    generalize hR:argsN lib call (n.kids.take q) env ts=R at *
    have hgd:=hrd.good HPL.out
    have hxl:=expr_len lib (at' n.kids q) env R.ts
    have HIq:=Lib.hid (HIH.out (at' n.kids q) _ lv ev A wr vis env el R.ts (by have:=HEL.out;omega) (by have:=HEL.out;omega) hrd (HX1.out.keep hkb hg) hnd)
    generalize hX:exprN lib (at' n.kids q) env R.ts=X at *
    have HND:=Lib.hid hnd
    have hform:=hrd.form
    have hXt:X.ts.length≤10000:=by have:=hrd.size;omega
    have hlens:R.bs.length+X.bs.length+1≤100000:=by have:=HEL.out;omega
    have hR1:R.args.length+1≤100000:=by omega
    have HGX:=Lib.hid hgd.name
    have HRP:=Lib.hid hrp
    have HE:=Lib.hid he
    have HFM:=Lib.hid hform
    have i0:(0:Int)≤(q:Int):=by omega
    have i1:(q:Int) < (n.kids.length:Int):=by omega
    have HQ:=Lib.hid hal
    clear hrp hg hkb hnd he hbl hst hsk hsn hrd hgd hxl hform HAq hR hX hal
    go_wp2_with fail
    refine HIq.out.mono ?_
    rintro e w2 ⟨a2,c2,rfl,g2,k2,r2⟩
    have h2z:=k2.1.size
    have HK2:=Lib.hid (HKr.out.trans (k2.less hzr))
    have HRP2:=Lib.hid (HRP.out.keep k2)
    have hy:=r2.shut (by unfold maxLen;omega)
    have HY2:=Lib.hid hy
    have HG2:=Lib.hid g2
    have HDD:Hid (∀ k,k < w2.heap.size→DR wr.heap.size w2.heap.size G w2 k→(DR W1.heap.size w2.heap.size G w2 k∧(Value.slice aa R.args.length ca).ownBlock≠some k)∧(Value.slice al R.bs.length cl).ownBlock≠some k):=Lib.hid (fun k hk d=>⟨⟨⟨by have:=d.1;omega,hk,d.2.2⟩,fun e=>by have:=(HRP.out.sepu k e).1;have:=d.1;omega⟩,fun e=>by have:=(HRP.out.sep k e).1;have:=d.1;omega⟩)
    obtain ⟨ka2,kc2,hkz,x0,x1,x2,x3,hnd2⟩:∃ ka2 kc2,True∧w2.cell? ⟨qb,off+q * 4,none⟩=some (.int .u8 (at' n.kids q).kind)∧w2.cell? ⟨qb,off+q * 4+1,none⟩=some (.int .i64 (at' n.kids q).num)∧w2.cell? ⟨qb,off+q * 4+2,none⟩=some (.string (at' n.kids q).name)∧w2.cell? ⟨qb,off+q * 4+3,none⟩=some (.slice ka2 (at' n.kids q).kids.length kc2)∧NdAt A w2 (.agg #[.int .u8 (at' n.kids q).kind,.int .i64 (at' n.kids q).num,.string (at' n.kids q).name,.slice ka2 (at' n.kids q).kids.length kc2]) (at' n.kids q):=by
     obtain ⟨q',o',k',c',e,r⟩:=HNO.out.kid HX1.out.ap HK2.out hlt
     simp only [Option.some.injEq,Addr.mk.injEq,and_true] at e
     obtain ⟨rfl,rfl⟩:=e
     exact ⟨k',c',trivial,r⟩
    clear x0 x1 x2 x3 hnd2 hkz ka2 kc2
    have hn1:=HN0.out
    clear z0 z1 z2 z3 y0 y1 y2 y3 g2 k2 r2 hy HIq
    go_upto_region 30 with (at_builtin;refine wpl_rp rfl (.tmp 209) (.tmp 210) rfl HG2.out hn1 (by omega) HRP2.out HY2.out HDD.out rfl rfl (by omega) ?_;intro a3 c3 w3 rp3 k3 g3 hs3;have HRP3:=Lib.hid rp3;have HK3:=Lib.hid k3;have HG3:=Lib.hid g3;clear rp3 k3 g3)
    have hk13:=HK2.out.trans (HK3.out.less (Nat.le_refl _))
    obtain ⟨z0,z1,z2,z3⟩:=HNO.out.cells hk13
    obtain ⟨ka3,kc3,x0,x1,x2,x3,hnd3⟩:∃ ka2 kc2,w3.cell? ⟨qb,off+q * 4,none⟩=some (.int .u8 (at' n.kids q).kind)∧w3.cell? ⟨qb,off+q * 4+1,none⟩=some (.int .i64 (at' n.kids q).num)∧w3.cell? ⟨qb,off+q * 4+2,none⟩=some (.string (at' n.kids q).name)∧w3.cell? ⟨qb,off+q * 4+3,none⟩=some (.slice ka2 (at' n.kids q).kids.length kc2)∧NdAt A w3 (.agg #[.int .u8 (at' n.kids q).kind,.int .i64 (at' n.kids q).num,.string (at' n.kids q).name,.slice ka2 (at' n.kids q).kids.length kc2]) (at' n.kids q):=by
     obtain ⟨q',o',k',c',e,r⟩:=HNO.out.kid HX1.out.ap hk13 hlt
     simp only [Option.some.injEq,Addr.mk.injEq,and_true] at e
     obtain ⟨rfl,rfl⟩:=e
     exact ⟨k',c',r⟩
    have HNM:=Lib.hid (namesR_upto (sizeN (at' n.kids q)) (at' n.kids q) _ A w3 (Nat.le_refl _) HFM.out hnd3)
    have HK13:=Lib.hid hk13
    clear hnd3 hk13 HK2
    cases hcn:(call && namesN (sizeN (at' n.kids q)) (at' n.kids q)) with
    | true=>
      have hn2:namesN (sizeN (at' n.kids q)) (at' n.kids q)=true:=by simp at hcn;exact hcn.2
      have hc2:call=true:=by simp at hcn;exact hcn.1
      rw [hcn,if_pos rfl] at HE
      rw [hn2] at HNM
      subst hc2
      go_wp2_with fail
      refine HNM.out.mono ?_
      rintro e w4 ⟨rfl,hb4⟩
      have hk4:=HG3.out.kb hb4
      have hg4:=HG3.out.new hb4
      have HRP4:=Lib.hid (HRP3.out.keep hk4)
      have HK4:=Lib.hid (HK13.out.step hk4 (by have:=HK13.out.1.size;omega))
      have h34:=hb4.size
      have HT:=Lib.hid (tempR_any X.par.list w4 hg4 (by omega))
      clear hk4 hg4 z0 z1 z2 z3 x0 x1 x2 x3 hb4 HNM
      go_wp2_with fail
      refine HT.out.mono ?_
      rintro e w5 ⟨rfl,g5,k5⟩
      have HG5:=Lib.hid g5
      have HRP5:=Lib.hid (HRP4.out.keep k5)
      have HK5:=Lib.hid (HK4.out.step k5 (by have:=HK4.out.1.size;omega))
      have h45:=k5.1.size
      have h14:=HK4.out.1.size
      clear g5 k5 HT
      go_wp2_with (first
       | (at_builtin;refine wpl_rp1 rfl (.tmp 226) (.tmp 232) rfl HG5.out hn1 (by omega) HRP5.out (tn:=tname X.ts.length) (li:=X.par.list) (nm:=X.par.name) (by have:=gname_size HGX.out;unfold maxLen;omega) (okb_var hXt HGX.out) rfl rfl (by rw [List.length_append];omega) ?_;intro a6 c6 w6 rp6 k6 g6 hs6;have HRP6:=Lib.hid rp6;have HK6:=Lib.hid k6;have HG6:=Lib.hid g6;clear rp6 k6 g6)
       | (at_builtin;refine wpl_rps rfl (.tmp 235) (.tmp 237) rfl HG6.out hn1 (by omega) HRP6.out (nm:=tname X.ts.length) (by have:=gname_size (gname_t hXt);unfold maxLen;omega) rfl rfl (by omega) ?_;intro a7 c7 w7 rp7 k7 g7 hs7;have HRP7:=Lib.hid rp7;have HK7:=Lib.hid k7;have HG7:=Lib.hid g7;clear rp7 k7 g7))
      exact ⟨QLoop.next hlt HE.out HG7.out ((HK5.out.trans HK6.out).trans HK7.out) (by have h:=HRP7.out;rw [List.length_append] at h;exact h) (by go_num),by simp [intOf];omega⟩
    | false=>
      rw [hcn,if_neg (by decide)] at HE
      cases hc:call with
      | true=>
        have hn2:namesN (sizeN (at' n.kids q)) (at' n.kids q)=false:=by rw [hc] at hcn;simpa using hcn
        rw [hn2] at HNM
        subst hc
        go_wp2_with fail
        refine HNM.out.mono ?_
        rintro e w4 ⟨rfl,hb4⟩
        have hk4:=HG3.out.kb hb4
        have hg4:=HG3.out.new hb4
        have HRP4:=Lib.hid (HRP3.out.keep hk4)
        have HK4:=Lib.hid (HK13.out.step hk4 (by have:=HK13.out.1.size;omega))
        have h34:=hb4.size
        have HG4:=Lib.hid hg4
        have h14:=HK4.out.1.size
        clear hk4 hg4 z0 z1 z2 z3 x0 x1 x2 x3 hb4 HNM
        go_wp2_with (at_builtin;refine wpl_rps rfl (.tmp 235) (.tmp 237) rfl HG4.out hn1 (by omega) HRP4.out (nm:=X.par.name) (by have:=gname_size HGX.out;unfold maxLen;omega) rfl rfl (by omega) ?_;intro a7 c7 w7 rp7 k7 g7 hs7;have HRP7:=Lib.hid rp7;have HK7:=Lib.hid k7;have HG7:=Lib.hid g7;clear rp7 k7 g7)
        exact ⟨QLoop.next hlt HE.out HG7.out (HK4.out.trans HK7.out) HRP7.out (by go_num),by simp [intOf];omega⟩
      | false=>
        subst hc
        have HG4:=Lib.hid HG3.out
        have HRP4:=Lib.hid HRP3.out
        have HK4:=Lib.hid HK13.out
        have h14:=HK4.out.1.size
        clear HNM
        go_wp2_with (at_builtin;refine wpl_rps rfl (.tmp 235) (.tmp 237) rfl HG4.out hn1 (by omega) HRP4.out (nm:=X.par.name) (by have:=gname_size HGX.out;unfold maxLen;omega) rfl rfl (by omega) ?_;intro a7 c7 w7 rp7 k7 g7 hs7;have HRP7:=Lib.hid rp7;have HK7:=Lib.hid k7;have HG7:=Lib.hid g7;clear rp7 k7 g7)
        exact ⟨QLoop.next hlt HE.out HG7.out (HK4.out.trans HK7.out) HRP7.out (by go_num),by simp [intOf];omega⟩
  · obtain rfl:q=n.kids.length:=by omega
    have hbl:=(args_len lib call n.kids env ts).2.2
    have hal:=args_len2 lib call n.kids env ts
    have hlt':¬ (n.kids.length:Int) < (n.kids.length:Int):=by omega
    have hsn:=sizeN_eq n
    have hAt:=HAq.out.tn
    have hAl:=HAq.out.len
    rw [List.take_length] at hg hrp hAt hAl ⊢
    have hR1:(argsN lib call n.kids env ts).args.length≤100000:=by rw [hal];omega
    have hB1:(argsN lib call n.kids env ts).bs.length+1≤100000:=by have:=HEL.out;omega
    have hT1:(argsN lib call n.kids env ts).ts.length≤10000:=by omega
    generalize hRR:argsN lib call n.kids env ts=R at *
    have hT2:R.ts.length≤100000:=by omega
    have hB2:R.bs.length≤100000:=by omega
    have hRm:R.args.length≤maxLen:=by unfold maxLen;omega
    have HTS:Hid ((tname R.ts.length).size≤maxLen):=Lib.hid (by have:=gname_size (gname_t hT1);unfold maxLen;omega)
    have hwc:W.heap.size≤W1.heap.size:=Nat.le_of_lt HW1.out
    have HWC:=Lib.hid hwc
    have HG:=Lib.hid hg
    have HRP:=Lib.hid hrp
    have hn1:=HN0.out
    clear hg hrp hbl hal hsn hAt hAl hRR HAq hkb HAQ HIH
    go_upto_region 35 with fail
    go_cut [36] (fun s wx=>CutK n.kind wr s wx)
    case first=>
     by_cases h86:n.kind=86
     · have HO:=Lib.hid (show opList n.kind=true by simp [opList,h86])
       have k86:(n.kind == 86)=true:=by simp [h86]
       clear h86
       go_wp2
       go_meet
       exact ⟨by rw [HO.out],rfl⟩
     have k86:(n.kind == 86)=false:=by simp [h86]
     by_cases h87:n.kind=87
     · have HO:=Lib.hid (show opList n.kind=true by simp [opList,h87])
       have k87:(n.kind == 87)=true:=by simp [h87]
       clear h86 h87
       go_wp2
       go_meet
       exact ⟨by rw [HO.out],rfl⟩
     have k87:(n.kind == 87)=false:=by simp [h87]
     by_cases h89:n.kind=89
     · have HO:=Lib.hid (show opList n.kind=true by simp [opList,h89])
       have k89:(n.kind == 89)=true:=by simp [h89]
       clear h86 h87 h89
       go_wp2
       go_meet
       exact ⟨by rw [HO.out],rfl⟩
     have k89:(n.kind == 89)=false:=by simp [h89]
     have HO:=Lib.hid (show opList n.kind=false by simp [opList,h86,h87,h89])
     clear h86 h87 h89
     go_wp2
     go_meet
     exact ⟨by rw [HO.out],rfl⟩
    case rest=>
     obtain ⟨rfl,rfl⟩:=hcut
     have HFIN:Hid (∀ wx,Below wc.heap.size wc wx→GS n0 G R.ts wx∧KB n0 W1.heap.size G W1 wx∧RP W1.heap.size G wx (.slice al R.bs.length cl) R.bs (.slice aa R.args.length ca) R.args):=Lib.hid (fun wx h=>by
      have hk:=HG.out.kb h
      exact ⟨HG.out.new h,HKr.out.step hk hzr,HRP.out.keep hk⟩)
     cases call with
     | true=>
       obtain ⟨j,hj,hjl,hop⟩:=HJ.out rfl
       have hXc:=HX1.out.keep HKr.out HG.out
       have hFD:=findR_any lv lib n.name A wc hXc.lvs
       rw [hj] at hFD
       obtain ⟨b,off,cap',pa,pc,ka',kc',he,hb,_,_,c0,c1,c2,c3,c4,c5,c6,hs,hp,hn⟩:=hXc.lvs.at hjl
       subst he
       rw [hop] at c2
       have HFD:=Lib.hid hFD
       have HC2:Hid (∀ wx,Below wc.heap.size wc wx→wx.cell? ⟨b,off+j * 7+2,none⟩=some (.bool lt)):=Lib.hid (fun wx h=>cell_bel h c2)
       have j0:(0:Int)≤(j:Int):=Int.natCast_nonneg j
       have j1:(j:Int) < (lib.length:Int):=Int.ofNat_lt.2 hjl
       clear hFD hXc c0 c1 c2 c3 c4 c5 c6 hs hp hn hop hj
       go_wp2_with fail
       refine HFD.out.mono ?_
       rintro e w4 ⟨rfl,hb4⟩
       have c2:=HC2.out w4 hb4
       go_wp2_with fail
       refine (tempR_any lt w4 (HFIN.out w4 hb4).1 hT2).mono ?_
       rintro e w5 ⟨rfl,g5,k5⟩
       have HG5:=Lib.hid g5
       have HRP5:=Lib.hid ((HFIN.out w4 hb4).2.2.keep k5)
       have hk15:=(HFIN.out w4 hb4).2.1.step k5 (Nat.le_trans hzr (Below.size hb4))
       have HK5:=Lib.hid hk15
       obtain ⟨z0,z1,z2,z3⟩:=HNO.out.cells hk15
       have h15:=hk15.1.size
       have HST:=Lib.hid (HRP5.out.strs hRm)
       have hok:Hid ((Bd.mk (tname R.ts.length) lt n.kind n.num n.name R.args [] []).Ok1):=Lib.hid (by
        obtain ⟨o1,o2,o3⟩:=HOK.out
        exact ⟨HTS.out,o1,o2,o3⟩)
       have HDD:Hid (∀ k,k < w5.heap.size→(Value.slice aa R.args.length ca).ownBlock=some k→DR W1.heap.size w5.heap.size G w5 k∧(Value.slice al R.bs.length cl).ownBlock≠some k):=Lib.hid (fun k hk e=>⟨⟨(HRP5.out.au.lt e).1,hk,(HRP5.out.sepu k e).2.1⟩,(HRP5.out.sepu k e).2.2⟩)
       clear g5 k5 hk15
       go_wp2_with (at_builtin;refine wpl_bind rfl (.tmp 266) (.tmp 277) rfl HG5.out hn1 h15 HRP5.out.ro (b:=.mk (tname R.ts.length) lt n.kind n.num n.name R.args [] []) (D':=fun k=>(Value.slice aa R.args.length ca).ownBlock=some k) HST.out (BdsAt.nil _) (BdsAt.nil _) hok.out HDD.out rfl rfl hB2 ?_;intro a9 c9 w9 r9 k9 g9 hs9;have HR9:=Lib.hid r9;have HK9:=Lib.hid k9;have HG9:=Lib.hid g9;clear r9 k9 g9)
       refine bodyPost_ret (results_tmp3 rfl _ _ _) rfl ?_
       unfold XOut
       rw [HOP.out,List.length_append,List.length_singleton]
       exact ⟨_,_,rfl,HG9.out,(HKB1.out.step HK5.out hwc).step HK9.out hwc,HR9.out.low hwc⟩
     | false=>
       have hop:=HL2.out rfl
       rw [← hop]
       clear hop
       go_wp2_with fail
       refine (tempR_any lt wc (HFIN.out wc (Below.refl _ _)).1 hT2).mono ?_
       rintro e w5 ⟨rfl,g5,k5⟩
       have HG5:=Lib.hid g5
       have HRP5:=Lib.hid ((HFIN.out wc (Below.refl _ _)).2.2.keep k5)
       have hk15:=(HFIN.out wc (Below.refl _ _)).2.1.step k5 (Nat.le_trans hzr (Below.size (Below.refl wc.heap.size wc)))
       have HK5:=Lib.hid hk15
       obtain ⟨z0,z1,z2,z3⟩:=HNO.out.cells hk15
       have h15:=hk15.1.size
       have HST:=Lib.hid (HRP5.out.strs hRm)
       have hok:Hid ((Bd.mk (tname R.ts.length) lt n.kind n.num n.name R.args [] []).Ok1):=Lib.hid (by
        obtain ⟨o1,o2,o3⟩:=HOK.out
        exact ⟨HTS.out,o1,o2,o3⟩)
       have HDD:Hid (∀ k,k < w5.heap.size→(Value.slice aa R.args.length ca).ownBlock=some k→DR W1.heap.size w5.heap.size G w5 k∧(Value.slice al R.bs.length cl).ownBlock≠some k):=Lib.hid (fun k hk e=>⟨⟨(HRP5.out.au.lt e).1,hk,(HRP5.out.sepu k e).2.1⟩,(HRP5.out.sepu k e).2.2⟩)
       clear g5 k5 hk15
       go_wp2_with (at_builtin;refine wpl_bind rfl (.tmp 266) (.tmp 277) rfl HG5.out hn1 h15 HRP5.out.ro (b:=.mk (tname R.ts.length) lt n.kind n.num n.name R.args [] []) (D':=fun k=>(Value.slice aa R.args.length ca).ownBlock=some k) HST.out (BdsAt.nil _) (BdsAt.nil _) hok.out HDD.out rfl rfl hB2 ?_;intro a9 c9 w9 r9 k9 g9 hs9;have HR9:=Lib.hid r9;have HK9:=Lib.hid k9;have HG9:=Lib.hid g9;clear r9 k9 g9)
       refine bodyPost_ret (results_tmp3 rfl _ _ _) rfl ?_
       unfold XOut
       rw [HOP.out,List.length_append,List.length_singleton]
       exact ⟨_,_,rfl,HG9.out,(HKB1.out.step HK5.out hwc).step HK9.out hwc,HR9.out.low hwc⟩
