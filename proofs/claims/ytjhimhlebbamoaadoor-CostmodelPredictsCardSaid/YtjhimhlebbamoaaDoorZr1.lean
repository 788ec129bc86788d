/- Contracts and plain lemmas (R43Ed): no statement of the seat is proved here. -/
import Derived.Test.YtjhimhlebbamoaaDoorZs4
/- The reference of layer 43:binds are executed. -/
set_option linter.unusedSimpArgs false
set_option linter.unusedVariables false
set_option linter.unusedSectionVars false
set_option maxRecDepth 100000
set_option maxHeartbeats 51200000
namespace Go.Proofs.YtjhimhlebbamoaaDoor
open Go.RowKit
theorem goodBs_at {lib:List Fn}:∀ {l:List Bd},GoodBs lib l→∀ j,j < l.length→GoodB lib (at' l j)
 | [],_,j,hj=>by simp at hj
 | b :: l,h,0,_=>by rw [GoodBs] at h;exact h.1
 | b :: l,h,j+1,hj=>by
   rw [GoodBs] at h
   exact goodBs_at h.2 j (by simpa using hj)
theorem toOks_at {lo:Nat} {ts:List Par}:∀ {l:List Bd},ToOks lo ts l→∀ j,j < l.length→ToOk lo ts (at' l j)
 | [],_,j,hj=>by simp at hj
 | b :: l,h,0,_=>by rw [ToOks] at h;exact h.1
 | b :: l,h,j+1,hj=>by
   rw [ToOks] at h
   exact toOks_at h.2 j (by simpa using hj)
theorem bd43_at {A:Nat→Prop} {w:World} {v:Value} {l:List Bd} (h:BdsAt A w v l) {k:Nat} (hk:k < l.length) {tn:ByteArray} {li:Bool} {op num:Int} {name:ByteArray} {args:List ByteArray} {thn els:List Bd} (hb:at' l k=.mk tn li op num name args thn els):
 ∃ b off cap ga gc ta tc ea ec,v=.slice (some ⟨b,off,none⟩) l.length cap∧(w.cell? ⟨b,off+k * 8,none⟩=some (.string tn)∧w.cell? ⟨b,off+k * 8+1,none⟩=some (.bool li)∧w.cell? ⟨b,off+k * 8+2,none⟩=some (.int .u8 op)∧w.cell? ⟨b,off+k * 8+3,none⟩=some (.int .i64 num)∧w.cell? ⟨b,off+k * 8+4,none⟩=some (.string name)∧
   w.cell? ⟨b,off+k * 8+5,none⟩=some (.slice ga args.length gc)∧w.cell? ⟨b,off+k * 8+6,none⟩=some (.slice ta thn.length tc)∧w.cell? ⟨b,off+k * 8+7,none⟩=some (.slice ea els.length ec))∧
   StrsAt A w (.slice ga args.length gc) args∧BdsAt A w (.slice ta thn.length tc) thn∧BdsAt A w (.slice ea els.length ec) els∧tn.size≤maxLen∧In64 num∧name.size≤maxLen:=by
 obtain ⟨b,off,cap,cs,rfl,_,_,_,hc,hbc⟩:=(bds_rows.1 h).at hk
 have hbc:BdCells A w cs (at' l k):=hbc
 rw [hb] at hbc
 obtain ⟨c0,c1,c2,c3,c4,c5,c6,c7,o1,o2,o3,o4⟩:=hbc
 obtain ⟨_,ga,gc,e5⟩:=(strs_rows.1 c5).form
 obtain ⟨_,ta,tc,e6⟩:=(bds_rows.1 c6).form
 obtain ⟨_,ea,ec,e7⟩:=(bds_rows.1 c7).form
 rw [e5] at c5
 rw [e6] at c6
 rw [e7] at c7
 exact ⟨b,off,cap,ga,gc,ta,tc,ea,ec,rfl,⟨(hc 0 (by decide)).trans (by rw [c0];rfl),(hc 1 (by decide)).trans (by rw [c1];rfl),(hc 2 (by decide)).trans (by rw [c2];rfl),(hc 3 (by decide)).trans (by rw [c3];rfl),(hc 4 (by decide)).trans (by rw [c4];rfl),(hc 5 (by decide)).trans (by rw [e5];rfl),(hc 6 (by decide)).trans (by rw [e6];rfl),(hc 7 (by decide)).trans (by rw [e7];rfl)⟩,c5,c6,c7,o1,o3,o4⟩
theorem bds_blk {A:Nat→Prop} {w:World} {b off n cap:Nat} {l:List Bd} (h:BdsAt A w (.slice (some ⟨b,off,none⟩) n cap) l) {k:Nat} (hk:k < l.length):A b:=by
 obtain ⟨b',off',cap',cs,he,_,_,hA,_,_⟩:=(bds_rows.1 h).at hk
 simp only [Value.slice.injEq,Option.some.injEq,Addr.mk.injEq,and_true] at he
 obtain ⟨⟨rfl,-⟩,-⟩:=he
 exact hA
theorem keeps_cell {w w':World} {S:Nat→Prop} (hk:Keeps w w' S) {a:Addr} {v:Value} (hc:w.cell? a=some v) (hn:¬ S a.block):w'.cell? a=some v:=by
 have hlt:a.block < w.heap.size:=by
  rcases Nat.lt_or_ge a.block w.heap.size with h|h
  · exact h
  · unfold World.cell? at hc
    rw [Array.getElem?_eq_none h] at hc
    cases hc
 unfold World.cell? at hc ⊢
 rw [hk.block _ hlt hn]
 exact hc
structure ALp (A:Nat→Prop) (vals:VEnv) (args:List ByteArray) (W1:World) (q:Nat) (v:Value) (wr:World) (us:List Vl):Prop where
 bl:Below W1.heap.size W1 wr
 row:RowsOwn VlE 96 (fun k=>A k∨W1.heap.size≤k) W1.heap.size wr v us
 len:us.length=q
 eq:us.map cleanV=(args.take q).map (fun a=>cleanV (vals a))
theorem wrap43 {n:Int} (h0:0≤n) (h1:n≤1000000):IntKind.i64.wrap n=n:=by
 unfold IntKind.wrap
 have e1:((2:Int) ^ IntKind.bits .i64)=18446744073709551616:=by decide
 have e2:((2:Int) ^ (IntKind.bits .i64 - 1))=9223372036854775808:=by decide
 simp only [e1,e2,IntKind.signed,Bool.true_and,decide_eq_true_eq]
 have e3:n % 18446744073709551616=n:=by omega
 rw [e3]
 split
 · omega
 · rfl
theorem map_take_snoc {α:Type} {f:ByteArray→α} {args:List ByteArray} {q:Nat} (hq:q < args.length):(args.take (q+1)).map f=(args.take q).map f ++ [f (at' args q)]:=by
 rw [List.take_add_one,List.getElem?_eq_getElem hq,Option.toList_some,List.map_append,at_eq hq];rfl
theorem cexec_res {ap:Ap} {lib:List Fn} {tn:ByteArray} {li:Bool} {op num:Int} {name:ByteArray} {args:List ByteArray} {thn els:List Bd} {vals v1:VEnv} {calls r1:List Tr} {cb:Int} (hop:op=80∨op=81∨op=82∨op=86∨op=87∨op=88∨op=89∨op=90) (h:cexecB ap lib (.mk tn li op num name args thn els) vals calls=some (v1,r1,cb)):
 ∃ x,resultB ap op num li args vals=some x∧v1=vals.put tn x∧r1=calls∧cb=1∧chkB ap op num li args vals=true∧x.list=li:=by
 rw [cexecB_eq] at h
 by_cases hc:chkB ap op num li args vals=true
 · rw [if_pos hc,if_neg (by omega),if_neg (by omega)] at h
   cases hr:resultB ap op num li args vals with
   | none=>rw [hr] at h;cases h
   | some x=>
     rw [hr] at h
     simp only [Option.map_some,Option.some.injEq,Prod.mk.injEq] at h
     refine ⟨x,rfl,h.1.symm,h.2.1.symm,h.2.2.symm,hc,?_⟩
     rcases hop with rfl|rfl|rfl|rfl|rfl|rfl|rfl|rfl
     · simp [resultB] at hr;simp [chkB,opList] at hc;rw [← hr,hc]
     · simp [resultB] at hr;simp [chkB] at hc;rw [← hr,hc]
     · simp [resultB] at hr;simp [chkB,opList] at hc;rw [← hr,hc.1]
     · simp [resultB] at hr;rw [← hr]
     · simp [resultB] at hr;simp [chkB,opList] at hc;rw [← hr,hc.1]
     · simp [resultB] at hr;simp [chkB,opList] at hc;rw [← hr.2,hc.1]
     · simp [resultB] at hr;simp [chkB,opList] at hc;rw [← hr.2,hc.1]
     · simp [resultB] at hr;simp [chkB,opList] at hc
       rw [hc.1,← hr]
       split <;> rfl
 · rw [if_neg hc] at h;cases h
theorem cexec_ifR {ap:Ap} {lib:List Fn} {tn:ByteArray} {li:Bool} {num:Int} {name:ByteArray} {args:List ByteArray} {thn els:List Bd} {vals v1:VEnv} {calls r1:List Tr} {cb:Int} (h:cexecB ap lib (.mk tn li 83 num name args thn els) vals calls=some (v1,r1,cb)):
 (vals (at' args 0)).list=false∧cexecBs ap lib (if (vals (at' args 0)).n≠0 then thn else els) vals calls=some (v1,r1,cb - 1):=by
 rw [cexecB_eq] at h
 by_cases hc:chkB ap 83 num li args vals=true
 · rw [if_pos hc,if_pos rfl] at h
   refine ⟨by simpa [chkB] using hc,?_⟩
   by_cases hz:(vals (at' args 0)).n≠0
   · rw [if_pos hz] at h ⊢
     cases hx:cexecBs ap lib thn vals calls with
     | none=>rw [hx] at h;cases h
     | some y=>
       obtain ⟨y1,y2,y3⟩:=y
       rw [hx] at h
       simp only [Option.map_some,Option.some.injEq,Prod.mk.injEq] at h
       obtain ⟨rfl,rfl,rfl⟩:=h
       rw [Int.add_sub_cancel]
   · rw [if_neg hz] at h ⊢
     cases hx:cexecBs ap lib els vals calls with
     | none=>rw [hx] at h;cases h
     | some y=>
       obtain ⟨y1,y2,y3⟩:=y
       rw [hx] at h
       simp only [Option.map_some,Option.some.injEq,Prod.mk.injEq] at h
       obtain ⟨rfl,rfl,rfl⟩:=h
       rw [Int.add_sub_cancel]
 · rw [if_neg hc] at h;cases h
theorem clean_n {u v:Vl} (h:cleanV u=cleanV v) (hv:v.list=false):u.n=v.n∧u.list=false:=by
 have hl:=congrArg Vl.list h
 rw [clean_list,clean_list,hv] at hl
 have hn:=congrArg Vl.n h
 simp only [cleanV,hv,hl] at hn
 exact ⟨by simpa using hn,hl⟩
theorem clean_l {u v:Vl} (h:cleanV u=cleanV v) (hv:v.list=true):u.l=v.l∧u.list=true:=by
 have hl:=congrArg Vl.list h
 rw [clean_list,clean_list,hv] at hl
 have hn:=congrArg Vl.l h
 simp only [cleanV,hv,hl] at hn
 exact ⟨by simpa using hn,hl⟩
theorem us_at {us:List Vl} {args:List ByteArray} {vals:VEnv} (h:us.map cleanV=args.map (fun a=>cleanV (vals a))) {i:Nat} (hi:i < args.length):i < us.length∧cleanV (at' us i)=cleanV (vals (at' args i)):=by
 have hl:=congrArg List.length h
 rw [List.length_map,List.length_map] at hl
 have h2:=congrArg (fun l=>l[i]?) h
 simp only [List.getElem?_map] at h2
 rw [List.getElem?_eq_getElem (by omega),List.getElem?_eq_getElem hi] at h2
 simp only [Option.map_some,Option.some.injEq] at h2
 exact ⟨by omega,by rw [at_eq (by omega),at_eq hi];exact h2⟩
theorem ints_none2 {A:Nat→Prop} {w:World} {a:Addr} {n c:Nat} {l:List Int} (hn:n=l.length) (hl:l.length=0):RowsAt IntE A w (.slice (some a) n c) l:=by subst hn;exact ints_none hl
theorem new_list {C:RC} {A1 A2:Nat→Prop} {w0 W3 w9:World} {rv:Value} {left:Int} {vals:VEnv} {ns:List Tr} {K g n c9:Nat} {li:Bool} {a9:Option Addr} {L:List Int} {D:Nat→Prop} {e:Nat} (hs:RSt C A2 W3 rv left vals ns K) (ht:RStep C A1 w0 rv A2 W3 rv) (hb:Below W3.heap.size W3 w9) (hq1:∀ j,A2 j→¬ j=g) (hq2:∀ j,MuR C rv j→¬ j=g) (hq3:w0.heap.size≤g) (hg:g < W3.heap.size)
 (hrow:RowsOwn IntE e D W3.heap.size w9 (.slice a9 n c9) L) (hn:n=L.length) (hl:L.length≤maxLen):
 RSt C (fun j=>A2 j∨W3.heap.size≤j∧j < w9.heap.size) (w9.setCell ⟨g,2,none⟩ (.slice a9 n c9)) rv left vals ns K∧RStep C A1 w0 rv (fun j=>A2 j∨W3.heap.size≤j∧j < w9.heap.size) (w9.setCell ⟨g,2,none⟩ (.slice a9 n c9)) rv∧
  VlAt (fun j=>A2 j∨W3.heap.size≤j∧j < w9.heap.size) (w9.setCell ⟨g,2,none⟩ (.slice a9 n c9)) (.agg #[.bool li,.int .i64 0,.slice a9 n c9]) ⟨li,0,L⟩:=by
 subst hn
 have hk:=keeps_set w9 g 2 (.slice a9 L.length c9)
 have hA4:∀ j,(A2 j∨W3.heap.size≤j∧j < w9.heap.size)→¬ j=g:=fun j a=>by
  rcases a with a|a
  · exact hq1 j a
  · omega
 have h9:=(hs.below hb).more (A':=fun j=>A2 j∨W3.heap.size≤j∧j < w9.heap.size) (fun j a=>.inl a) (fun j a=>by
  rcases a with a|a
  · exact .inl a
  · exact .inr ⟨a.2,fun mm=>by have:=hs.mlt mm;omega⟩)
 have hz:=ht.keeps.size
 refine ⟨h9.keeps hk hA4 hq2,?_,?_⟩
 · refine RStep.young (w1:=w9) ?_ hk (fun j e=>by rw [e];exact hq3)
   exact ht.trans ⟨Keeps.of_below _ hb,fun _ a=>.inl a,fun j a=>by
    rcases a with a|a
    · exact .inl a
    · exact .inr a.1,NewOr.refl _ _⟩
 · obtain ⟨xs,hx,hf⟩:=hrow
   have h:=(show RowsOwn IntE e (fun _=>False) W3.heap.size w9 (.slice a9 L.length c9) L from ⟨xs,hx,hf⟩).shut (A:=fun j=>A2 j∨W3.heap.size≤j∧j < w9.heap.size) (fun _ e=>e.elim) (fun j e=>.inr (hx.lt j e)) hl
   exact ⟨_,_,rfl,in64_0,h.stays (hk.stays fun j a _=>hA4 j a)⟩
theorem bl_res {C:RC} {A:Nat→Prop} {w:World} {rv:Value} {left:Int} {l:List Bd} {vals':VEnv} {all rest:List Tr} {lo m:Int} {k:Nat} {wr:World} {A1:Nat→Prop} {rv1:Value} {left1:Int} {vals1:VEnv} {ns1:List Tr} {K1:Nat} {calls1:List Tr} {c1:Int} (h:BL C A w rv left l vals' all rest lo m k wr A1 rv1 left1 vals1 ns1 K1 calls1 c1)
 {v1:VEnv} {r1:List Tr} {cb c2:Int} (hx:cexecB apI C.lib (at' l k) vals1 calls1=some (v1,r1,cb)) (h2:cexecBs apI C.lib (l.drop (k+1)) v1 r1=some (vals',rest,c2)) (hc:c1=cb+c2) (h1:1≤left1)
 {A4:Nat→Prop} {w4:World} {tn:ByteArray} {x:Vl} (hv:v1=vals1.put tn x) (hr:r1=calls1) (hcb:cb=1) (hs:RSt C A4 w4 rv1 (left1 - 1) (vals1.put tn x) ns1 (K1+1)) (ht:RStep C A1 wr rv1 A4 w4 rv1) (hl:x.l.length≤1001+K1):
 BLoop C A w rv left l vals' all rest lo m (k+1) w4:=by
 subst hv hr hcb
 refine h.next hx h2 hc hs ht rfl (by unfold need43;omega) (by omega) ⟨?_,?_,by omega,fun s=>?_⟩
 · have:=h.sm.k;push_cast;omega
 · have:=h.sm.n;omega
 · unfold VEnv.put
   split
   · omega
   · have:=h.sm.len s;omega
theorem st_res {C:RC} {A:Nat→Prop} {w:World} {rv:Value} {left:Int} {vals:VEnv} {ns:List Tr} {K tj:Nat} {tn:ByteArray} {li:Bool} (h:RSt C A w rv left vals ns K) (hK:K≤200000) (htn:tn.size≤maxLen) (h1:tn=tname tj) (h2:(at' C.ts tj).list=li) {v:Value} {u x:Vl} (hv:VlAt A w v u) (hu:cleanV u=cleanV x) (hx:x.list=li):
 ∃ w',(Instr.mapUpdate 137 (.map (some C.M)) (.string tn) v).run Tryd.prog w=.ok () w'∧RSt C A w' rv left (vals.put tn x) ns (K+1)∧RStep C A w rv A w' rv:=
 h.store htn (by unfold maxLen;omega) hv hu (fun j _ e=>by
  have:tj=j:=tname_inj (h1.symm.trans e)
  subst this
  rw [hx,h2])
theorem binds43 (lib:List Fn) (m:Nat) (IHB:XB43 lib m) (IHC:XC43 lib m):XB43 lib (m+1):=by
 intro C A w rv left vals ns K l lv calls rest vals' c hC hex hm hneed hle hgood hto htn htl htr hln hsm hst hbd
 subst hC
 obtain ⟨hlen,va,vc,rfl⟩:=(bds_rows.1 hbd).form
 unfold maxLen at hlen
 have hl0:=hsm.l0
 obtain ⟨N,hN⟩:∃ N,N=need43 C.lib c calls rest:=⟨_,rfl⟩
 rw [← hN] at hm hneed ⊢
 have HB:=Lib.hid hbd
 have HST:=Lib.hid hst
 have HG:=Lib.hid hgood
 have HTO:=Lib.hid hto
 have HTN:=Lib.hid (And.intro htn htl)
 have HIB:=Lib.hid IHB
 have HIC:=Lib.hid IHC
 have HS0:Hid (BLoop C A w rv left l vals' (ns ++ calls) rest (left - N) ((m+1:Nat):Int) 0 w):=Lib.hid ⟨A,rv,left,vals,ns,K,calls,c,hst,RStep.refl _ _ _ _,by rw [List.drop_zero];exact hex,rfl,by rw [← hN];omega,Int.le_refl _,by rw [← hN];exact hm,htr,hln,hsm⟩
 have HNL:Hid (0≤left - N∧left≤100000):=Lib.hid ⟨by omega,hle⟩
 clear hbd hst hgood hto htn htl IHB IHC hex hm hneed htr hln hsm hN hl0 hle
 go_enter Tryd.func53,Tryd.ntmps53
 go_wp2
 go_loopw [9] (fun i wr=>∃ k:Nat,i=.int .i64 k∧k≤l.length∧BLoop C A w rv left l vals' (ns ++ calls) rest (left - N) ((m+1:Nat):Int) k wr) (fun i _=>l.length - (intOf i).toNat)
 case atStart=>exact ⟨0,rfl,Nat.zero_le _,HS0.out⟩
 case round=>
  obtain ⟨k,rfl,hk,A1,rv1,left1,vals1,ns1,K1,calls1,c1,hb⟩:=hrel
  obtain ⟨w0,hw0⟩:∃ w0,w0=wr:=⟨_,rfl⟩
  subst hw0
  by_cases hlt:k < l.length
  · obtain ⟨tn,li,op,num,name,args,thn,els,hbk⟩:∃ tn li op num name args thn els,at' l k=.mk tn li op num name args thn els:=by
     cases h:at' l k with
     | mk a b c d e f g i=>exact ⟨a,b,c,d,e,f,g,i,rfl⟩
    have hAM:∀ j,A j→¬ MuR C rv j:=fun j a m=>HST.out.mutA j m a
    obtain ⟨b,off,cap,ga,gc,ta,tc,ea,ec,he,hcell,hga,hta,hea,htn,hnum,hname⟩:=bd43_at (HB.out.stays (hb.step.stays hAM)) hlt hbk
    simp only [Value.slice.injEq] at he
    obtain ⟨rfl,-,rfl⟩:=he
    obtain ⟨b0,b1,b2,b3,b4,b5,b6,b7⟩:=hcell
    have hex1:=hb.ex
    rw [List.drop_eq_getElem_cons hlt,← at_eq hlt] at hex1
    obtain ⟨v1,r1,cb,c2,hx,h2,hcc⟩:=cexec_cons hex1
    have hgb:=goodBs_at HG.out k hlt
    have hto:=toOks_at HTO.out k hlt
    have hu:=cexecB_used apI C.lib _ _ _ _ _ _ hx
    rw [hbk] at hgb hto
    have hxb:=hx
    rw [hbk] at hxb
    rw [GoodB] at hgb
    rw [ToOk] at hto
    obtain ⟨g1,g2,g3,g4,g5⟩:=hgb
    obtain ⟨⟨⟨tj,_,tj1,tj2,tj3⟩,hargl⟩,to1,to2⟩:=hto
    have hu2:=cexecBs_used apI C.lib _ _ _ _ _ _ h2
    have hlow:=hb.lo
    have hn1:1+costTs apI C.lib calls1 - costTs apI C.lib r1≤need43 C.lib c1 calls1 rest∧1≤left1:=by
     obtain ⟨u1,u,e1⟩:=hu
     obtain ⟨u2,u',e2⟩:=hu2
     have z1:=costTs_nonneg apI C.lib u
     have z2:=costTs_nonneg apI C.lib u'
     have e3:costTs apI C.lib calls1=costTs apI C.lib u+costTs apI C.lib r1:=by rw [e1,costTs_append]
     have e4:costTs apI C.lib r1=costTs apI C.lib u'+costTs apI C.lib rest:=by rw [e2,costTs_append]
     have:=HNL.out
     unfold need43 at hlow ⊢
     omega
    have hn2:need43 C.lib cb calls1 r1≤need43 C.lib c1 calls1 rest:=by
     obtain ⟨u2,u',e2⟩:=hu2
     have z2:=costTs_nonneg apI C.lib u'
     have e4:costTs apI C.lib r1=costTs apI C.lib u'+costTs apI C.lib rest:=by rw [e2,costTs_append]
     unfold need43
     omega
    have HN2:Hid (need43 C.lib cb calls1 r1≤(m:Int)+1∧need43 C.lib cb calls1 r1≤left1):=Lib.hid ⟨by have:=hb.m;push_cast at this;omega,by have:=HNL.out;omega⟩
    have hrc:=cell_blk hb.st.rb 1 rfl
    have hrf:=unfrozen hb.st.rb 1
    have HBL:=Lib.hid hb
    have HX:=Lib.hid (And.intro hx (And.intro h2 (And.intro hcc hxb)))
    have hL0:0≤left1 - 1:=by omega
    have hL1:left1 - 1≤1000000:=by have:=hb.hi;have:=HNL.out.2;omega
    have hwL:=wrap43 hL0 hL1
    have hwL2:decide (left1 - 1 < 0)=false:=by simp;omega
    have hHT:=hb.st.take (left1 - 1)
    have hRT:RStep C A1 w0 rv1 A1 (w0.setCell ⟨C.R,1,none⟩ (.int .i64 (left1 - 1))) rv1:=⟨(keeps_set w0 C.R 1 (.int .i64 (left1 - 1))).mono (fun k e=>.inl e),fun _ a=>a,fun _ a=>.inl a,NewOr.refl _ _⟩
    have hAM1:∀ j,A1 j→¬ MuR C rv1 j:=fun j a m=>hb.st.mutA j m a
    have hrc2:=cell_blk hHT.rb 1 rfl
    have hst1:=hRT.stays hAM1
    have hbR:b≠C.R:=fun e=>by
     have:=bds_blk (HB.out.stays (hb.step.stays hAM)) hlt
     exact hb.st.mutA C.R (.inl rfl) (e ▸ this)
    have i0:(0:Int)≤(k:Int):=Int.natCast_nonneg k
    have i1:(k:Int) < (l.length:Int):=Int.ofNat_lt.2 hlt
    have hk0:=keeps_set w0 C.R 1 (.int .i64 (left1 - 1))
    obtain ⟨d0,d1,d2,d3,d4,d5,d6,d7⟩:(w0.setCell ⟨C.R,1,none⟩ (.int .i64 (left1 - 1))).cell? ⟨b,off+k * 8,none⟩=some (.string tn)∧(w0.setCell ⟨C.R,1,none⟩ (.int .i64 (left1 - 1))).cell? ⟨b,off+k * 8+1,none⟩=some (.bool li)∧(w0.setCell ⟨C.R,1,none⟩ (.int .i64 (left1 - 1))).cell? ⟨b,off+k * 8+2,none⟩=some (.int .u8 op)∧(w0.setCell ⟨C.R,1,none⟩ (.int .i64 (left1 - 1))).cell? ⟨b,off+k * 8+3,none⟩=some (.int .i64 num)∧(w0.setCell ⟨C.R,1,none⟩ (.int .i64 (left1 - 1))).cell? ⟨b,off+k * 8+4,none⟩=some (.string name)∧
     (w0.setCell ⟨C.R,1,none⟩ (.int .i64 (left1 - 1))).cell? ⟨b,off+k * 8+5,none⟩=some (.slice ga args.length gc)∧(w0.setCell ⟨C.R,1,none⟩ (.int .i64 (left1 - 1))).cell? ⟨b,off+k * 8+6,none⟩=some (.slice ta thn.length tc)∧(w0.setCell ⟨C.R,1,none⟩ (.int .i64 (left1 - 1))).cell? ⟨b,off+k * 8+7,none⟩=some (.slice ea els.length ec):=
     ⟨keeps_cell hk0 b0 hbR,keeps_cell hk0 b1 hbR,keeps_cell hk0 b2 hbR,keeps_cell hk0 b3 hbR,keeps_cell hk0 b4 hbR,keeps_cell hk0 b5 hbR,keeps_cell hk0 b6 hbR,keeps_cell hk0 b7 hbR⟩
    have HS1:=Lib.hid hHT
    have HT1:=Lib.hid hRT
    have HGA:=Lib.hid (hga.stays hst1)
    have HTA:=Lib.hid (hta.stays hst1)
    have HEA:=Lib.hid (hea.stays hst1)
    have HGO:=Lib.hid (And.intro g2 (And.intro g3 (And.intro g4 g5)))
    have HTT:=Lib.hid (And.intro tj1 (And.intro tj2 (And.intro tj3 (And.intro to1 to2))))
    have HNZ:=Lib.hid (And.intro htn (And.intro hnum hname))
    have HNN:=Lib.hid hn1
    have HBK:=Lib.hid hbk
    clear hb hx h2 hcc hxb hn2 hex1 hga hta hea g1 g2 g3 g4 g5 tj1 tj2 tj3 to1 to2 htn hnum hname hHT hRT hst1 hk0 hbR hAM1 hAM hu hu2 hlow hn1 hbk b0 b1 b2 b3 b4 b5 b6 b7
    go_wp2
    have hs0:(w0.setCell ⟨C.R,1,none⟩ (.int .i64 (left1 - 1))).heap.size=w0.heap.size:=by simp
    have HSZ0:=Lib.hid hs0
    clear hs0
    generalize hW0:w0.setCell ⟨C.R,1,none⟩ (.int .i64 (left1 - 1))=W0 at *
    obtain ⟨W1,hW1⟩:∃ W1,W1=W0.alloc (.cells #[.string tn,.bool li,.int .u8 op,.int .i64 num,.string name,.slice ga args.length gc,.slice ta thn.length tc,.slice ea els.length ec] 161):=⟨_,rfl⟩
    have hb1:Below W0.heap.size W0 W1:=by rw [hW1];exact bel_alloc (Below.refl _ _)
    have hs1:W1.heap.size=w0.heap.size+1:=by rw [hW1,← HSZ0.out];simp
    have HBX:Hid (W1.heap[w0.heap.size]?=some (.cells #[.string tn,.bool li,.int .u8 op,.int .i64 num,.string name,.slice ga args.length gc,.slice ta thn.length tc,.slice ea els.length ec] 161 (0,0))):=Lib.hid (by rw [hW1,← HSZ0.out];exact at_new0 _ _)
    rw [← hW1]
    have HB1:=Lib.hid hb1
    have HSZ1:=Lib.hid hs1
    have hal8:args.length≤100000:=by omega
    clear hW1 hW0 hb1 hs1
    go_loopw [11,12] (fun v i wr=>∃ (q:Nat) (us:List Vl),i=.int .i64 q∧q≤args.length∧ALp A1 vals1 args W1 q v wr us) (fun _ i _=>args.length - (intOf i).toNat)
    case atStart=>exact ⟨0,[],rfl,Nat.zero_le _,⟨Below.refl _ _,RowsOwn.nil _ _ _ _ _,rfl,by simp⟩⟩
    case round=>
     obtain ⟨q,us,rfl,hq,hal⟩:=hrel
     obtain ⟨xa,xc,rfl⟩:=hal.row.form
     obtain ⟨k0,k1,k2,k3,k4,k5,k6,k7⟩:=cells8 (blk_below hal.bl HBX.out)
     have HAL:=Lib.hid hal
     have hlq:=hal.len
     have hblz:=hal.bl.size
     by_cases hql:q < args.length
     · have hbr:Below W0.heap.size W0 wr:=HB1.out.trans (hal.bl.mono HB1.out.size)
       obtain ⟨sb,so,scap,scs,hse,_,_,_,hsc,hsv⟩:=(strs_rows.1 (HGA.out.stays (Stays.of_below hbr))).at hql
       simp only [Value.slice.injEq] at hse
       obtain ⟨rfl,-,rfl⟩:=hse
       have s0:=hsc 0 (by decide)
       rw [hsv.1] at s0
       have s0:wr.cell? ⟨sb,so+q,none⟩=some (.string (at' args q)):=by simpa [StrE] using s0
       obtain ⟨xv,u,hfind,hxu,hxc⟩:=(HS1.out.below hbr).mp.find (s:=at' args q) (by have:=gname_size (HGO.out.1 _ (at_mem hql));unfold maxLen;omega)
       obtain ⟨ua,uc,rfl,hin,hints⟩:=hxu
       have q0:(0:Int)≤(q:Int):=Int.natCast_nonneg q
       have q1:(q:Int) < (args.length:Int):=Int.ofNat_lt.2 hql
       have HSE:Hid (∀ b,A1 b→(Value.slice xa us.length xc).ownBlock≠some b):=Lib.hid (fun b a e=>by have:=(hal.row.lt e).1;have:=HS1.out.alt b a;have:=HSZ1.out;have:=HSZ0.out;omega)
       have HXC:Hid (RowsOwn VlE 96 (fun k=>A1 k∨W1.heap.size≤k) W1.heap.size wr (.slice xa us.length xc) us):=Lib.hid hal.row
       have HIN:=Lib.hid hin
       have HII:=Lib.hid hints
       have HQC:=Lib.hid hxc
       have hus:us.length≤100000:=by omega
       clear hal hbr hsc hsv hin hints hxc
       go_wp2_with (at_builtin;refine wpl_rows (E:=VlE) TVl43 rfl (by decide) rfl (.tmp 49) (.tmp 57) rfl rfl rfl (HXC.out.below (bel_alloc (Below.refl _ _))) (m:=[u]) (D':=fun k=>(A1 k∨W1.heap.size≤k)∧(Value.slice xa us.length xc).ownBlock≠some k) (rows_1 (E:=VlE) (at_new0 _ _) ⟨.inr hblz,fun e=>Nat.lt_irrefl _ (HXC.out.lt e).2⟩ rfl ⟨rfl,rfl,HII.out.stays ⟨Below.size (bel_alloc (Below.refl _ _)),fun b hb a=>⟨(bel_alloc (Below.refl wr.heap.size wr)).block b hb,.inl a,fun e=>HSE.out b a e⟩⟩,HIN.out⟩) (fun b hb h=>h) (by unfold maxLen;simp;omega) (by simp;omega) (by simp;omega) ?_;intro a9 c9 w9 h9 hg9 hn9;have H9:=Lib.hid h9;have HB9:Hid (Below W1.heap.size W1 w9):=Lib.hid (Below.grown (bel_step (bel_alloc (Below.refl _ _)) HAL.out.bl) hg9 (by simp;omega) (fun k e=>(HXC.out.lt e).1));clear h9 hg9 hn9)
       exact ⟨⟨q+1,us ++ [u],by go_num,by omega,⟨HB9.out,by have h:=H9.out;rw [hlq] at h;exact h,by simp;omega,by rw [map_take_snoc hql,List.map_append,HAL.out.eq,List.map_singleton,HQC.out]⟩⟩,by simp [intOf];omega⟩
     · obtain rfl:q=args.length:=by omega
       have hlt2:¬ (args.length:Int) < (args.length:Int):=by omega
       have hbr:Below W0.heap.size W0 wr:=HB1.out.trans (hal.bl.mono HB1.out.size)
       have hzz:=HSZ1.out
       have hz0:=HSZ0.out
       have heq:us.map cleanV=args.map (fun a=>cleanV (vals1 a)):=by rw [hal.eq,List.take_length]
       have hS2:RSt C (fun j=>A1 j∨W1.heap.size≤j∧j < wr.heap.size) wr rv1 (left1 - 1) vals1 ns1 K1:=(HS1.out.below hbr).more (fun j a=>.inl a) (fun j a=>by
        rcases a with a|a
        · exact .inl a
        · exact .inr ⟨a.2,fun mm=>by have:=HS1.out.mlt mm;omega⟩)
       have hT2:RStep C A1 w0 rv1 (fun j=>A1 j∨W1.heap.size≤j∧j < wr.heap.size) wr rv1:=HT1.out.trans ⟨Keeps.of_below _ hbr,fun _ a=>.inl a,fun j a=>by
        rcases a with a|a
        · exact .inl a
        · exact .inr (by omega),NewOr.refl _ _⟩
       have hA2:RowsAt VlE (fun j=>A1 j∨W1.heap.size≤j∧j < wr.heap.size) wr (.slice xa args.length xc) us:=by
        have h:=hal.row.shut (A:=fun j=>A1 j∨W1.heap.size≤j) (fun j a=>a) (fun j e=>.inr (hal.row.lt e).1) (by unfold maxLen;omega)
        rw [hlq] at h
        exact h.young (fun j hj a=>a.imp id (fun a=>⟨a,hj⟩))
       rw [hlq]
       have HS2:=Lib.hid hS2
       have HT2:=Lib.hid hT2
       have HA2:=Lib.hid hA2
       have HUS:=Lib.hid heq
       have HBL2:=Lib.hid hal.bl
       have HUL:=Lib.hid hlq
       clear hal hbr hS2 hT2 hA2 heq hzz hz0 HAL
       go_upto_region 14 with fail
       obtain ⟨W3,hW3⟩:∃ W3,W3=wr.alloc (.cells #[.bool li,.int .i64 0,.slice none 0 0] 96):=⟨_,rfl⟩
       rw [← hW3]
       have hb3:Below wr.heap.size wr W3:=by rw [hW3];exact bel_alloc (Below.refl _ _)
       have hVB:W3.heap[wr.heap.size]?=some (.cells #[.bool li,.int .i64 0,.slice none 0 0] 96 (0,0)):=by rw [hW3];exact at_new0 _ _
       have hz3:wr.heap.size+1=W3.heap.size:=by rw [hW3];simp
       obtain ⟨y0,y1,y2,y3,y4,y5,y6,y7⟩:=cells8 (blk_below hb3 (blk_below HBL2.out HBX.out))
       obtain ⟨z0,z1,z2⟩:=cells3 hVB
       have zf:=unfrozen hVB
       have HS3:=Lib.hid (HS2.out.below hb3)
       have HT3:=Lib.hid (HT2.out.trans (RStep.below hb3))
       have HA3:=Lib.hid (HA2.out.stays (Stays.of_below hb3))
       have HVB:=Lib.hid hVB
       have HQ:Hid ((∀ j,(A1 j∨W1.heap.size≤j∧j < wr.heap.size)→¬ j=wr.heap.size)∧(∀ j,MuR C rv1 j→¬ j=wr.heap.size)∧w0.heap.size≤wr.heap.size):=Lib.hid ⟨fun j a e=>by have:=HS2.out.alt j a;omega,fun j mm e=>by have:=HS2.out.mlt mm;omega,HT2.out.keeps.size⟩
       have HKB9:Hid (∀ w1,Below W3.heap.size W3 w1→∀ v,(w1.setCell ⟨wr.heap.size,2,none⟩ v).cell? ⟨w0.heap.size,0,none⟩=some (.string tn)):=Lib.hid (fun w1 h v=>keeps_cell (keeps_set w1 wr.heap.size 2 v) (cell_bel h y0) (fun e=>absurd e (Nat.ne_of_lt (show w0.heap.size < wr.heap.size by have:=HBL2.out.size;have:=HSZ1.out;omega))))
       have HW0:Hid (w0.heap.size < wr.heap.size):=Lib.hid (by have:=HBL2.out.size;have:=HSZ1.out;omega)
       have HKB:Hid (∀ w1,Keeps W3 w1 (fun j=>j=wr.heap.size)→w1.cell? ⟨w0.heap.size,0,none⟩=some (.string tn)):=Lib.hid (fun w1 hk=>keeps_cell hk y0 (fun e=>absurd e (Nat.ne_of_lt HW0.out)))
       have HW3Z:Hid (wr.heap.size+1=W3.heap.size):=Lib.hid hz3
       have HGL:Hid (wr.heap.size < W3.heap.size):=Lib.hid (by have h:=HVB.out;rw [Array.getElem?_eq_some_iff] at h;exact h.1)
       have HK1:Hid (k+1≤l.length):=Lib.hid hlt
       have HKK:Hid (K1≤200000∧(∀ s,(vals1 s).l.length≤1000+K1)):=Lib.hid ⟨by have h1:=HBL.out.sm.k;have h2:=HNN.out.2;omega,HBL.out.sm.len⟩
       have HBB:=Lib.hid (blk_below hb3 (blk_below HBL2.out HBX.out))
       clear hW3 hVB hz3 k0 k1 k2 k3 k4 k5 k6 k7
       rcases HGO.out.2.1 with ⟨rfl,hn80⟩|⟨rfl,hn81⟩|⟨rfl,hn82,hn82'⟩|⟨rfl,hn83⟩|⟨rfl,hn85,hn85'⟩|rfl|⟨rfl,hn87⟩|⟨h3,hn88⟩
       · as_aux_lemma=>
          obtain ⟨x,hr,hv1,hr1,hcb,hck,hxl⟩:=cexec_res (by omega) HX.out.2.2.2
          have HR:=Lib.hid (And.intro hv1 (And.intro hr1 hcb))
          have hx:x=⟨false,num,[]⟩:=by simp [resultB] at hr;exact hr.symm
          have hli:li=false:=by rw [← hxl,hx]
          have hS4:=HS3.out.keeps (keeps_set W3 wr.heap.size 1 (.int .i64 num)) (fun j a e=>HQ.out.1 j a e) (fun j a e=>HQ.out.2.1 j a e)
          have hT4:=HT3.out.young (keeps_set W3 wr.heap.size 1 (.int .i64 num)) (fun j e=>by rw [e];exact HQ.out.2.2)
          have hkb:=HKB.out _ (keeps_set W3 wr.heap.size 1 (.int .i64 num))
          obtain ⟨w5,hrun,hs5,ht5⟩:=st_res hS4 HKK.out.1 HNZ.out.1 HTT.out.2.1 HTT.out.2.2.1 (v:=.agg #[.bool li,.int .i64 num,.slice none 0 0]) (u:=⟨li,num,[]⟩) ⟨none,0,rfl,HNZ.out.2.1,RowsAt.nil _ _ _⟩ (by rw [hx,hli]) hxl
          have HS5:=Lib.hid hs5
          have HT5:=Lib.hid (hT4.trans ht5)
          have HLN:Hid (x.l.length≤1001+K1):=Lib.hid (by rw [hx];exact Nat.zero_le _)
          clear hS4 hT4 hs5 ht5 hv1 hr1 hcb hck hxl hr hx hli
          go_wp2
          exact ⟨⟨k+1,by go_num,HK1.out,bl_res HBL.out HX.out.1 HX.out.2.1 HX.out.2.2.1 HNN.out.2 HR.out.1 HR.out.2.1 HR.out.2.2 HS5.out HT5.out HLN.out⟩,by have:=HK1.out;simp [intOf];omega⟩
       · as_aux_lemma=>
          obtain ⟨x,hr,hv1,hr1,hcb,hck,hxl⟩:=cexec_res (by omega) HX.out.2.2.2
          have HR:=Lib.hid (And.intro hv1 (And.intro hr1 hcb))
          obtain ⟨hi0,hu0⟩:=us_at HUS.out (i:=0) (by omega)
          obtain ⟨ab,ao,acap,ua,uc,hae,hab,_,_,a0,a1,a2,hin0,hro0⟩:=vls_at HA3.out hi0
          rw [HUL.out] at hae
          simp only [Value.slice.injEq] at hae
          obtain ⟨rfl,-,rfl⟩:=hae
          simp only [Nat.zero_mul,Nat.add_zero] at a0 a1 a2
          have hx:x=vals1 (at' args 0):=by simp [resultB] at hr;exact hr.symm
          have hst4:=(keeps_set3 W3 wr.heap.size (.bool (at' us 0).list) (.int .i64 (at' us 0).n) (.slice ua (at' us 0).l.length uc)).stays (A:=fun j=>A1 j∨W1.heap.size≤j∧j < wr.heap.size) (fun j a _ e=>HQ.out.1 j a e)
          have hS4:=HS3.out.keeps (keeps_set3 W3 wr.heap.size (.bool (at' us 0).list) (.int .i64 (at' us 0).n) (.slice ua (at' us 0).l.length uc)) (fun j a e=>HQ.out.1 j a e) (fun j a e=>HQ.out.2.1 j a e)
          have hT4:=HT3.out.young (keeps_set3 W3 wr.heap.size (.bool (at' us 0).list) (.int .i64 (at' us 0).n) (.slice ua (at' us 0).l.length uc)) (fun j e=>by rw [e];exact HQ.out.2.2)
          have hkb:=HKB.out _ (keeps_set3 W3 wr.heap.size (.bool (at' us 0).list) (.int .i64 (at' us 0).n) (.slice ua (at' us 0).l.length uc))
          obtain ⟨w5,hrun,hs5,ht5⟩:=st_res hS4 HKK.out.1 HNZ.out.1 HTT.out.2.1 HTT.out.2.2.1 (v:=.agg #[.bool (at' us 0).list,.int .i64 (at' us 0).n,.slice ua (at' us 0).l.length uc]) (u:=at' us 0) ⟨_,_,rfl,hin0,hro0.stays hst4⟩ (by rw [hx];exact hu0) hxl
          have HS5:=Lib.hid hs5
          have HT5:=Lib.hid (hT4.trans ht5)
          have HLN:Hid (x.l.length≤1001+K1):=Lib.hid (by rw [hx];have:=HKK.out.2 (at' args 0);omega)
          clear hS4 hT4 hs5 ht5 hv1 hr1 hcb hck hxl hr hx hst4 hro0 hin0 hu0
          obtain ⟨v0,v1',v2⟩:=cells3 (set3 HVB.out (.bool (at' us 0).list) (.int .i64 (at' us 0).n) (.slice ua (at' us 0).l.length uc))
          have l1:(0:Int) < (args.length:Int):=by omega
          have l2:0 < args.length:=by omega
          go_wp2
          exact ⟨⟨k+1,by go_num,HK1.out,bl_res HBL.out HX.out.1 HX.out.2.1 HX.out.2.2.1 HNN.out.2 HR.out.1 HR.out.2.1 HR.out.2.2 HS5.out HT5.out HLN.out⟩,by have:=HK1.out;simp [intOf];omega⟩
       · as_aux_lemma=>
          obtain ⟨x,hr,hv1,hr1,hcb,hck,hxl⟩:=cexec_res (by omega) HX.out.2.2.2
          have HR:=Lib.hid (And.intro hv1 (And.intro hr1 hcb))
          obtain ⟨hi0,hu0⟩:=us_at HUS.out (i:=0) (by omega)
          obtain ⟨ab,ao,acap,u0a,u0c,hae0,_,_,_,a00,a01,a02,hin0,hro0⟩:=vls_at HA3.out hi0
          rw [HUL.out] at hae0
          simp only [Value.slice.injEq] at hae0
          obtain ⟨rfl,-,rfl⟩:=hae0
          simp only [Nat.zero_mul,Nat.add_zero] at a00 a01 a02
          obtain ⟨hi1,hu1⟩:=us_at HUS.out (i:=1) (by omega)
          obtain ⟨bb,bo,bcap,u1a,u1c,hae1,_,_,_,a10,a11,a12,hin1,hro1⟩:=vls_at HA3.out hi1
          rw [HUL.out] at hae1
          simp only [Value.slice.injEq,Option.some.injEq,Addr.mk.injEq,and_true,true_and] at hae1
          obtain ⟨⟨rfl,rfl⟩,rfl⟩:=hae1
          simp only [Nat.one_mul] at a10 a11 a12
          have hx:x=⟨false,(apI num (vals1 (at' args 0)).n (vals1 (at' args 1)).n).1,[]⟩:=by simp [resultB] at hr;exact hr.symm
          simp [chkB] at hck
          obtain ⟨n0,_⟩:=clean_n hu0 hck.2.1.1
          obtain ⟨n1,_⟩:=clean_n hu1 hck.2.1.2
          have hli:li=false:=by rw [← hxl,hx]
          have he0:(apI num (at' us 0).n (at' us 1).n).2=0:=by rw [n0,n1];exact hck.2.2
          have hin:In64 (apI num (at' us 0).n (at' us 1).n).1:=apI_in64 _ _ _ hin0
          have hAP:=Lib.hid (fun w=>apply_AR num (at' us 0).n (at' us 1).n w hn82)
          have hw8:IntKind.u8.wrap num=num:=wrap_u8 (by omega)
          have l0:(0:Int) < (args.length:Int):=by omega
          have l1:(1:Int) < (args.length:Int):=by omega
          have HS5a:Hid (∀ w1,Below W3.heap.size W3 w1→w1.cell? ⟨w0.heap.size,3,none⟩=some (.int .i64 num)∧w1.cell? ⟨ab,ao+1,none⟩=some (.int .i64 (at' us 0).n)∧w1.cell? ⟨ab,ao+3+1,none⟩=some (.int .i64 (at' us 1).n)):=Lib.hid (fun w1 h=>⟨cell_bel h y3,cell_bel h a01,cell_bel h a11⟩)
          have hS4:=(HS3.out.keeps (keeps_set W3 wr.heap.size 1 (.int .i64 (apI num (at' us 0).n (at' us 1).n).1)) (fun j a e=>HQ.out.1 j a e) (fun j a e=>HQ.out.2.1 j a e)).below (bel_drew (Below.refl _ _))
          have hT4:=(HT3.out.young (keeps_set W3 wr.heap.size 1 (.int .i64 (apI num (at' us 0).n (at' us 1).n).1)) (fun j e=>by rw [e];exact HQ.out.2.2)).trans (RStep.below (bel_drew (Below.refl _ _)))
          have hkb:=HKB.out _ ((keeps_set W3 wr.heap.size 1 (.int .i64 (apI num (at' us 0).n (at' us 1).n).1)).same (Keeps.of_below _ (bel_drew (Below.refl _ _))))
          obtain ⟨w5,hrun,hs5,ht5⟩:=st_res hS4 HKK.out.1 HNZ.out.1 HTT.out.2.1 HTT.out.2.2.1 (v:=.agg #[.bool li,.int .i64 (apI num (at' us 0).n (at' us 1).n).1,.slice none 0 0]) (u:=⟨li,(apI num (at' us 0).n (at' us 1).n).1,[]⟩) ⟨none,0,rfl,hin,RowsAt.nil _ _ _⟩ (by rw [hx,hli,← n0,← n1]) hxl
          have HS5:=Lib.hid hs5
          have HT5:=Lib.hid (hT4.trans ht5)
          have HLN:Hid (x.l.length≤1001+K1):=Lib.hid (by rw [hx];exact Nat.zero_le _)
          have HVD:=Lib.hid (blk_drew (HVB.out))
          obtain ⟨z0',z1',z2'⟩:=cells3 HVD.out
          have zf':=unfrozen HVD.out
          have HE0:=Lib.hid he0
          clear hS4 hT4 hs5 ht5 hv1 hr1 hcb hck hxl hr hx hli hin0 hin1 hro0 hro1 hu0 hu1 n0 n1 hin he0
          go_wp2
          go_region_held3 (fun w1=>w1.cell? ⟨w0.heap.size,3,none⟩=some (.int .i64 num)∧w1.cell? ⟨ab,ao+1,none⟩=some (.int .i64 (at' us 0).n)∧w1.cell? ⟨ab,ao+3+1,none⟩=some (.int .i64 (at' us 1).n))
           (with_reducible exact HS5a.out _ (by (repeat (with_reducible first|exact Below.refl _ _|refine bel_drew ?_|refine bel_alloc ?_|(apply bel_step;focus assumption)))))
           (first
           | (go_at_call 70;refine (hAP.out _).mono ?_;rintro e w2 ⟨rfl,rfl⟩)
           | fail)
          have he0:=HE0.out
          go_wp2
          exact ⟨⟨k+1,by go_num,HK1.out,bl_res HBL.out HX.out.1 HX.out.2.1 HX.out.2.2.1 HNN.out.2 HR.out.1 HR.out.2.1 HR.out.2.2 HS5.out HT5.out HLN.out⟩,by have:=HK1.out;simp [intOf];omega⟩
       · as_aux_lemma=>
          obtain ⟨hfl,hexb⟩:=cexec_ifR HX.out.2.2.2
          obtain ⟨hi0,hu0⟩:=us_at HUS.out (i:=0) (by omega)
          obtain ⟨ab,ao,acap,u0a,u0c,hae0,_,_,_,a00,a01,a02,hin0,hro0⟩:=vls_at HA3.out hi0
          rw [HUL.out] at hae0
          simp only [Value.slice.injEq] at hae0
          obtain ⟨rfl,-,rfl⟩:=hae0
          simp only [Nat.zero_mul,Nat.add_zero] at a00 a01 a02
          obtain ⟨n0,_⟩:=clean_n hu0 hfl
          have HSM:Hid (Sm K1 (left1 - 1) ns1 vals1):=Lib.hid ⟨by have:=HBL.out.sm.k;omega,by have:=HBL.out.sm.n;omega,by have:=HNN.out.2;omega,HBL.out.sm.len⟩
          have HB03:Hid (Below W0.heap.size W0 W3):=Lib.hid ((HB1.out.trans (HBL2.out.mono HB1.out.size)).trans (hb3.mono (by have:=HB1.out.size;have:=HBL2.out.size;omega)))
          have l0:(0:Int) < (args.length:Int):=by omega
          have l0':0 < args.length:=by omega
          rw [← n0] at hexb
          by_cases hn0:(at' us 0).n=0
          · rw [if_neg (by simp [hn0])] at hexb
            have d0:((at' us 0).n != 0)=false:=by simp [hn0]
            have hpost:=HIB.out C (fun j=>A1 j∨W1.heap.size≤j∧j < wr.heap.size) W3 rv1 (left1 - 1) vals1 ns1 K1 els (.slice ea els.length ec) calls1 r1 v1 (cb - 1) rfl hexb (by have:=HN2.out.1;unfold need43 at this ⊢;omega) (by have:=HN2.out.2;unfold need43 at this ⊢;omega) (by have:=HBL.out.hi;have:=HNL.out.2;omega) HGO.out.2.2.2 HTT.out.2.2.2.2 HTN.out.1 HTN.out.2 HBL.out.tr HBL.out.ln HSM.out HS3.out ((HEA.out.stays (Stays.of_below HB03.out)).stays ⟨Nat.le_refl _,fun b _ a=>⟨rfl,.inl a⟩⟩)
            have HPO:=Lib.hid hpost
            clear hpost hexb hn0
            go_wp2_with fail
            refine HPO.out.mono ?_
            rintro e w5 ⟨rfl,A5,rv5,left5,ns5,K5,hs5,ht5,ha5,hl5,hh5,hsm5⟩
            have HS5:=Lib.hid hs5
            have HT5:=Lib.hid ht5
            have HF5:=Lib.hid (And.intro ha5 (And.intro hl5 (And.intro hh5 hsm5)))
            clear hs5 ht5 ha5 hl5 hh5 hsm5
            go_wp2
            exact ⟨⟨k+1,by go_num,HK1.out,HBL.out.next HX.out.1 HX.out.2.1 HX.out.2.2.1 HS5.out (HT3.out.trans HT5.out) HF5.out.1 (by have:=HF5.out.2.1;unfold need43 at this ⊢;omega) (by have:=HF5.out.2.2.1;omega) HF5.out.2.2.2⟩,by have:=HK1.out;simp [intOf];omega⟩
          · rw [if_pos hn0] at hexb
            have d0:((at' us 0).n != 0)=true:=by simp [hn0]
            have hpost:=HIB.out C (fun j=>A1 j∨W1.heap.size≤j∧j < wr.heap.size) W3 rv1 (left1 - 1) vals1 ns1 K1 thn (.slice ta thn.length tc) calls1 r1 v1 (cb - 1) rfl hexb (by have:=HN2.out.1;unfold need43 at this ⊢;omega) (by have:=HN2.out.2;unfold need43 at this ⊢;omega) (by have:=HBL.out.hi;have:=HNL.out.2;omega) HGO.out.2.2.1 HTT.out.2.2.2.1 HTN.out.1 HTN.out.2 HBL.out.tr HBL.out.ln HSM.out HS3.out ((HTA.out.stays (Stays.of_below HB03.out)).stays ⟨Nat.le_refl _,fun b _ a=>⟨rfl,.inl a⟩⟩)
            have HPO:=Lib.hid hpost
            clear hpost hexb hn0
            go_wp2_with fail
            refine HPO.out.mono ?_
            rintro e w5 ⟨rfl,A5,rv5,left5,ns5,K5,hs5,ht5,ha5,hl5,hh5,hsm5⟩
            have HS5:=Lib.hid hs5
            have HT5:=Lib.hid ht5
            have HF5:=Lib.hid (And.intro ha5 (And.intro hl5 (And.intro hh5 hsm5)))
            clear hs5 ht5 ha5 hl5 hh5 hsm5
            go_wp2
            exact ⟨⟨k+1,by go_num,HK1.out,HBL.out.next HX.out.1 HX.out.2.1 HX.out.2.2.1 HS5.out (HT3.out.trans HT5.out) HF5.out.1 (by have:=HF5.out.2.1;unfold need43 at this ⊢;omega) (by have:=HF5.out.2.2.1;omega) HF5.out.2.2.2⟩,by have:=HK1.out;simp [intOf];omega⟩
       · as_aux_lemma=>
          obtain ⟨t,hct,htf,hta,htl,hv1,hcb⟩:=cexec_callR HX.out.2.2.2
          have hneed:=HN2.out
          subst hct hcb
          have htr:=HBL.out.tr
          have hln:=HBL.out.ln
          rw [TrRs] at htr
          rw [TrLens] at hln
          have hcost:costT apI C.lib t≤(m:Int)∧costT apI C.lib t≤left1 - 1:=by
           unfold need43 at hneed
           rw [costTs] at hneed
           omega
          have HFD:Hid (∀ w1,Below W3.heap.size W3 w1→Calls Tryd.prog 38 #[.slice C.la C.lib.length C.lc,.string name] w1 (fun e w'=>e=.returned (.int .i64 t.f)∧Below w1.heap.size w1 w')):=Lib.hid (fun w1 h=>by rw [htf];exact find43_any _ C.lib name _ w1 (HS3.out.below h).lib)
          have HCL:Hid (∀ w1,Below W3.heap.size W3 w1→Calls Tryd.prog 37 #[.pointer (some ⟨C.R,0,none⟩),.int .i64 t.f,.slice xa args.length xc] w1 (fun e w'=>∃ vv nv u left',e=.returned (.tuple #[vv,nv,.bool true])∧VlAt (fun k=>(A1 k∨W1.heap.size≤k∧k < wr.heap.size)∨w1.heap.size≤k∧k < w'.heap.size) w' vv u∧cleanV u=t.res∧NdrAt C.lib (fun k=>(A1 k∨W1.heap.size≤k∧k < wr.heap.size)∨w1.heap.size≤k∧k < w'.heap.size) w' nv t∧Keeps w1 w' (fun k=>k=C.R)∧
           w'.heap[C.R]?=some (.cells #[.slice C.la C.lib.length C.lc,.int .i64 left'] 93 (0,0))∧(left1 - 1) - costT apI C.lib t≤left'∧left'≤left1 - 1)):=Lib.hid (fun w1 h=>by
           have hs:=HS3.out.below h
           exact HIC.out C.R C.la C.lc (fun j=>A1 j∨W1.heap.size≤j∧j < wr.heap.size) w1 _ us t (left1 - 1) hcost.1 ⟨hs.rb,hs.lib,HA3.out.stays (Stays.of_below h),fun j a=>⟨hs.alt j a,fun e=>hs.mutA j (.inl e) a⟩,htr.1,hln.1,by rw [HUS.out];exact hta.symm,hcost.2,by have:=HBL.out.hi;have:=HNL.out.2;omega⟩)
          have hR0:=cell_blk HS3.out.rb 0 rfl
          have hRW:C.R < w0.heap.size∧w0.heap.size < W3.heap.size:=⟨HBL.out.st.rlt,by have:=HW0.out;have:=HW3Z.out;omega⟩
          have HSA:Hid (∀ w1,Below W3.heap.size W3 w1→w1.cell? ⟨C.R,0,none⟩=some (.slice C.la C.lib.length C.lc)∧w1.cell? ⟨w0.heap.size,4,none⟩=some (.string name)):=Lib.hid (fun w1 h=>⟨cell_bel h hR0,cell_bel h y4⟩)
          have HSB:Hid (∀ w1 w5 left',Below W3.heap.size W3 w1→Keeps w1 w5 (fun k=>k=C.R)→w5.heap[C.R]?=some (.cells #[.slice C.la C.lib.length C.lc,.int .i64 left'] 93 (0,0))→∀ w',Keeps w5 w' (fun b=>W3.heap.size≤b)→w'.cell? ⟨C.R,0,none⟩=some (.slice C.la C.lib.length C.lc)∧w'.cell? ⟨w0.heap.size,4,none⟩=some (.string name)):=Lib.hid (fun w1 w5 left' hb hk hr w' hk2=>⟨keeps_cell hk2 (cell_blk hr 0 rfl) (fun e=>absurd e (by show ¬ W3.heap.size≤C.R;omega)),keeps_cell hk2 (keeps_cell hk (cell_bel hb y4) (fun e=>absurd e (by show ¬ w0.heap.size=C.R;omega))) (fun e=>absurd e (by show ¬ W3.heap.size≤w0.heap.size;omega))⟩)
          have HMD:=Lib.hid (And.intro htl (And.intro hv1 hcost))
          clear htf hta htl hv1 hneed htr hln hcost
          go_wp2
          have HOLD:Hid (∀ w1 w5,Keeps w1 w5 (fun k=>k=C.R)→∀ g o,W3.heap.size≤g→w1.heap[g]?=some o→w5.heap[g]?=some o∧g < w1.heap.size):=Lib.hid (fun w1 w5 hk g o hg ho=>⟨(hk.block g (by rw [Array.getElem?_eq_some_iff] at ho;exact ho.1) (fun e=>by have:=HS3.out.rlt;omega)).trans ho,by rw [Array.getElem?_eq_some_iff] at ho;exact ho.1⟩)
          go_cut [17,18,19] (fun s1 s2 s3 wx=>CutW C (fun j=>A1 j∨W1.heap.size≤j∧j < wr.heap.size) W3 t left1 s1 s2 s3 wx)
          case first=>
           clear HX HN2 HBL HNL HIC HS3 HA3 HUS hR0 hRW
           go_region_held3 (fun w'=>w'.cell? ⟨C.R,0,none⟩=some (.slice C.la C.lib.length C.lc)∧w'.cell? ⟨w0.heap.size,4,none⟩=some (.string name))
            (first|(with_reducible exact HSC.out _ (by (repeat (with_reducible first|exact Keeps.refl _ _|refine keeps_allocR ?_|refine keeps_drewR ?_|(refine keeps_setR ?_ ?_;rotate_left;(focus (show W3.heap.size≤_;(have hz1:=HZF.out;have hz2:=HZC.out;(try simp only [World.size_drew,World.size_alloc,World.size_setCell]);omega))))))))|(with_reducible exact HSA.out _ (by (repeat (with_reducible first|exact Below.refl _ _|refine bel_drew ?_|refine bel_alloc ?_|(apply bel_step;focus assumption))))))
            (first
            | (go_at_call 38;(with_reducible refine (HFD.out _ (by (repeat (with_reducible first|exact Below.refl _ _|refine bel_drew ?_|refine bel_alloc ?_|(apply bel_step;focus assumption))))).mono ?_);rintro e wf ⟨rfl,hbf⟩;have HZF:=Lib.hid (show W3.heap.size≤wf.heap.size from Below.size (w:=W3) (by (repeat (with_reducible first|exact Below.refl _ _|refine bel_drew ?_|refine bel_alloc ?_|(apply bel_step;focus assumption))))))
            | (go_at_call 37;(with_reducible refine (HCL.out _ (by (repeat (with_reducible first|exact Below.refl _ _|refine bel_drew ?_|refine bel_alloc ?_|(apply bel_step;focus assumption))))).mono ?_);rintro e w5 ⟨vv,nv,u,left',rfl,h1,h2,h3,h4,h5,h6,h7⟩;have HSC:=Lib.hid (HSB.out _ _ _ (by (repeat (with_reducible first|exact Below.refl _ _|refine bel_drew ?_|refine bel_alloc ?_|(apply bel_step;focus assumption)))) h4 h5);have HZC:=Lib.hid (Nat.le_trans (Below.size (w:=W3) (by (repeat (with_reducible first|exact Below.refl _ _|refine bel_drew ?_|refine bel_alloc ?_|(apply bel_step;focus assumption))))) h4.size);have HP:=Lib.hid (And.intro h1 (And.intro h2 (And.intro h3 (And.intro h4 (And.intro h5 (And.intro h6 h7))))));obtain ⟨ua,uc,rfl,hin,hro⟩:=h1;obtain ⟨na,nc,rfl,hnd⟩:=h3;(try (have q17:=HOLD.out _ _ h4 (W3.heap.size) (.cells #[.bool false,.int .i64 0,.slice none 0 0] 96 (0,0)) ?_ ?_;rotate_left;(focus ((with_reducible first|exact Nat.le_refl _|exact Nat.le_succ _|exact HZF.out|exact Nat.le_succ_of_le HZF.out);done));(focus ((repeat (with_reducible first|(refine blk_new ?_;(simp;done))|(refine blk_new ?_;rfl)|refine blk_drew ?_|refine blk_alloc ?_|(apply blk_below;focus assumption)));done));obtain ⟨q17,l17⟩:=q17;have HL17:=Lib.hid l17;clear l17;obtain ⟨c170,c171,c172⟩:=cells3 q17;have c17f:=unfrozen q17;obtain ⟨d170,d171,d172⟩:=cells3 (blk_below (bel_alloc (x:=(.cells #[.int .i64 0,.int .i64 0,.slice none 0 0] 49)) (Below.refl _ _)) q17);have d17f:=unfrozen (blk_below (bel_alloc (x:=(.cells #[.int .i64 0,.int .i64 0,.slice none 0 0] 49)) (Below.refl _ _)) q17);have Q17:=Lib.hid q17;clear q17));(try (have q18:=HOLD.out _ _ h4 (W3.heap.size) (.cells #[.int .i64 0,.int .i64 0,.slice none 0 0] 49 (0,0)) ?_ ?_;rotate_left;(focus ((with_reducible first|exact Nat.le_refl _|exact Nat.le_succ _|exact HZF.out|exact Nat.le_succ_of_le HZF.out);done));(focus ((repeat (with_reducible first|(refine blk_new ?_;(simp;done))|(refine blk_new ?_;rfl)|refine blk_drew ?_|refine blk_alloc ?_|(apply blk_below;focus assumption)));done));obtain ⟨q18,l18⟩:=q18;have HL18:=Lib.hid l18;clear l18;obtain ⟨c180,c181,c182⟩:=cells3 q18;have c18f:=unfrozen q18;obtain ⟨d180,d181,d182⟩:=cells3 (blk_below (bel_alloc (x:=(.cells #[.bool false,.int .i64 0,.slice none 0 0] 96)) (Below.refl _ _)) q18);have d18f:=unfrozen (blk_below (bel_alloc (x:=(.cells #[.bool false,.int .i64 0,.slice none 0 0] 96)) (Below.refl _ _)) q18);have Q18:=Lib.hid q18;clear q18));(try (have q17:=HOLD.out _ _ h4 (W3.heap.size+1) (.cells #[.bool false,.int .i64 0,.slice none 0 0] 96 (0,0)) ?_ ?_;rotate_left;(focus ((with_reducible first|exact Nat.le_refl _|exact Nat.le_succ _|exact HZF.out|exact Nat.le_succ_of_le HZF.out);done));(focus ((repeat (with_reducible first|(refine blk_new ?_;(simp;done))|(refine blk_new ?_;rfl)|refine blk_drew ?_|refine blk_alloc ?_|(apply blk_below;focus assumption)));done));obtain ⟨q17,l17⟩:=q17;have HL17:=Lib.hid l17;clear l17;obtain ⟨c170,c171,c172⟩:=cells3 q17;have c17f:=unfrozen q17;obtain ⟨d170,d171,d172⟩:=cells3 (blk_below (bel_alloc (x:=(.cells #[.int .i64 0,.int .i64 0,.slice none 0 0] 49)) (Below.refl _ _)) q17);have d17f:=unfrozen (blk_below (bel_alloc (x:=(.cells #[.int .i64 0,.int .i64 0,.slice none 0 0] 49)) (Below.refl _ _)) q17);have Q17:=Lib.hid q17;clear q17));(try (have q18:=HOLD.out _ _ h4 (W3.heap.size+1) (.cells #[.int .i64 0,.int .i64 0,.slice none 0 0] 49 (0,0)) ?_ ?_;rotate_left;(focus ((with_reducible first|exact Nat.le_refl _|exact Nat.le_succ _|exact HZF.out|exact Nat.le_succ_of_le HZF.out);done));(focus ((repeat (with_reducible first|(refine blk_new ?_;(simp;done))|(refine blk_new ?_;rfl)|refine blk_drew ?_|refine blk_alloc ?_|(apply blk_below;focus assumption)));done));obtain ⟨q18,l18⟩:=q18;have HL18:=Lib.hid l18;clear l18;obtain ⟨c180,c181,c182⟩:=cells3 q18;have c18f:=unfrozen q18;obtain ⟨d180,d181,d182⟩:=cells3 (blk_below (bel_alloc (x:=(.cells #[.bool false,.int .i64 0,.slice none 0 0] 96)) (Below.refl _ _)) q18);have d18f:=unfrozen (blk_below (bel_alloc (x:=(.cells #[.bool false,.int .i64 0,.slice none 0 0] 96)) (Below.refl _ _)) q18);have Q18:=Lib.hid q18;clear q18));(try (have q17:=HOLD.out _ _ h4 (wf.heap.size) (.cells #[.bool false,.int .i64 0,.slice none 0 0] 96 (0,0)) ?_ ?_;rotate_left;(focus ((with_reducible first|exact Nat.le_refl _|exact Nat.le_succ _|exact HZF.out|exact Nat.le_succ_of_le HZF.out);done));(focus ((repeat (with_reducible first|(refine blk_new ?_;(simp;done))|(refine blk_new ?_;rfl)|refine blk_drew ?_|refine blk_alloc ?_|(apply blk_below;focus assumption)));done));obtain ⟨q17,l17⟩:=q17;have HL17:=Lib.hid l17;clear l17;obtain ⟨c170,c171,c172⟩:=cells3 q17;have c17f:=unfrozen q17;obtain ⟨d170,d171,d172⟩:=cells3 (blk_below (bel_alloc (x:=(.cells #[.int .i64 0,.int .i64 0,.slice none 0 0] 49)) (Below.refl _ _)) q17);have d17f:=unfrozen (blk_below (bel_alloc (x:=(.cells #[.int .i64 0,.int .i64 0,.slice none 0 0] 49)) (Below.refl _ _)) q17);have Q17:=Lib.hid q17;clear q17));(try (have q18:=HOLD.out _ _ h4 (wf.heap.size) (.cells #[.int .i64 0,.int .i64 0,.slice none 0 0] 49 (0,0)) ?_ ?_;rotate_left;(focus ((with_reducible first|exact Nat.le_refl _|exact Nat.le_succ _|exact HZF.out|exact Nat.le_succ_of_le HZF.out);done));(focus ((repeat (with_reducible first|(refine blk_new ?_;(simp;done))|(refine blk_new ?_;rfl)|refine blk_drew ?_|refine blk_alloc ?_|(apply blk_below;focus assumption)));done));obtain ⟨q18,l18⟩:=q18;have HL18:=Lib.hid l18;clear l18;obtain ⟨c180,c181,c182⟩:=cells3 q18;have c18f:=unfrozen q18;obtain ⟨d180,d181,d182⟩:=cells3 (blk_below (bel_alloc (x:=(.cells #[.bool false,.int .i64 0,.slice none 0 0] 96)) (Below.refl _ _)) q18);have d18f:=unfrozen (blk_below (bel_alloc (x:=(.cells #[.bool false,.int .i64 0,.slice none 0 0] 96)) (Below.refl _ _)) q18);have Q18:=Lib.hid q18;clear q18));(try (have q17:=HOLD.out _ _ h4 (wf.heap.size+1) (.cells #[.bool false,.int .i64 0,.slice none 0 0] 96 (0,0)) ?_ ?_;rotate_left;(focus ((with_reducible first|exact Nat.le_refl _|exact Nat.le_succ _|exact HZF.out|exact Nat.le_succ_of_le HZF.out);done));(focus ((repeat (with_reducible first|(refine blk_new ?_;(simp;done))|(refine blk_new ?_;rfl)|refine blk_drew ?_|refine blk_alloc ?_|(apply blk_below;focus assumption)));done));obtain ⟨q17,l17⟩:=q17;have HL17:=Lib.hid l17;clear l17;obtain ⟨c170,c171,c172⟩:=cells3 q17;have c17f:=unfrozen q17;obtain ⟨d170,d171,d172⟩:=cells3 (blk_below (bel_alloc (x:=(.cells #[.int .i64 0,.int .i64 0,.slice none 0 0] 49)) (Below.refl _ _)) q17);have d17f:=unfrozen (blk_below (bel_alloc (x:=(.cells #[.int .i64 0,.int .i64 0,.slice none 0 0] 49)) (Below.refl _ _)) q17);have Q17:=Lib.hid q17;clear q17));(try (have q18:=HOLD.out _ _ h4 (wf.heap.size+1) (.cells #[.int .i64 0,.int .i64 0,.slice none 0 0] 49 (0,0)) ?_ ?_;rotate_left;(focus ((with_reducible first|exact Nat.le_refl _|exact Nat.le_succ _|exact HZF.out|exact Nat.le_succ_of_le HZF.out);done));(focus ((repeat (with_reducible first|(refine blk_new ?_;(simp;done))|(refine blk_new ?_;rfl)|refine blk_drew ?_|refine blk_alloc ?_|(apply blk_below;focus assumption)));done));obtain ⟨q18,l18⟩:=q18;have HL18:=Lib.hid l18;clear l18;obtain ⟨c180,c181,c182⟩:=cells3 q18;have c18f:=unfrozen q18;obtain ⟨d180,d181,d182⟩:=cells3 (blk_below (bel_alloc (x:=(.cells #[.bool false,.int .i64 0,.slice none 0 0] 96)) (Below.refl _ _)) q18);have d18f:=unfrozen (blk_below (bel_alloc (x:=(.cells #[.bool false,.int .i64 0,.slice none 0 0] 96)) (Below.refl _ _)) q18);have Q18:=Lib.hid q18;clear q18));(try (obtain ⟨f180,f181,f182⟩:=cells3 (box_pp (.bool u.list) (.int .i64 u.n) (.slice ua u.l.length uc) Q17.out Q18.out);have f18f:=unfrozen (box_pp (.bool u.list) (.int .i64 u.n) (.slice ua u.l.length uc) Q17.out Q18.out)));(try (obtain ⟨f190,f191,f192⟩:=cells3 (box_pn (z18:=#[.int .i64 0,.int .i64 0,.slice none 0 0]) (.bool u.list) (.int .i64 u.n) (.slice ua u.l.length uc) Q17.out);have f19f:=unfrozen (box_pn (z18:=#[.int .i64 0,.int .i64 0,.slice none 0 0]) (.bool u.list) (.int .i64 u.n) (.slice ua u.l.length uc) Q17.out)));(try (obtain ⟨f200,f201,f202⟩:=cells3 (blk_below (bel_alloc (x:=.cells #[.bool u.list,.int .i64 u.n,.slice ua u.l.length uc] 96) (Below.refl _ _)) Q18.out);have f20f:=unfrozen (blk_below (bel_alloc (x:=.cells #[.bool u.list,.int .i64 u.n,.slice ua u.l.length uc] 96) (Below.refl _ _)) Q18.out)));clear hin hro hnd h2 h4 h5 h6 h7)
            | fail)
           all_goals
            go_wp2
            go_meet
            (first
            | (with_reducible refine cutW_mk HP.out ?_ (leafP _ _ _ _ _ _ Q17.out Q18.out) ?_ ?_ ?_ ?_)
            | (with_reducible refine cutW_mk HP.out ?_ (leafB _ _ _ _ _ _ Q17.out) ?_ ?_ ?_ ?_)
            | (with_reducible refine cutW_mk HP.out ?_ (leafC _ _ _ _ _ _ Q18.out) ?_ ?_ ?_ ?_)
            | (with_reducible refine cutW_mk HP.out ?_ (leafA _ _ _ _ _ _) ?_ ?_ ?_ ?_)
            | (with_reducible refine cutW_mk HP.out ?_ (leafD _ _ _ _ _ _) ?_ ?_ ?_ ?_))
            all_goals (with_reducible first|exact HZF.out|exact HZC.out|exact Nat.le_refl _|exact Nat.le_succ _|exact Nat.le_succ_of_le HZF.out|exact Nat.le_succ_of_le HZC.out|exact Or.inl HL17.out|exact Or.inl HL18.out|exact Or.inr (Nat.le_refl _)|exact Or.inr (Nat.le_succ _)|exact (by (repeat (with_reducible first|exact Below.refl _ _|refine bel_drew ?_|refine bel_alloc ?_|(apply bel_step;focus assumption)))))
          case rest=>
           have HG:Hid (∀ g o,(g=wr.heap.size∧o=(.cells #[.bool li,.int .i64 0,.slice none 0 0] 96 (0,0))∨g=w0.heap.size∧o=(.cells #[.string tn,.bool li,.int .u8 85,.int .i64 num,.string name,.slice ga args.length gc,.slice ta thn.length tc,.slice ea els.length ec] 161 (0,0)))→W3.heap[g]?=some o∧¬ (A1 g∨W1.heap.size≤g∧g < wr.heap.size)∧¬ MuR C rv1 g):=Lib.hid (fun g o e=>by
            rcases e with ⟨rfl,rfl⟩|⟨rfl,rfl⟩
            · exact ⟨HVB.out,fun a=>HQ.out.1 _ a rfl,fun mm=>HQ.out.2.1 _ mm rfl⟩
            · refine ⟨HBB.out,fun a=>?_,fun mm=>?_⟩
              · rcases a with a|a
                · have:=HBL.out.st.alt _ a;omega
                · have:=HSZ1.out;omega
              · have:=HBL.out.st.mlt mm;omega)
           obtain ⟨g17,g18,ua,uc,na,nc,u,left',A3,rfl,rfl,rfl,hcs⟩:=cut_state HS3.out hcut
           have HCS:=Lib.hid hcs
           have HG3:Hid (∀ g o,(g=g17∧o=(.cells #[.bool u.list,.int .i64 u.n,.slice ua u.l.length uc] 96 (0,0))∨g=wr.heap.size∧o=(.cells #[.bool li,.int .i64 0,.slice none 0 0] 96 (0,0))∨g=w0.heap.size∧o=(.cells #[.string tn,.bool li,.int .u8 85,.int .i64 num,.string name,.slice ga args.length gc,.slice ta thn.length tc,.slice ea els.length ec] 161 (0,0)))→wc.heap[g]?=some o∧¬ A3 g∧¬ MuR C rv1 g):=Lib.hid (fun g o e=>by
            rcases e with ⟨rfl,rfl⟩|e
            · exact HCS.out.b17
            · obtain ⟨h1,h2,h3⟩:=HG.out g o e
              exact HCS.out.step.ownR h1 h2 h3)
           have HPL:Hid (∀ w7,Below wc.heap.size wc w7→w7.heap[wc.heap.size]?=some (.cells #[.int .i64 0,.int .i64 0,.slice none 0 0] 49 (0,0))→RSt C (fun k=>A3 k∨k=wc.heap.size) w7 rv1 left' vals1 ns1 K1∧RowsAt (NdrO C.lib) (fun k=>A3 k∨k=wc.heap.size) w7 (.slice (some ⟨wc.heap.size,0,none⟩) 1 1) [none]):=Lib.hid (fun w7 h1 h2=>push_litR HCS.out.st h1 h2 (Nat.le_refl _))
           obtain ⟨ra,rc,rfl⟩:=HCS.out.st.row.form
           have HN2:=Lib.hid HCS.out.st.nb
           have n2:wc.cell? ⟨C.N,2,none⟩=some (.slice ra ns1.length rc):=cell_blk HN2.out 2 rfl
           have HNS:Hid (ns1.length+1≤1000000):=Lib.hid (by have h1:=HBL.out.sm.n;have h2:=HBL.out.sm.l0;omega)
           obtain ⟨e0,e1,e2⟩:=cells3 HCS.out.b18.1
           obtain ⟨f0,f1,f2⟩:=cells3 (blk_below (bel_alloc (x:=(.cells #[.int .i64 0,.int .i64 0,.slice none 0 0] 49)) (Below.refl _ _)) HCS.out.b18.1)
           have n2':=cell_blk (blk_below (bel_alloc (x:=(.cells #[.int .i64 0,.int .i64 0,.slice none 0 0] 49)) (Below.refl _ _)) HN2.out) 2 rfl
           have i1:(ns1.length:Int) < (ns1.length:Int)+1:=by omega
           clear hcs hcut z0 z1 z2 zf y0 y1 y2 y3 y4 y5 y6 y7
           go_upto_region 34 with fail
           go_cut [] from 130 to 140 (fun wx=>CutE C A3 wc (.slice ra ns1.length rc) left' vals1 (ns1 ++ [t]) K1 (.agg #[.bool u.list,.int .i64 u.n,.slice ua u.l.length uc]) u (fun g o=>(g=g17∧o=(.cells #[.bool u.list,.int .i64 u.n,.slice ua u.l.length uc] 96 (0,0))∨g=wr.heap.size∧o=(.cells #[.bool li,.int .i64 0,.slice none 0 0] 96 (0,0))∨g=w0.heap.size∧o=(.cells #[.string tn,.bool li,.int .u8 85,.int .i64 num,.string name,.slice ga args.length gc,.slice ta thn.length tc,.slice ea els.length ec] 161 (0,0)))) wx)
           case first=>
            go_region_law (first
             | (refine step_push (by rfl) (.tmp 133) (.tmp 136) (by rfl) (by rfl) (by rfl) (HPL.out _ (by (repeat (with_reducible first|exact Below.refl _ _|refine bel_drew ?_|refine bel_alloc ?_|(apply bel_step;focus assumption)))) (by (repeat (with_reducible first|(refine blk_new ?_;(simp;done))|(refine blk_new ?_;rfl)|refine blk_drew ?_|refine blk_alloc ?_|(apply blk_below;focus assumption))))).1.row (HPL.out _ (by (repeat (with_reducible first|exact Below.refl _ _|refine bel_drew ?_|refine bel_alloc ?_|(apply bel_step;focus assumption)))) (by (repeat (with_reducible first|(refine blk_new ?_;(simp;done))|(refine blk_new ?_;rfl)|refine blk_drew ?_|refine blk_alloc ?_|(apply blk_below;focus assumption))))).2 (HPL.out _ (by (repeat (with_reducible first|exact Below.refl _ _|refine bel_drew ?_|refine bel_alloc ?_|(apply bel_step;focus assumption)))) (by (repeat (with_reducible first|(refine blk_new ?_;(simp;done))|(refine blk_new ?_;rfl)|refine blk_drew ?_|refine blk_alloc ?_|(apply blk_below;focus assumption))))).1.apart HNS.out ?_;intro a8 c8 w8 hown8 hg8 hn8;obtain ⟨g8,rfl,hc8,hf8,h8,n81,hgo8⟩:=push_factsR (HPL.out _ (by (repeat (with_reducible first|exact Below.refl _ _|refine bel_drew ?_|refine bel_alloc ?_|(apply bel_step;focus assumption)))) (by (repeat (with_reducible first|(refine blk_new ?_;(simp;done))|(refine blk_new ?_;rfl)|refine blk_drew ?_|refine blk_alloc ?_|(apply blk_below;focus assumption))))).1 hown8 hg8 hn8;obtain ⟨hb8,n82⟩:=hgo8 g18 _ (blk_below (by (repeat (with_reducible first|exact Below.refl _ _|refine bel_drew ?_|refine bel_alloc ?_|(apply bel_step;focus assumption)))) HCS.out.b18.1) HCS.out.b18.2.2;obtain ⟨x0,y0⟩:=h8 0 (by omega);obtain ⟨x1,y1⟩:=h8 1 (by omega);obtain ⟨x2,y2⟩:=h8 2 (by omega);simp only [Nat.add_zero] at y0;obtain ⟨p0,p1,p2⟩:=cells3 hb8;have q0:=cell_blk hc8 2 rfl;have qf:=unfrozen hc8;have HCD:=Lib.hid (push_allR hown8 hg8 hn8 (by (repeat (with_reducible first|exact Below.refl _ _|refine bel_drew ?_|refine bel_alloc ?_|(apply bel_step;focus assumption)))) (HPL.out _ (by (repeat (with_reducible first|exact Below.refl _ _|refine bel_drew ?_|refine bel_alloc ?_|(apply bel_step;focus assumption)))) (by (repeat (with_reducible first|(refine blk_new ?_;(simp;done))|(refine blk_new ?_;rfl)|refine blk_drew ?_|refine blk_alloc ?_|(apply blk_below;focus assumption))))).1 HCS.out.st HCS.out.vl HG3.out HCS.out.nd);clear hown8 hg8 hn8 h8 hb8 hc8 hgo8)
             | fail)
            all_goals
             go_wp2_with fail
             go_meet
             first|(with_reducible exact HCD.out.1)|(with_reducible exact HCD.out.2)
           case rest=>
            obtain ⟨A4,rv4,hcn⟩:=hcut
            have HCN:=Lib.hid hcn
            obtain ⟨m0,m1,m2⟩:=cells3 (HCN.out.blk g17 _ (.inl ⟨rfl,rfl⟩)).1
            have hzb:=HCN.out.blk wr.heap.size _ (.inr (.inl ⟨rfl,rfl⟩))
            obtain ⟨z0,z1,z2⟩:=cells3 hzb.1
            have zf:=unfrozen hzb.1
            have hbb:=HCN.out.blk w0.heap.size _ (.inr (.inr ⟨rfl,rfl⟩))
            obtain ⟨bt,-,-,-,-,-,-,-⟩:=cells8 hbb.1
            have hk9:=keeps_set3 wc wr.heap.size (.bool u.list) (.int .i64 u.n) (.slice ua u.l.length uc)
            have bt9:=keeps_cell hk9 bt (fun e=>absurd e (Nat.ne_of_lt HW0.out))
            obtain ⟨v90,v91,v92⟩:=cells3 (set3 hzb.1 (.bool u.list) (.int .i64 u.n) (.slice ua u.l.length uc))
            have hs9:=HCN.out.st.keeps hk9 (fun j a e=>hzb.2.1 (e ▸ a)) (fun j mm e=>hzb.2.2 (e ▸ mm))
            have hvl9:=HCN.out.vl.stays (hk9.stays (A:=A4) (fun j a _ e=>hzb.2.1 (e ▸ a)))
            obtain ⟨w10,hrun,hs10,ht10⟩:=st_res hs9 HKK.out.1 HNZ.out.1 HTT.out.2.1 HTT.out.2.2.1 (x:=t.res) hvl9 (by rw [← HCS.out.cl];cases hh:u.list <;> simp [cleanV,hh]) HMD.out.1
            have HS10:=Lib.hid hs10
            have HT10:=Lib.hid ((((HT3.out.trans HCS.out.step).trans HCN.out.step).young hk9 (fun j e=>by rw [e];exact HQ.out.2.2)).trans ht10)
            clear hcn hbb hzb hk9 hs9 hvl9 hs10 ht10 bt
            go_wp2
            refine ⟨⟨k+1,by go_num,HK1.out,HBL.out.next HX.out.1 HX.out.2.1 HX.out.2.2.1 (by rw [HMD.out.2.1];exact HS10.out) HT10.out (by simp) ?_ ?_ ⟨?_,?_,?_,fun s=>?_⟩⟩,by have:=HK1.out;simp [intOf];omega⟩
            · have h1:=HCS.out.lo
              unfold need43
              rw [costTs]
              omega
            · have h1:=HCS.out.hi
              omega
            · have h1:=HBL.out.sm.k
              have h2:=HCS.out.hi
              push_cast
              omega
            · have h1:=HBL.out.sm.n
              have h2:=HCS.out.hi
              simp
              omega
            · have h1:=HCS.out.lo
              have h2:=HMD.out.2.2.2
              omega
            · have h1:=HBL.out.sm.len s
              have h2:=HBL.out.ln
              rw [TrLens] at h2
              have h3:=trlen_res h2.1
              rw [HMD.out.2.1]
              unfold VEnv.put
              split <;> omega
       · as_aux_lemma=>
          obtain ⟨x,hr,hv1,hr1,hcb,hck,hxl⟩:=cexec_res (by omega) HX.out.2.2.2
          have HR:=Lib.hid (And.intro hv1 (And.intro hr1 hcb))
          have hx:x=⟨li,0,[]⟩:=by simp [resultB] at hr;exact hr.symm
          obtain ⟨w5,hrun,hs5,ht5⟩:=st_res HS3.out HKK.out.1 HNZ.out.1 HTT.out.2.1 HTT.out.2.2.1 (v:=.agg #[.bool li,.int .i64 0,.slice none 0 0]) (u:=⟨li,0,[]⟩) ⟨none,0,rfl,in64_0,RowsAt.nil _ _ _⟩ (by rw [hx]) hxl
          have HS5:=Lib.hid hs5
          have HT5:=Lib.hid (HT3.out.trans ht5)
          have HLN:Hid (x.l.length≤1001+K1):=Lib.hid (by rw [hx];exact Nat.zero_le _)
          clear hs5 ht5 hv1 hr1 hcb hck hxl hr hx
          go_wp2
          exact ⟨⟨k+1,by go_num,HK1.out,bl_res HBL.out HX.out.1 HX.out.2.1 HX.out.2.2.1 HNN.out.2 HR.out.1 HR.out.2.1 HR.out.2.2 HS5.out HT5.out HLN.out⟩,by have:=HK1.out;simp [intOf];omega⟩
       · as_aux_lemma=>
          obtain ⟨x,hr,hv1,hr1,hcb,hck,hxl⟩:=cexec_res (by omega) HX.out.2.2.2
          have HR:=Lib.hid (And.intro hv1 (And.intro hr1 hcb))
          obtain ⟨hi0,hu0⟩:=us_at HUS.out (i:=0) (by omega)
          obtain ⟨ab,ao,acap,u0a,u0c,hae0,_,_,_,a00,a01,a02,hin0,hro0⟩:=vls_at HA3.out hi0
          rw [HUL.out] at hae0
          simp only [Value.slice.injEq] at hae0
          obtain ⟨rfl,-,rfl⟩:=hae0
          simp only [Nat.zero_mul,Nat.add_zero] at a00 a01 a02
          obtain ⟨hi1,hu1⟩:=us_at HUS.out (i:=1) (by omega)
          obtain ⟨bb,bo,bcap,u1a,u1c,hae1,_,_,_,a10,a11,a12,hin1,hro1⟩:=vls_at HA3.out hi1
          rw [HUL.out] at hae1
          simp only [Value.slice.injEq,Option.some.injEq,Addr.mk.injEq,and_true,true_and] at hae1
          obtain ⟨⟨rfl,rfl⟩,rfl⟩:=hae1
          simp only [Nat.one_mul] at a10 a11 a12
          have hx:x=⟨true,0,(vals1 (at' args 0)).n :: (vals1 (at' args 1)).l⟩:=by simp [resultB] at hr;exact hr.symm
          simp [chkB] at hck
          obtain ⟨n0,_⟩:=clean_n hu0 hck.2.1
          obtain ⟨l1e,_⟩:=clean_l hu1 hck.2.2
          have hli:li=true:=by rw [← hxl,hx]
          have hlnv:=HKK.out.2 (at' args 1)
          rw [← l1e] at hlnv
          rw [← n0,← l1e] at hx
          have HXE:=Lib.hid (And.intro hx (And.intro hli hxl))
          have HLL:Hid ((at' us 1).l.length≤1000+K1∧K1≤200000):=Lib.hid ⟨hlnv,HKK.out.1⟩
          have HIN:=Lib.hid hin0
          have HRO:=Lib.hid hro1
          have l0:(0:Int) < (args.length:Int):=by omega
          have l1:(1:Int) < (args.length:Int):=by omega
          have hbz:Below W3.heap.size W3 (W3.alloc (.cells #[.int .i64 (at' us 0).n] 3)):=bel_alloc (Below.refl _ _)
          have p01:=cell_bel hbz a01
          have p12:=cell_bel hbz a12
          clear hv1 hr1 hcb hck hxl hr hx hli hin0 hin1 hu0 hu1 n0 l1e hlnv hro0 hro1 hbz
          go_wp2
          go_region_law
           (first
           | (refine step_rows (E:=IntE) (D:=fun j=>(A1 j∨W1.heap.size≤j∧j < wr.heap.size)∨W3.heap.size≤j) (D':=fun j=>A1 j∨W1.heap.size≤j∧j < wr.heap.size) (base:=W3.heap.size) (l:=[(at' us 0).n]) (m:=(at' us 1).l) TInt rfl (by decide) (by rfl) (.tmp 148) (.tmp 152) (by rfl) (by rfl) (by rfl) (own_int1 (by (repeat (with_reducible first|(refine blk_new ?_;(simp;done))|(refine blk_new ?_;rfl)|refine blk_drew ?_|refine blk_alloc ?_|(apply blk_below;focus assumption)))) (Nat.le_refl _) HIN.out) (HRO.out.stays (Stays.of_below (by (repeat (with_reducible first|exact Below.refl _ _|refine bel_drew ?_|refine bel_alloc ?_|(apply bel_step;focus assumption)))))) (fun b _ h=>⟨.inl h,fun e=>by have h1:some W3.heap.size=some b:=e;have h2:=Option.some.inj h1;have h3:=HS3.out.alt b h;have h4:=HW3Z.out;omega⟩) (by have:=HLL.out;unfold maxLen;simp;omega) (by have:=HLL.out;simp;omega) (by simp) ?_;intro a9 c9 w9 h9 hg9 hn9;simp only [List.length_cons,List.length_nil,Nat.zero_add] at h9;have hb9:Below W3.heap.size W3 w9:=Below.grown (by (repeat (with_reducible first|exact Below.refl _ _|refine bel_drew ?_|refine bel_alloc ?_|(apply bel_step;focus assumption)))) hg9 (by simp) (fun k e=>by have h1:some W3.heap.size=some k:=e;have h2:=Option.some.inj h1;omega);have HNL9:=Lib.hid (new_list (li:=li) HS3.out HT3.out hb9 HQ.out.1 HQ.out.2.1 HQ.out.2.2 HGL.out h9 (by simp;omega) (by have:=HLL.out;unfold maxLen;simp;omega));have hkb:=HKB9.out w9 hb9 (.slice a9 (1+(at' us 1).l.length) c9);obtain ⟨z0',z1',z2'⟩:=cells3 (blk_below hb9 HVB.out);have zf':=unfrozen (blk_below hb9 HVB.out);obtain ⟨w5,hrun,hs5,ht5⟩:=st_res HNL9.out.1 HKK.out.1 HNZ.out.1 HTT.out.2.1 HTT.out.2.2.1 HNL9.out.2.2 (by rw [HXE.out.1,HXE.out.2.1];rfl) HXE.out.2.2;have HS5:=Lib.hid hs5;have HT5:=Lib.hid (HNL9.out.2.1.trans ht5);clear h9 hg9 hn9 hb9 hs5 ht5)
           | fail)
          all_goals
           have HLN:Hid (x.l.length≤1001+K1):=Lib.hid (by rw [HXE.out.1];have:=HLL.out.1;simp;omega)
           go_wp2
           exact ⟨⟨k+1,by go_num,HK1.out,bl_res HBL.out HX.out.1 HX.out.2.1 HX.out.2.2.1 HNN.out.2 HR.out.1 HR.out.2.1 HR.out.2.2 HS5.out HT5.out HLN.out⟩,by have:=HK1.out;simp [intOf];omega⟩
       · rcases h3 with rfl|rfl|rfl
         · as_aux_lemma=>
            obtain ⟨x,hr,hv1,hr1,hcb,hck,hxl⟩:=cexec_res (by omega) HX.out.2.2.2
            have HR:=Lib.hid (And.intro hv1 (And.intro hr1 hcb))
            obtain ⟨hi0,hu0⟩:=us_at HUS.out (i:=0) (by omega)
            obtain ⟨ab,ao,acap,u0a,u0c,hae0,_,_,_,a00,a01,a02,hin0,hro0⟩:=vls_at HA3.out hi0
            rw [HUL.out] at hae0
            simp only [Value.slice.injEq] at hae0
            obtain ⟨rfl,-,rfl⟩:=hae0
            simp only [Nat.zero_mul,Nat.add_zero] at a00 a01 a02
            have hne:(vals1 (at' args 0)).l.length≠0:=by intro h;simp [resultB,h] at hr
            have hx:x=⟨false,nth (vals1 (at' args 0)).l 0,[]⟩:=by rw [resultB] at hr;simp [hne] at hr;exact hr.symm
            simp [chkB] at hck
            obtain ⟨l0e,_⟩:=clean_l hu0 hck.2
            have hli:li=false:=by rw [← hxl,hx]
            rw [← l0e] at hne hx
            obtain ⟨ib,io,icap,hie,_,_,q0,hq0⟩:=ints_at hro0 (j:=0) (by omega)
            simp only [Value.slice.injEq] at hie
            obtain ⟨rfl,-,rfl⟩:=hie
            simp only [Nat.add_zero] at q0
            have hS4:=HS3.out.keeps (keeps_set W3 wr.heap.size 1 (.int .i64 (nth (at' us 0).l 0))) (fun j a e=>HQ.out.1 j a e) (fun j a e=>HQ.out.2.1 j a e)
            have hT4:=HT3.out.young (keeps_set W3 wr.heap.size 1 (.int .i64 (nth (at' us 0).l 0))) (fun j e=>by rw [e];exact HQ.out.2.2)
            have hkb:=HKB.out _ (keeps_set W3 wr.heap.size 1 (.int .i64 (nth (at' us 0).l 0)))
            obtain ⟨w5,hrun,hs5,ht5⟩:=st_res hS4 HKK.out.1 HNZ.out.1 HTT.out.2.1 HTT.out.2.2.1 (v:=.agg #[.bool li,.int .i64 (nth (at' us 0).l 0),.slice none 0 0]) (u:=⟨li,nth (at' us 0).l 0,[]⟩) ⟨none,0,rfl,hq0,RowsAt.nil _ _ _⟩ (by rw [hx,hli]) hxl
            have HS5:=Lib.hid hs5
            have HT5:=Lib.hid (hT4.trans ht5)
            have HLN:Hid (x.l.length≤1001+K1):=Lib.hid (by rw [hx];exact Nat.zero_le _)
            have d0:(((at' us 0).l.length:Int) == 0)=false:=beq_eq_false_iff_ne.2 (by omega)
            have l0:(0:Int) < (args.length:Int):=by omega
            have l1:(0:Int) < ((at' us 0).l.length:Int):=by omega
            have l0':0 < args.length:=by omega
            clear hS4 hT4 hs5 ht5 hv1 hr1 hcb hck hxl hr hx hli hin0 hro0 hu0 hq0 hne l0e
            go_wp2
            exact ⟨⟨k+1,by go_num,HK1.out,bl_res HBL.out HX.out.1 HX.out.2.1 HX.out.2.2.1 HNN.out.2 HR.out.1 HR.out.2.1 HR.out.2.2 HS5.out HT5.out HLN.out⟩,by have:=HK1.out;simp [intOf];omega⟩
         · as_aux_lemma=>
            obtain ⟨x,hr,hv1,hr1,hcb,hck,hxl⟩:=cexec_res (by omega) HX.out.2.2.2
            have HR:=Lib.hid (And.intro hv1 (And.intro hr1 hcb))
            obtain ⟨hi0,hu0⟩:=us_at HUS.out (i:=0) (by omega)
            obtain ⟨ab,ao,acap,u0a,u0c,hae0,_,_,_,a00,a01,a02,hin0,hro0⟩:=vls_at HA3.out hi0
            rw [HUL.out] at hae0
            simp only [Value.slice.injEq] at hae0
            obtain ⟨rfl,-,rfl⟩:=hae0
            simp only [Nat.zero_mul,Nat.add_zero] at a00 a01 a02
            have hne:(vals1 (at' args 0)).l.length≠0:=by intro h;simp [resultB,h] at hr
            have hx:x=⟨true,0,(vals1 (at' args 0)).l.tail⟩:=by rw [resultB] at hr;simp [hne] at hr;exact hr.symm
            simp [chkB] at hck
            obtain ⟨l0e,_⟩:=clean_l hu0 hck.2
            have hli:li=true:=by rw [← hxl,hx]
            have hlnv:=HKK.out.2 (at' args 0)
            rw [← l0e] at hne hx hlnv
            obtain ⟨ib,io,icap,hie,_,hicap,q0,hq0⟩:=ints_at hro0 (j:=0) (by omega)
            simp only [Value.slice.injEq] at hie
            obtain ⟨rfl,-,rfl⟩:=hie
            have l0:(0:Int) < (args.length:Int):=by omega
            have l0':0 < args.length:=by omega
            have l1:(0:Int) < ((at' us 0).l.length:Int):=by omega
            have d0:(((at' us 0).l.length:Int) == 0)=false:=beq_eq_false_iff_ne.2 (by omega)
            have HTL:=Lib.hid (ints_tail hro0 (by omega))
            have htl:(at' us 0).l.tail.length=(at' us 0).l.length - 1:=by simp
            have HXE:=Lib.hid (And.intro hx (And.intro hli hxl))
            have HLL:Hid ((at' us 0).l.length≤1000+K1∧K1≤200000):=Lib.hid ⟨hlnv,HKK.out.1⟩
            have HHT:=Lib.hid htl
            clear hv1 hr1 hcb hck hxl hr hx hli hin0 hu0 hq0 hne l0e hlnv hro0 htl
            by_cases hc1:u0c=1
            · subst hc1
              have hl1:(at' us 0).l.length=1:=by omega
              go_wp2_with (at_builtin;refine wpl_rows (E:=IntE) (D:=fun j=>(A1 j∨W1.heap.size≤j∧j < wr.heap.size)∨W3.heap.size≤j) (D':=fun j=>A1 j∨W1.heap.size≤j∧j < wr.heap.size) (base:=W3.heap.size) (l:=[]) (m:=(at' us 0).l.tail) (u:=.slice (some ⟨ib,io,none⟩) 0 0) TInt rfl (by decide) rfl (.tmp 174) (.tmp 179) rfl rfl rfl (rows_emptyR (at_new0 _ _) (Nat.le_refl _)) (ints_none2 (by rw [HHT.out,hl1]) (by rw [HHT.out,hl1])) (fun b hb h=>⟨.inl h,fun e=>by have h1:some W3.heap.size=some b:=e;have h2:=Option.some.inj h1;have h3:=HS3.out.alt b h;have h4:=HW3Z.out;omega⟩) (by have:=HLL.out;rw [HHT.out];unfold maxLen;simp;omega) (by have:=HLL.out;rw [HHT.out];simp;omega) (by simp) ?_;intro a9 c9 w9 h9 hg9 hn9;simp only [List.length_nil,Nat.zero_add,List.length_tail,List.nil_append,hl1,Nat.sub_self] at h9;have hb9:Below W3.heap.size W3 w9:=Below.grown (bel_alloc (Below.refl _ _)) hg9 (by simp) (fun k e=>by have h1:some W3.heap.size=some k:=e;have h2:=Option.some.inj h1;omega);have HNL9:=Lib.hid (new_list (li:=li) HS3.out HT3.out hb9 HQ.out.1 HQ.out.2.1 HQ.out.2.2 HGL.out h9 (by rw [HHT.out,hl1]) (by have:=HLL.out;rw [HHT.out];unfold maxLen;omega));have hkb:=HKB9.out w9 hb9 (.slice a9 0 c9);obtain ⟨z0',z1',z2'⟩:=cells3 (blk_below hb9 HVB.out);have zf':=unfrozen (blk_below hb9 HVB.out);obtain ⟨w5,hrun,hs5,ht5⟩:=st_res HNL9.out.1 HKK.out.1 HNZ.out.1 HTT.out.2.1 HTT.out.2.2.1 HNL9.out.2.2 (by rw [HXE.out.1,HXE.out.2.1]) HXE.out.2.2;have HS5:=Lib.hid hs5;have HT5:=Lib.hid (HNL9.out.2.1.trans ht5);clear h9 hg9 hn9 hb9 hs5 ht5)
              all_goals
               have HLN:Hid (x.l.length≤1001+K1):=Lib.hid (by rw [HXE.out.1];have:=HLL.out.1;simp;omega)
               exact ⟨⟨k+1,by go_num,HK1.out,bl_res HBL.out HX.out.1 HX.out.2.1 HX.out.2.2.1 HNN.out.2 HR.out.1 HR.out.2.1 HR.out.2.2 HS5.out HT5.out HLN.out⟩,by have:=HK1.out;simp [intOf];omega⟩
            · go_wp2_with (at_builtin;refine wpl_rows (E:=IntE) (D:=fun j=>(A1 j∨W1.heap.size≤j∧j < wr.heap.size)∨W3.heap.size≤j) (D':=fun j=>A1 j∨W1.heap.size≤j∧j < wr.heap.size) (base:=W3.heap.size) (l:=[]) (m:=(at' us 0).l.tail) (u:=.slice (some ⟨ib,io+1,none⟩) ((at' us 0).l.length - 1) (u0c - 1)) TInt rfl (by decide) rfl (.tmp 174) (.tmp 179) rfl rfl rfl (rows_emptyR (at_new0 _ _) (Nat.le_refl _)) (HTL.out.stays (Stays.of_below (bel_alloc (Below.refl _ _)))) (fun b hb h=>⟨.inl h,fun e=>by have h1:some W3.heap.size=some b:=e;have h2:=Option.some.inj h1;have h3:=HS3.out.alt b h;have h4:=HW3Z.out;omega⟩) (by have:=HLL.out;rw [HHT.out];unfold maxLen;simp;omega) (by have:=HLL.out;rw [HHT.out];simp;omega) (by simp) ?_;intro a9 c9 w9 h9 hg9 hn9;simp only [List.length_nil,Nat.zero_add,List.length_tail,List.nil_append] at h9;have hb9:Below W3.heap.size W3 w9:=Below.grown (bel_alloc (Below.refl _ _)) hg9 (by simp) (fun k e=>by have h1:some W3.heap.size=some k:=e;have h2:=Option.some.inj h1;omega);have HNL9:=Lib.hid (new_list (li:=li) HS3.out HT3.out hb9 HQ.out.1 HQ.out.2.1 HQ.out.2.2 HGL.out h9 (by simp) (by have:=HLL.out;rw [HHT.out];unfold maxLen;omega));have hkb:=HKB9.out w9 hb9 (.slice a9 ((at' us 0).l.length - 1) c9);obtain ⟨z0',z1',z2'⟩:=cells3 (blk_below hb9 HVB.out);have zf':=unfrozen (blk_below hb9 HVB.out);obtain ⟨w5,hrun,hs5,ht5⟩:=st_res HNL9.out.1 HKK.out.1 HNZ.out.1 HTT.out.2.1 HTT.out.2.2.1 HNL9.out.2.2 (by rw [HXE.out.1,HXE.out.2.1]) HXE.out.2.2;have HS5:=Lib.hid hs5;have HT5:=Lib.hid (HNL9.out.2.1.trans ht5);clear h9 hg9 hn9 hb9 hs5 ht5)
              all_goals
               have HLN:Hid (x.l.length≤1001+K1):=Lib.hid (by rw [HXE.out.1];have:=HLL.out.1;simp;omega)
               exact ⟨⟨k+1,by go_num,HK1.out,bl_res HBL.out HX.out.1 HX.out.2.1 HX.out.2.2.1 HNN.out.2 HR.out.1 HR.out.2.1 HR.out.2.2 HS5.out HT5.out HLN.out⟩,by have:=HK1.out;simp [intOf];omega⟩
         · as_aux_lemma=>
            obtain ⟨x,hr,hv1,hr1,hcb,hck,hxl⟩:=cexec_res (by omega) HX.out.2.2.2
            have HR:=Lib.hid (And.intro hv1 (And.intro hr1 hcb))
            obtain ⟨hi0,hu0⟩:=us_at HUS.out (i:=0) (by omega)
            obtain ⟨ab,ao,acap,u0a,u0c,hae0,_,_,_,a00,a01,a02,hin0,hro0⟩:=vls_at HA3.out hi0
            rw [HUL.out] at hae0
            simp only [Value.slice.injEq] at hae0
            obtain ⟨rfl,-,rfl⟩:=hae0
            simp only [Nat.zero_mul,Nat.add_zero] at a00 a01 a02
            simp [chkB] at hck
            obtain ⟨l0e,_⟩:=clean_l hu0 hck.2
            have hx:x=(if (at' us 0).l.length=0 then ⟨false,1,[]⟩ else noVl):=by
             rw [resultB,if_neg (by omega),if_neg (by omega),if_neg (by omega),if_neg (by omega),if_neg (by omega),if_neg (by omega),if_pos rfl] at hr
             rw [l0e];exact (Option.some.inj hr).symm
            have hxf:x.list=false:=by rw [hx];split <;> rfl
            have hli:li=false:=hxl.symm.trans hxf
            have l0:(0:Int) < (args.length:Int):=by omega
            have l0':0 < args.length:=by omega
            by_cases hz:(at' us 0).l.length=0
            · rw [if_pos hz] at hx
              have hS4:=HS3.out.keeps (keeps_set W3 wr.heap.size 1 (.int .i64 1)) (fun j a e=>HQ.out.1 j a e) (fun j a e=>HQ.out.2.1 j a e)
              have hT4:=HT3.out.young (keeps_set W3 wr.heap.size 1 (.int .i64 1)) (fun j e=>by rw [e];exact HQ.out.2.2)
              have hkb:=HKB.out _ (keeps_set W3 wr.heap.size 1 (.int .i64 1))
              obtain ⟨w5,hrun,hs5,ht5⟩:=st_res hS4 HKK.out.1 HNZ.out.1 HTT.out.2.1 HTT.out.2.2.1 (v:=.agg #[.bool li,.int .i64 1,.slice none 0 0]) (u:=⟨li,1,[]⟩) ⟨none,0,rfl,by show In64 1;unfold In64;omega,RowsAt.nil _ _ _⟩ (by rw [hx,hli]) hxl
              have HS5:=Lib.hid hs5
              have HT5:=Lib.hid (hT4.trans ht5)
              have HLN:Hid (x.l.length≤1001+K1):=Lib.hid (by rw [hx];exact Nat.zero_le _)
              have d0:(((at' us 0).l.length:Int) == 0)=true:=by simp [hz]
              clear hS4 hT4 hs5 ht5 hv1 hr1 hcb hck hxl hr hx hli hin0 hro0 hu0 l0e hxf hz
              go_wp2
              exact ⟨⟨k+1,by go_num,HK1.out,bl_res HBL.out HX.out.1 HX.out.2.1 HX.out.2.2.1 HNN.out.2 HR.out.1 HR.out.2.1 HR.out.2.2 HS5.out HT5.out HLN.out⟩,by have:=HK1.out;simp [intOf];omega⟩
            · rw [if_neg hz] at hx
              obtain ⟨w5,hrun,hs5,ht5⟩:=st_res HS3.out HKK.out.1 HNZ.out.1 HTT.out.2.1 HTT.out.2.2.1 (v:=.agg #[.bool li,.int .i64 0,.slice none 0 0]) (u:=⟨li,0,[]⟩) ⟨none,0,rfl,in64_0,RowsAt.nil _ _ _⟩ (by rw [hx,hli];rfl) hxl
              have HS5:=Lib.hid hs5
              have HT5:=Lib.hid (HT3.out.trans ht5)
              have HLN:Hid (x.l.length≤1001+K1):=Lib.hid (by rw [hx];exact Nat.zero_le _)
              have d0:(((at' us 0).l.length:Int) == 0)=false:=beq_eq_false_iff_ne.2 (by omega)
              clear hs5 ht5 hv1 hr1 hcb hck hxl hr hx hli hin0 hro0 hu0 l0e hxf hz
              go_wp2
              exact ⟨⟨k+1,by go_num,HK1.out,bl_res HBL.out HX.out.1 HX.out.2.1 HX.out.2.2.1 HNN.out.2 HR.out.1 HR.out.2.1 HR.out.2.2 HS5.out HT5.out HLN.out⟩,by have:=HK1.out;simp [intOf];omega⟩
  · obtain rfl:k=l.length:=by omega
    have hlt':¬ (l.length:Int) < (l.length:Int):=by omega
    have hex1:=hb.ex
    rw [List.drop_length,cexecBs] at hex1
    simp only [Option.some.injEq,Prod.mk.injEq] at hex1
    obtain ⟨rfl,rfl,rfl⟩:=hex1
    have HBL:=Lib.hid hb
    clear hb
    go_wp2
    go_ret
    have h:=HBL.out
    have hlo:=h.lo
    unfold need43 at hlo
    exact ⟨rfl,A1,rv1,left1,ns1,K1,h.st,h.step,h.all,by omega,h.hi,h.sm⟩
end Go.Proofs.YtjhimhlebbamoaaDoor
