/- Contracts and plain lemmas (PScp, Full, ScpA): no statement of the seat is proved here. -/
import Derived.Test.YtpobmoegmdhbpaaGreatDoorXq12
import Derived.Deep.RegionHeld3
set_option linter.unusedSimpArgs false
set_option linter.unusedVariables false
set_option linter.unusedSectionVars false
set_option maxRecDepth 100000
set_option maxHeartbeats 1600000
namespace Go.Proofs.YtpobmoegmdhbpaaGreatDoor
open Go.RowKit
theorem zdn {A:Nat→Prop} {w:World} {va:Option Addr} {n vc:Nat} {D:List Dcl} (h:RowsAt DclE A w (.slice va n vc) D) {k:Nat} (hl:k < D.length):
 ∃ b off,va=some ⟨b,off,none⟩∧b < w.heap.size∧w.cell? ⟨b,off+k * 3,none⟩=some (.string (at' D k).name)∧w.cell? ⟨b,off+k * 3+1,none⟩=some (.int .u8 (at' D k).kind)∧w.cell? ⟨b,off+k * 3+2,none⟩=some (.int .i64 0):=by
 obtain ⟨b,off,cap,cs,e,hb,_,_,hcl,hC⟩:=h.at hl
 simp only [Value.slice.injEq] at e
 obtain ⟨rfl,-,rfl⟩:=e
 have c0:=hcl 0 (by decide)
 have c1:=hcl 1 (by decide)
 have c2:=hcl 2 (by decide)
 obtain ⟨e0,e1,e2,_⟩:=hC
 rw [e0] at c0
 rw [e1] at c1
 rw [e2] at c2
 exact ⟨b,off,rfl,hb,c0,c1,c2⟩
structure Prc where
 name:ByteArray
 params:List Dcl
 body:Nd
instance:Inhabited Prc:=⟨⟨ByteArray.empty,[],default⟩⟩
structure PrcC (A:Nat→Prop) (w:World) (c:Nat→Value) (p:Prc):Prop where
 c0:c 0=.string p.name
 c1:RowsAt DclE A w (c 1) p.params
 c2:NdC A w (fun i=>c (2+i)) p.body
 ok:p.name.size≤maxLen
theorem PrcC.stays {A A':Nat→Prop} {w w':World} (hs:Stays A A' w w') {c:Nat→Value} {p:Prc} (h:PrcC A w c p):PrcC A' w' c p:=⟨h.c0,h.c1.stays hs,h.c2.stays hs,h.ok⟩
def PrcE:Elem Prc where
 size:=6
 C:=PrcC
 stays:=fun hs _ _ h=>h.stays hs
 congr:=fun h e=>⟨(e 0 (by omega)).trans h.c0,by rw [e 1 (by omega)];exact h.c1,h.c2.congr (fun i hi=>e (2+i) (by omega)),h.ok⟩
 one:=fun h i hi=>by
  obtain ⟨_,pa,pc,e1⟩:=h.c1.form
  obtain ⟨_,ka,kc,e5⟩:=h.c2.c3.form
  match i,hi with
  | 0,_=>rw [h.c0];rfl
  | 1,_=>rw [e1];rfl
  | 2,_=>exact (congrArg Value.oneCell' h.c2.c0).trans rfl
  | 3,_=>exact (congrArg Value.oneCell' h.c2.c1).trans rfl
  | 4,_=>exact (congrArg Value.oneCell' h.c2.c2).trans rfl
  | 5,_=>exact (congrArg Value.oneCell' e5).trans rfl
theorem zdP {A:Nat→Prop} {w:World} {va:Option Addr} {n vc:Nat} {D:List Prc} (h:RowsAt PrcE A w (.slice va n vc) D) {k:Nat} (hl:k < D.length):
 ∃ b off pa pc ka kc,va=some ⟨b,off,none⟩∧b < w.heap.size∧n=D.length∧D.length≤vc∧A b∧w.cell? ⟨b,off+k * 6,none⟩=some (.string (at' D k).name)∧w.cell? ⟨b,off+k * 6+1,none⟩=some (.slice pa (at' D k).params.length pc)∧
   w.cell? ⟨b,off+k * 6+2,none⟩=some (.int .u8 (at' D k).body.kind)∧w.cell? ⟨b,off+k * 6+3,none⟩=some (.int .i64 (at' D k).body.num)∧w.cell? ⟨b,off+k * 6+4,none⟩=some (.string (at' D k).body.name)∧w.cell? ⟨b,off+k * 6+5,none⟩=some (.slice ka (at' D k).body.kids.length kc)∧
   RowsAt DclE A w (.slice pa (at' D k).params.length pc) (at' D k).params∧NdAt A w (.agg #[.int .u8 (at' D k).body.kind,.int .i64 (at' D k).body.num,.string (at' D k).body.name,.slice ka (at' D k).body.kids.length kc]) (at' D k).body∧(at' D k).name.size≤maxLen:=by
 obtain ⟨b,off,cap,cs,he,h1,h2,h3,h4,h5⟩:=h.at hl
 simp only [Value.slice.injEq] at he
 obtain ⟨rfl,rfl,rfl⟩:=he
 obtain ⟨_,pa,pc,e1⟩:=h5.c1.form
 obtain ⟨hkl,ka,kc,e5⟩:=h5.c2.c3.form
 have c0:=h4 0 (by decide)
 have c1:=h4 1 (by decide)
 have c2:=h4 2 (by decide)
 have c3:=h4 3 (by decide)
 have c4:=h4 4 (by decide)
 have c5:=h4 5 (by decide)
 have d2:cs 2=.int .u8 (at' D k).body.kind:=h5.c2.c0
 have d3:cs 3=.int .i64 (at' D k).body.num:=h5.c2.c1
 have d4:cs 4=.string (at' D k).body.name:=h5.c2.c2
 have d5:cs 5=.slice ka (at' D k).body.kids.length kc:=e5
 rw [h5.c0] at c0
 rw [e1] at c1
 rw [d2] at c2
 rw [d3] at c3
 rw [d4] at c4
 rw [d5] at c5
 have hr:=h5.c1
 rw [e1] at hr
 have hk:KidsAt A w (.slice ka (at' D k).body.kids.length kc) (at' D k).body.kids:=d5 ▸ (show KidsAt A w (cs 5) (at' D k).body.kids from h5.c2.c3)
 exact ⟨b,off,pa,pc,ka,kc,rfl,h1,rfl,h2,h3,c0,c1,c2,c3,c4,c5,hr,⟨h5.c2.ok,_,rfl,hk⟩,h5.ok⟩
structure Prg where
 vars:List Dcl
 procs:List Prc
 main:Nd
abbrev PrgV (va:Option Addr) (vc:Nat) (pa:Option Addr) (pc:Nat) (ka:Option Addr) (kc:Nat) (p:Prg):Value:=.agg #[.slice va p.vars.length vc,.slice pa p.procs.length pc,.int .u8 p.main.kind,.int .i64 p.main.num,.string p.main.name,.slice ka p.main.kids.length kc]
structure PrgAt (A:Nat→Prop) (w:World) (va:Option Addr) (vc:Nat) (pa:Option Addr) (pc:Nat) (ka:Option Addr) (kc:Nat) (p:Prg):Prop where
 hv:RowsAt DclE A w (.slice va p.vars.length vc) p.vars
 hp:RowsAt PrcE A w (.slice pa p.procs.length pc) p.procs
 hm:NdAt A w (.agg #[.int .u8 p.main.kind,.int .i64 p.main.num,.string p.main.name,.slice ka p.main.kids.length kc]) p.main
theorem PrgAt.stays {A A':Nat→Prop} {w w':World} (hs:Stays A A' w w') {va:Option Addr} {vc:Nat} {pa:Option Addr} {pc:Nat} {ka:Option Addr} {kc:Nat} {p:Prg} (h:PrgAt A w va vc pa pc ka kc p):PrgAt A' w' va vc pa pc ka kc p:=⟨h.hv.stays hs,h.hp.stays hs,h.hm.stays hs⟩
def findD:List Dcl→ByteArray→Option Dcl
 | [],_=>none
 | d :: l,s=>match findD l s with
   | some e=>some e
   | none=>if d.name=s then some d else none
theorem zcF {l:List Dcl} {s:ByteArray} (h:∀ d ∈ l,d.name≠s):findD l s=none:=by
 induction l with
 | nil=>rfl
 | cons d l ih=>
   rw [findD,ih (fun e he=>h e (List.mem_cons_of_mem _ he))]
   simp [h d (List.mem_cons_self ..)]
theorem zju (l:List Dcl) (d:Dcl) (s:ByteArray):findD (l ++ [d]) s=if d.name=s then some d else findD l s:=by
 induction l with
 | nil=>simp [findD]
 | cons e l ih=>
   rw [List.cons_append,findD,ih,findD]
   by_cases h:d.name=s
   · simp [h]
   · simp [h]
theorem zfo {l:List Dcl} {s:ByteArray} {k:Nat} (hk:k < l.length) (h1:(at' l k).name=s) (h2:∀ j,k < j→j < l.length→(at' l j).name≠s):findD l s=some (at' l k):=by
 induction l generalizing k with
 | nil=>simp at hk
 | cons d l ih=>
   rw [findD]
   cases k with
   | zero=>
     rw [zcF (l:=l) (s:=s) (fun e he=>by
      obtain ⟨j,hj,rfl⟩:=List.mem_iff_getElem.1 he
      have:=h2 (j+1) (by omega) (by simpa using hj)
      rwa [show at' (d :: l) (j+1)=at' l j from by simp [at',List.getD_eq_getElem?_getD],zax hj] at this)]
     have h1':d.name=s:=h1
     simp [h1',at',List.getD_eq_getElem?_getD]
   | succ k=>
     have e1:∀ j,at' (d :: l) (j+1)=at' l j:=fun j=>by simp [at',List.getD_eq_getElem?_getD]
     rw [ih (k:=k) (by simpa using hk) (by rw [← e1];exact h1) (fun j hj hl=>by rw [← e1];exact h2 (j+1) (by omega) (by simpa using hl)),e1]
def visD (l:List Dcl):Vis:=fun s=>(findD l s).map (fun d=>decide (d.kind=3))
theorem zdb (l:List Dcl) (s:ByteArray) (b:Bool):visD (l ++ [dclN s b])=(visD l).put s b:=by
 funext y
 simp only [visD,Vis.put,zju,dclN]
 by_cases h:y=s
 · subst h;cases b <;> simp
 · simp [h,Ne.symm h]
def DclsOk (l:List Dcl):Prop:=∀ d ∈ l,d.kind=1∨d.kind=3
theorem zcs {l:List Dcl} {s:ByteArray} {b:Bool} (hl:DclsOk l) (h:visD l s=some b):∃ d,findD l s=some d∧d.kind=if b then 3 else 1:=by
 unfold visD at h
 cases hf:findD l s with
 | none=>rw [hf] at h;cases h
 | some d=>
   rw [hf] at h
   refine ⟨d,rfl,?_⟩
   have hm:d ∈ l:=by
    clear h hl
    induction l with
    | nil=>cases hf
    | cons e l ih=>
      rw [findD] at hf
      cases hg:findD l s with
      | some x=>rw [hg] at hf;cases hf;exact List.mem_cons_of_mem _ (ih hg)
      | none=>
        rw [hg] at hf
        simp only at hf
        split at hf
        · cases hf;exact List.mem_cons_self ..
        · cases hf
   have h':decide (d.kind=3)=b:=by simpa using h
   rcases hl d hm with e|e <;> (subst h';simp [e])
theorem zhh {l:List Dcl} {s:ByteArray} (h:visD l s=none):findD l s=none:=by
 unfold visD at h
 cases hf:findD l s with
 | none=>rfl
 | some d=>rw [hf] at h;cases h
def idxP (l:List Prc) (s:ByteArray):Nat:=l.findIdx (fun p=>p.name=s)
end Go.Proofs.YtpobmoegmdhbpaaGreatDoor
namespace Go.Proofs.YtpobmoegmdhbpaaGreatDoor
open Go.RowKit
variable {α:Type} [Inhabited α]
theorem ziC {E:Elem α} {t ty e bytes:Nat} {z:Value} (R:RowT Tryz.prog t e z E.size bytes) (hzs:z.cells.size=E.size) (hsz:0 < E.size)
 {w:World} {va:Option Addr} {u:Value} {l m:List α} {A D':Nat→Prop} (hv:RowsAt E A w (.slice va l.length l.length) l) (hu:RowsAt E D' w u m) (hm:0 < m.length)
 (hl:l.length+m.length≤maxLen) (hby:(l.length+m.length) * bytes≤140737488355328):
 ∃ a' c' w1,(Builtin.append_ #[t,t] ty #[.slice va l.length l.length,u]).run Tryz.prog w=.ok (.slice a' (l.length+m.length) c') w1∧RowsAt E (fun b=>(A b∨D' b)∨w.heap.size≤b) w1 (.slice a' (l.length+m.length) c') (l ++ m)∧Below w.heap.size w w1:=by
 obtain ⟨olds,o1,o2,o3,o4⟩:=hv.src hsz
 obtain ⟨news,n1,n2,n3,n4⟩:=hu.src hsz
 obtain ⟨i,hi,hz,hsize,hby'⟩:=info_parts R.inf
 have finish:∀ (a':Option Addr) (c':Nat) (W1:World),Below w.heap.size w W1→W1.ownsRow w.heap.size e E.size (.slice a' (l.length+m.length) c') (l.length+m.length) (olds ++ news)→
  RowsAt E (fun b=>(A b∨D' b)∨w.heap.size≤b) W1 (.slice a' (l.length+m.length) c') (l ++ m):=by
  intro a' c' W1 hB hrow
  have hst:∀ C:Nat→Prop,(∀ b,C b→A b∨D' b)→Stays C (fun k=>((A k∨D' k)∧k < w.heap.size)∧(Value.slice a' (l.length+m.length) c').ownBlock≠some k) w W1:=fun C hC=>⟨hB.size,fun b hb hd=>⟨hB.block b hb,⟨hC b hd,hb⟩,fun e=>by have:=(hrow.lt b e).1;omega⟩⟩
  have hmul:∀ p q i,p < q→i < E.size→p * E.size+i < q * E.size:=fun p q i hp hi=>by
   calc p * E.size+i < p * E.size+E.size:=by omega
    _=(p+1) * E.size:=by rw [Nat.add_mul,Nat.one_mul]
    _≤q * E.size:=Nat.mul_le_mul_right _ hp
  have hown:RowsOwn E e (fun k=>(A k∨D' k)∧k < w.heap.size) w.heap.size W1 (.slice a' (l.length+m.length) c') (l ++ m):=by
   refine ⟨olds ++ news,by rw [List.length_append];exact hrow,fun j hj=>?_⟩
   by_cases hjl:j < l.length
   · rw [zbH hjl]
     refine E.congr (E.stays (hst A (fun b h=>.inl h)) (o4 j hjl)) fun i hi=>?_
     simp only [vat,List.getD_eq_getElem?_getD]
     rw [List.getElem?_append_left (by rw [o1];exact hmul _ _ _ hjl hi)]
   · have hjm:j - l.length < m.length:=by rw [List.length_append] at hj;omega
     rw [zbK (by omega)]
     refine E.congr (E.stays (hst D' (fun b h=>.inr h)) (n4 _ hjm)) fun i hi=>?_
     simp only [vat,List.getD_eq_getElem?_getD]
     have e1:l.length * E.size≤j * E.size:=Nat.mul_le_mul_right _ (by omega)
     rw [List.getElem?_append_right (by omega),show j * E.size+i - olds.length=(j - l.length) * E.size+i by rw [o1,Nat.sub_mul];omega]
  exact hown.shut (fun k hk=>.inl hk.1) (fun k hk=>.inr (hown.lt hk).1) (by rw [List.length_append];exact hl)
 rcases n2 with ⟨_,h0,_⟩|⟨ad2,c2,rfl,n2⟩
 · omega
 rcases o2 with ⟨e0,h0,rfl⟩|⟨ad,c,e0,o2⟩
 · obtain rfl:l=[]:=List.eq_nil_of_length_eq_zero h0
   simp only [Value.slice.injEq] at e0
   obtain ⟨rfl,-,-⟩:=e0
   obtain ⟨v',w1,hr,h1,h2,_⟩:=zbt (P:=Tryz.prog) w (ty:=ty) R hzs hsz w.heap.size (.slice none 0 0) 0 [] (World.ownsRow_nil _ _ _ _) ad2 m.length c2 news n1 n2 n3 (by simpa using hl) (by simpa using hby) (Nat.le_refl _)
   obtain ⟨a',c',rfl⟩:=zaG h1
   have hB:Below w.heap.size w w1:=(Below.refl _ _).grown h2 (Nat.le_refl _) (fun j e=>by cases e)
   exact ⟨a',c',w1,hr,finish a' c' w1 hB h1,hB⟩
 · simp only [Value.slice.injEq] at e0
   obtain ⟨rfl,-,rfl⟩:=e0
   have hr:=run_append_grow (P:=Tryz.prog) w t ty e i z R.und hi hz ad l.length l.length olds (by rw [hsize];exact o1) o2 ad2 m.length c2 news (by rw [hsize];exact n1) n2 (by omega) (by simp only [maxLen] at hl;omega) (growslice_fits (by omega) (by rw [hby'];exact hby))
   have hge:=grownCap_ge w (l.length+m.length) l.length e
   have hcm:grownCap w (l.length+m.length) l.length e≤maxLen:=grownCap_le_maxLen w (l.length+m.length) l.length e hl
   obtain ⟨W1,hW1⟩:∃ W1,W1=w.drew.alloc (.cells (olds.toArray ++ news.toArray ++ Builtin.zeroCells z.cells (grownCap w (l.length+m.length) l.length e - (l.length+m.length))) e):=⟨_,rfl⟩
   rw [← hW1] at hr
   have hB:Below w.heap.size w W1:=by rw [hW1];exact (zal (Below.refl _ _) 1).alloc (Nat.le_refl _) _
   have hlen:(olds ++ news).length=(l.length+m.length) * E.size:=by rw [List.length_append,o1,n1,Nat.add_mul]
   have hrow:W1.ownsRow w.heap.size e E.size (.slice (some ⟨w.heap.size,0,none⟩) (l.length+m.length) (grownCap w (l.length+m.length) l.length e)) (l.length+m.length) (olds ++ news):=by
    refine ⟨hlen,.inr ⟨w.heap.size,_,_,rfl,Nat.le_refl _,by rw [hW1];exact heap_alloc_new w.drew _,hge,hcm,?_,?_⟩⟩
    · simp only [Array.size_append,List.size_toArray,size_zeroCells,hzs,o1,n1,← Nat.add_mul]
      congr 1
      omega
    · simp only [Array.toList_append,List.append_assoc]
      rw [← List.append_assoc,← hlen]
      exact List.take_left
   exact ⟨_,_,_,hr,finish _ _ _ hB hrow,hB⟩
theorem zmf {E:Elem α} {t e bytes:Nat} {z:Value} (R:RowT Tryz.prog t e z E.size bytes) (hzs:z.cells.size=E.size) (hsz:0 < E.size) {ops:Array Oper} {rest:List Oper} {o:Oper} {a:Act} {Q:Exit→Act→World→Prop} (hgd:o.guard=none) (s x:Operand) (ho:o.op=.call { callee:=.builtin .append,args:=#[s,x],argTypes:=#[t,t] })
 {w:World} {va:Option Addr} {u:Value} {l m:List α} {A D':Nat→Prop} (hs:a.eval s=.slice va l.length l.length) (hx:a.eval x=u) (hv:RowsAt E A w (.slice va l.length l.length) l) (hu:RowsAt E D' w u m) (hm:0 < m.length)
 (hl:l.length+m.length≤maxLen) (hby:(l.length+m.length) * bytes≤140737488355328)
 (h:∀ a' c' w1,RowsAt E (fun b=>(A b∨D' b)∨w.heap.size≤b) w1 (.slice a' (l.length+m.length) c') (l ++ m)→Below w.heap.size w w1→wpList Tryz.prog ops Q rest (a.put o.dst (.slice a' (l.length+m.length) c')) w1):
 wpList Tryz.prog ops Q (o :: rest) a w:=by
 obtain ⟨a',c',w1,hr,h1,h2⟩:=ziC (ty:=o.type) R hzs hsz hv hu hm hl hby
 refine wpList_plain hgd fun K hK=>?_
 unfold Oper.wp execOp
 simp only [ho,resolve,invoke,builtin,Sem.run_bind,Sem.run_pure,Result.andThen_ok,List.map_toArray,List.map_cons,List.map_nil,hs,hx,hr]
 exact hK _ _ (h _ _ _ h1 h2)
theorem zgp {E:Elem α} {t e bytes:Nat} {z:Value} (R:RowT Tryz.prog t e z E.size bytes) (hzs:z.cells.size=E.size) (hsz:0 < E.size) {ops:Array Oper} {o:Oper} {a:Act} {K:Act→World→Prop} {Q:Exit→Act→World→Prop} {X:Prop} (hgd:o.guard=none) (s x:Operand) (ho:o.op=.call { callee:=.builtin .append,args:=#[s,x],argTypes:=#[t,t] })
 {w:World} {va:Option Addr} {u:Value} {l m:List α} {A D':Nat→Prop} (hs:a.eval s=.slice va l.length l.length) (hx:a.eval x=u) (hv:RowsAt E A w (.slice va l.length l.length) l) (hu:RowsAt E D' w u m) (hm:0 < m.length)
 (hl:l.length+m.length≤maxLen) (hby:(l.length+m.length) * bytes≤140737488355328)
 (h:∀ a' c' w1,RowsAt E (fun b=>(A b∨D' b)∨w.heap.size≤b) w1 (.slice a' (l.length+m.length) c') (l ++ m)→Below w.heap.size w w1→K (a.put o.dst (.slice a' (l.length+m.length) c')) w1):
 if Region.wanted o (yielded ops a.tmps)=true then Oper.wp Tryz.prog o a w K Q else X:=by
 have hw:Region.wanted o (yielded ops a.tmps)=true:=by simp [Region.wanted,hgd]
 rw [if_pos hw]
 obtain ⟨a',c',w1,hr,h1,h2⟩:=ziC (ty:=o.type) R hzs hsz hv hu hm hl hby
 unfold Oper.wp execOp
 simp only [ho,resolve,invoke,builtin,Sem.run_bind,Sem.run_pure,Result.andThen_ok,List.map_toArray,List.map_cons,List.map_nil,hs,hx,hr]
 exact h _ _ _ h1 h2
end Go.Proofs.YtpobmoegmdhbpaaGreatDoor
namespace Go.Proofs.YtpobmoegmdhbpaaGreatDoor
open Go.RowKit
def dclV:Option Dcl→Value
 | some d=>.agg #[.string d.name,.int .u8 d.kind,.int .i64 0]
 | none=>.agg #[.string ⟨#[]⟩,.int .u8 0,.int .i64 0]
theorem zjY (l:List Dcl) (s:ByteArray) (va:Option Addr) (vc:Nat) (A:Nat→Prop) (w:World) (hv:RowsAt DclE A w (.slice va l.length vc) l):
 Calls Tryz.prog 127 #[.slice va l.length vc,.string s] w fun e w'=>e=.returned (.tuple #[dclV (findD l s),.bool (findD l s).isSome])∧Below w.heap.size w w':=by
 have hlen:=hv.form.1
 have HV:=Lib.hid hv
 unfold maxLen at hlen
 have hw1:IntKind.i64.wrap ((l.length:Int) - 1)=(l.length:Int) - 1:=by rw [IntKind.wrap_i64];omega
 clear hv
 go_enter Tryz.func127,Tryz.ntmps127
 go_wp2
 go_loopw [6] (fun i wr=>∃ k:Nat,k≤l.length∧i=.int .i64 ((k:Int) - 1)∧(∀ j,k≤j→j < l.length→(at' l j).name≠s)∧wr=w.alloc (.cells #[.string ⟨#[]⟩,.int .u8 0,.int .i64 0] 100)) (fun i _=>(intOf i+1).toNat)
 case atStart=>exact ⟨l.length,Nat.le_refl _,rfl,fun j h1 h2=>by omega,rfl⟩
 case round=>
  obtain ⟨k,hkk,rfl,hno,rfl⟩:=hrel
  have HNO:=Lib.hid hno
  have hbl:Below w.heap.size w (w.alloc (.cells #[.string ⟨#[]⟩,.int .u8 0,.int .i64 0] 100)):=zaa (Below.refl _ _)
  have HBL:=Lib.hid hbl
  have hzf:=zah w (.cells #[.string ⟨#[]⟩,.int .u8 0,.int .i64 0] 100)
  have zf:=unfrozen hzf
  clear hno
  by_cases hk0:0 < k
  · obtain ⟨k,rfl⟩:∃ k',k=k'+1:=⟨k - 1,by omega⟩
    have hlt:k < l.length:=by omega
    have hq:((k+1:Nat):Int) - 1=(k:Int):=by omega
    rw [hq]
    obtain ⟨b,off,he,hb,c0,c1,c2⟩:=zdn (HV.out.stays (Stays.of_below hbl)) hlt
    subst he
    have i0:(0:Int)≤(k:Int):=by omega
    have i1:(k:Int) < (l.length:Int):=by omega
    clear hbl
    by_cases heq:(at' l k).name=s
    · have HF:=Lib.hid (zfo hlt heq (fun j h1 h2=>HNO.out j (by omega) h2))
      have he:((at' l k).name.toList == s.toList)=true:=by rw [heq];simp
      clear heq hzf
      go_wp2
      go_returns
      rw [HF.out]
      exact ⟨rfl,zaa (Below.refl _ _)⟩
    · have he:((at' l k).name.toList == s.toList)=false:=beq_eq_false_iff_ne.2 (fun h=>heq (toList_inj h))
      have HQ:=Lib.hid heq
      have hw2:IntKind.i64.wrap ((k:Int) - 1)=(k:Int) - 1:=by rw [IntKind.wrap_i64];omega
      clear heq hzf
      go_wp2
      go_roundw
      case rel=>exact ⟨k,by omega,rfl,fun j h1 h2=>(by
       by_cases e:j=k
       · rw [e];exact HQ.out
       · exact HNO.out j (by omega) h2),trivial⟩
      case measure=>simp [intOf]
  · obtain rfl:k=0:=by omega
    have HF:=Lib.hid (zcF (l:=l) (s:=s) (fun d hd=>by
     obtain ⟨j,hj,rfl⟩:=List.mem_iff_getElem.1 hd
     have:=HNO.out j (Nat.zero_le _) hj
     rwa [zax hj] at this))
    clear hzf hbl
    go_wp2
    go_returns
    rw [HF.out]
    exact ⟨rfl,zaa (Below.refl _ _)⟩
theorem zdJ (l:List Dcl) (s:ByteArray) (va:Option Addr) (vc:Nat) (A:Nat→Prop) (w:World) (hv:RowsAt DclE A w (.slice va l.length vc) l) (hn:findD l s=none):
 Calls Tryz.prog 76 #[.slice va l.length vc,.string s] w fun e w'=>e=.returned (.int .i64 0)∧Below w.heap.size w w':=by
 have HF:=Lib.hid (zjY l s va vc A w hv)
 have HN:=Lib.hid hn
 clear hv hn
 go_enter Tryz.func76,Tryz.ntmps76
 go_wp2_with fail
 refine HF.out.mono ?_
 rintro e w1 ⟨rfl,hb1⟩
 rw [HN.out]
 simp only [dclV,Option.isSome]
 have HB1:=Lib.hid hb1
 clear hb1 HF
 go_wp2
 go_ret
 exact ⟨rfl,zaa HB1.out⟩
theorem zou (l:List Dcl) (s:ByteArray) (d:Dcl) (va:Option Addr) (vc:Nat) (A:Nat→Prop) (w:World) (hv:RowsAt DclE A w (.slice va l.length vc) l) (hn:findD l s=some d):
 Calls Tryz.prog 173 #[.slice va l.length vc,.string s,.int .u8 d.kind] w fun e w'=>e=.returned (.int .i64 0)∧Below w.heap.size w w':=by
 have HF:=Lib.hid (zjY l s va vc A w hv)
 have HN:=Lib.hid hn
 clear hv hn
 go_enter Tryz.func173,Tryz.ntmps173
 go_wp2_with fail
 refine HF.out.mono ?_
 rintro e w1 ⟨rfl,hb1⟩
 rw [HN.out]
 simp only [dclV,Option.isSome]
 have HB1:=Lib.hid hb1
 clear hb1 HF
 go_wp2
 go_ret
 exact ⟨rfl,zaa HB1.out⟩
theorem zms (p:Prc) (s:ByteArray) (g:Nat) (xa:Option Addr) (xc:Nat) (ya:Option Addr) (yc:Nat) (b:Bool) (w:World) (hg:w.heap[g]?=some (.cells #[.string s] 9 (0,0))) (hb:b=decide (p.name=s)):
 Calls Tryz.prog 129 #[.agg #[.string p.name,.slice xa p.params.length xc,.int .u8 p.body.kind,.int .i64 p.body.num,.string p.body.name,.slice ya p.body.kids.length yc],.pointer (some ⟨g,0,none⟩)] w fun e w'=>e=.returned (.bool b)∧Below w.heap.size w w':=by
 have hA:Below w.heap.size w (w.alloc (.cells #[.string p.name,.slice xa p.params.length xc,.int .u8 p.body.kind,.int .i64 p.body.num,.string p.body.name,.slice ya p.body.kids.length yc] 83)):=zaa (Below.refl _ _)
 have c0:=zae (zad hA hg) 0 rfl
 have HA:=Lib.hid hA
 have he:(p.name.toList == s.toList)=b:=by
  subst hb
  by_cases h:p.name=s
  · subst h;simp
  · rw [beq_eq_false_iff_ne.2 (fun e=>h (toList_inj e))];simp [h]
 clear hA hg hb
 go_enter Tryz.func129,Tryz.ntmps129
 go_wp2
 go_ret
 exact ⟨rfl,HA.out⟩
structure IdxP (l:List Prc) (s:ByteArray) (k:Nat):Prop where
 lt:k < l.length
 at_:(at' l k).name=s
 no:∀ j,j < k→(at' l j).name≠s
theorem indexP (l:List Prc) (s:ByteArray) (g k:Nat) (pa:Option Addr) (pc:Nat) (A:Nat→Prop) (w:World) (hv:RowsAt PrcE A w (.slice pa l.length pc) l) (hg:w.heap[g]?=some (.cells #[.string s] 9 (0,0))) (hk:IdxP l s k):
 Calls Tryz.prog 128 #[.slice pa l.length pc,.func (.func 129) #[] #[.pointer (some ⟨g,0,none⟩)]] w fun e w'=>e=.returned (.int .i64 k)∧Below w.heap.size w w':=by
 have hlen:=hv.form.1
 have HV:=Lib.hid hv
 have HG:=Lib.hid hg
 obtain ⟨k1,k2,k3⟩:=hk
 have HNO:=Lib.hid k3
 have HAT:=Lib.hid k2
 unfold maxLen at hlen
 clear hv hg k2 k3
 go_enter Tryz.func128,Tryz.ntmps128
 go_wp2
 go_loopw [8] (fun i wr=>∃ j:Nat,j≤k∧i=.int .i64 j∧Below w.heap.size w wr) (fun i _=>k+1 - (intOf i).toNat)
 case atStart=>exact ⟨0,Nat.zero_le _,rfl,Below.refl _ _⟩
 case round=>
  obtain ⟨j,hjk,rfl,hbl⟩:=hrel
  have HBL:=Lib.hid hbl
  have hlt:j < l.length:=by omega
  obtain ⟨b,off,qa,qc,ja,jc,he,hb,_,_,_,c0,c1,c2,c3,c4,c5,hr,hn,hsz⟩:=zdP (HV.out.stays (Stays.of_below hbl)) hlt
  subst he
  have i0:(0:Int)≤(j:Int):=by omega
  have i1:(j:Int) < (l.length:Int):=by omega
  have HC:=Lib.hid (zms (at' l j) s g qa qc ja jc (decide ((at' l j).name=s)) wr (zad hbl HG.out) rfl)
  clear hbl hr hn
  by_cases hj:j=k
  · subst hj
    have hd:decide ((at' l j).name=s)=true:=by simp [HAT.out]
    rw [hd] at HC
    go_wp2_with fail
    refine HC.out.mono ?_
    rintro e w1 ⟨rfl,hb1⟩
    have HB1:=Lib.hid (HBL.out.trans (hb1.mono HBL.out.size))
    clear hb1 HC
    go_wp2
    go_ret
    exact ⟨rfl,HB1.out⟩
  · have hd:decide ((at' l j).name=s)=false:=by simp [HNO.out j (by omega)]
    rw [hd] at HC
    go_wp2_with fail
    refine HC.out.mono ?_
    rintro e w1 ⟨rfl,hb1⟩
    have HB1:=Lib.hid (HBL.out.trans (hb1.mono HBL.out.size))
    clear hb1 HC
    go_wp2
    go_roundw
    case rel=>exact ⟨j+1,by omega,by go_num,HB1.out⟩
    case measure=>simp [intOf];omega
theorem zhH (p:Prg) (s:ByteArray) (k:Nat) (va:Option Addr) (vc:Nat) (pa:Option Addr) (pc:Nat) (ka:Option Addr) (kc:Nat) (A:Nat→Prop) (w:World) (hv:PrgAt A w va vc pa pc ka kc p) (hk:IdxP p.procs s k):
 Calls Tryz.prog 77 #[PrgV va vc pa pc ka kc p,.string s] w fun e w'=>e=.returned (.int .i64 k)∧Below w.heap.size w w':=by
 have hA:Below w.heap.size w ((w.alloc (.cells #[.slice va p.vars.length vc,.slice pa p.procs.length pc,.int .u8 p.main.kind,.int .i64 p.main.num,.string p.main.name,.slice ka p.main.kids.length kc] 37)).alloc (.cells #[.string s] 9)):=zaa (zaa (Below.refl _ _))
 have HI:=Lib.hid (indexP p.procs s (w.heap.size+1) k pa pc A _ (hv.hp.stays (Stays.of_below hA)) (zaw w _ _) hk)
 have HA:=Lib.hid hA
 have x1:=zae (zaI w (.cells #[.slice va p.vars.length vc,.slice pa p.procs.length pc,.int .u8 p.main.kind,.int .i64 p.main.num,.string p.main.name,.slice ka p.main.kids.length kc] 37) (.cells #[.string s] 9)) 1 rfl
 clear hA hv hk
 unfold PrgV
 go_enter Tryz.func77,Tryz.ntmps77
 go_wp2_with fail
 refine HI.out.mono ?_
 rintro e w1 ⟨rfl,hb1⟩
 have HB1:=Lib.hid (HA.out.trans (hb1.mono HA.out.size))
 clear hb1 HI x1
 go_wp2
 go_ret
 exact ⟨rfl,HB1.out⟩
end Go.Proofs.YtpobmoegmdhbpaaGreatDoor
