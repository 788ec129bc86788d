/- Contracts and plain lemmas (R43A, R43B, R43C, R43D, R43H, R43F): no statement of the seat is proved here. -/
import Derived.Test.YtjhimhlebbamoaaDoorZq19
import Derived.Test.YtjhimhlebbamoaaDoorZs3
import Derived.Test.YtjhimhlebbamoaaDoorZs1
/- The reference of layer 43:its call nodes in the heap;the state of a run. No function of the program is walked here. -/
set_option linter.unusedSimpArgs false
set_option linter.unusedVariables false
set_option linter.unusedSectionVars false
namespace Go.Proofs.YtjhimhlebbamoaaDoor
open Go.RowKit
theorem TNdr:RowT Tryd.prog 47 49 (.agg #[.int .i64 0,.int .i64 0,.slice none 0 0]) 3 40:=⟨Tryd.underlying47,by kernel_rfl⟩
theorem TVl43:RowT Tryd.prog 94 96 (.agg #[.bool false,.int .i64 0,.slice none 0 0]) 3 40:=⟨Tryd.underlying94,by kernel_rfl⟩
inductive NdsAt (lib:List Fn) (A:Nat→Prop) (w:World):Value→List Tr→Prop
 | mk (v:Value) (l:List Tr) (cs:Nat→Nat→Value) (h:RowAt A w 3 v l.length cs)
    (hf:∀ j,j < l.length→cs j 0=.int .i64 (at' l j).f∧cs j 1=.int .i64 (puN lib (at' l j)))
    (hk:∀ j,j < l.length→NdsAt lib A w (cs j 2) (at' l j).calls):NdsAt lib A w v l
theorem NdsAt.stays {lib:List Fn} {A A':Nat→Prop} {w w':World} (hs:Stays A A' w w') {v:Value} {l:List Tr} (h:NdsAt lib A w v l):NdsAt lib A' w' v l:=by
 induction h with
 | mk v l cs h hf hk ih=>exact .mk v l cs (h.stays hs) hf ih
theorem NdsAt.form {lib:List Fn} {A:Nat→Prop} {w:World} {v:Value} {l:List Tr} (h:NdsAt lib A w v l):l.length≤maxLen∧∃ a c,v=.slice a l.length c:=by
 cases h with
 | mk _ _ cs h hf hk=>exact ⟨h.1,h.form⟩
structure NdrC (lib:List Fn) (A:Nat→Prop) (w:World) (c:Nat→Value) (t:Tr):Prop where
 c0:c 0=.int .i64 t.f
 c1:c 1=.int .i64 (puN lib t)
 c2:NdsAt lib A w (c 2) t.calls
theorem NdrC.stays {lib:List Fn} {A A':Nat→Prop} {w w':World} (hs:Stays A A' w w') {c:Nat→Value} {t:Tr} (h:NdrC lib A w c t):NdrC lib A' w' c t:=⟨h.c0,h.c1,h.c2.stays hs⟩
theorem NdrC.congr {lib:List Fn} {A:Nat→Prop} {w:World} {c d:Nat→Value} {t:Tr} (h:NdrC lib A w c t) (e:∀ i,i < 3→d i=c i):NdrC lib A w d t:=
 ⟨(e 0 (by omega)).trans h.c0,(e 1 (by omega)).trans h.c1,by rw [e 2 (by omega)];exact h.c2⟩
def NdrE (lib:List Fn):Elem Tr where
 size:=3
 C:=NdrC lib
 stays:=fun hs _ _ h=>h.stays hs
 congr:=fun h e=>h.congr e
 one:=fun h i hi=>by
  obtain ⟨_,a,c,e2⟩:=h.c2.form
  match i,hi with
  | 0,_=>rw [h.c0];rfl
  | 1,_=>rw [h.c1];rfl
  | 2,_=>rw [e2];rfl
theorem nds_rows {lib:List Fn} {A:Nat→Prop} {w:World} {v:Value} {l:List Tr}:NdsAt lib A w v l ↔ RowsAt (NdrE lib) A w v l:=by
 constructor
 · intro h
   cases h with
   | mk _ _ cs h hf hk=>exact ⟨cs,h,fun j hj=>by obtain ⟨e0,e1⟩:=hf j hj;exact ⟨e0,e1,hk j hj⟩⟩
 · rintro ⟨cs,h,hf⟩
   exact .mk v l cs h (fun j hj=>⟨(hf j hj).c0,(hf j hj).c1⟩) (fun j hj=>(hf j hj).c2)
def NdrAt (lib:List Fn) (A:Nat→Prop) (w:World) (v:Value) (t:Tr):Prop:=∃ a c,v=.agg #[.int .i64 t.f,.int .i64 (puN lib t),.slice a t.calls.length c]∧NdsAt lib A w (.slice a t.calls.length c) t.calls
theorem NdrAt.stays {lib:List Fn} {A A':Nat→Prop} {w w':World} (hs:Stays A A' w w') {v:Value} {t:Tr} (h:NdrAt lib A w v t):NdrAt lib A' w' v t:=by
 obtain ⟨a,c,rfl,h⟩:=h;exact ⟨a,c,rfl,h.stays hs⟩
theorem NdrAt.cells {lib:List Fn} {A:Nat→Prop} {w:World} {a0:Option Addr} {n0 c0:Nat} {x y:Int} {t:Tr} (h:NdrAt lib A w (.agg #[.int .i64 x,.int .i64 y,.slice a0 n0 c0]) t):NdrC lib A w (fun i=>(#[.int .i64 x,.int .i64 y,.slice a0 n0 c0]:Array Value).getD i undef) t:=by
 obtain ⟨a,c,e,h⟩:=h
 simp only [Value.agg.injEq,Array.mk.injEq,List.cons.injEq,Value.int.injEq,Value.slice.injEq,true_and,and_true] at e
 obtain ⟨rfl,rfl,rfl,rfl,rfl⟩:=e
 exact ⟨rfl,rfl,h⟩
structure RC where
 lib:List Fn
 R:Nat
 M:Nat
 N:Nat
 la:Option Addr
 lc:Nat
 f:Int
 ts:List Par
def MuR (C:RC) (rv:Value) (k:Nat):Prop:=k=C.R∨k=C.M∨k=C.N∨rv.ownBlock=some k
def MapV (A:Nat→Prop) (w:World) (M:Nat) (ts:List Par) (vals:VEnv) (K:Nat):Prop:=∃ m:ByteArray→Option Value,SMapLe Tryd.prog 9 w M m K∧(∀ s,(∀ v,m s=some v→∃ u,VlAt A w v u∧cleanV u=cleanV (vals s))∧(m s=none→vals s=noVl))∧
 ∀ j,j < ts.length→∀ v,m (tname j)=some v→(vals (tname j)).list=(at' ts j).list
theorem MapV.stays {A A':Nat→Prop} {w w':World} {M K:Nat} {ts:List Par} {vals:VEnv} (h:MapV A w M ts vals K) (hs:Stays A A' w w') (hm:w'.heap[M]?=w.heap[M]?):MapV A' w' M ts vals K:=by
 obtain ⟨m,h1,h2,h3⟩:=h
 exact ⟨m,h1.same hm,fun s=>⟨fun v e=>by obtain ⟨u,a,b⟩:=(h2 s).1 v e;exact ⟨u,a.stays hs,b⟩,(h2 s).2⟩,h3⟩
theorem MapV.lt {A:Nat→Prop} {w:World} {M K:Nat} {ts:List Par} {vals:VEnv} (h:MapV A w M ts vals K):M < w.heap.size:=by
 obtain ⟨m,h1,_⟩:=h;exact h1.lt
structure RSt (C:RC) (A:Nat→Prop) (w:World) (rv:Value) (left:Int) (vals:VEnv) (ns:List Tr) (K:Nat):Prop where
 rb:w.heap[C.R]?=some (.cells #[.slice C.la C.lib.length C.lc,.int .i64 left] 93 (0,0))
 nb:w.heap[C.N]?=some (.cells #[.int .i64 C.f,.int .i64 0,rv] 49 (0,0))
 row:RowsOwn (NdrE C.lib) 49 A 0 w rv ns
 lib:AFnsAt A w (.slice C.la C.lib.length C.lc) (normL C.lib)
 mp:MapV A w C.M C.ts vals K
 alt:∀ k,A k→k < w.heap.size
 mutA:∀ k,MuR C rv k→¬ A k
 dRM:C.R≠C.M
 dRN:C.R≠C.N
 dMN:C.M≠C.N
 rR:rv.ownBlock≠some C.R
 rM:rv.ownBlock≠some C.M
 rN:rv.ownBlock≠some C.N
theorem RSt.rlt {C:RC} {A:Nat→Prop} {w:World} {rv:Value} {left:Int} {vals:VEnv} {ns:List Tr} {K:Nat} (h:RSt C A w rv left vals ns K):C.R < w.heap.size:=by
 have h:=h.rb;rw [Array.getElem?_eq_some_iff] at h;exact h.1
theorem RSt.nlt {C:RC} {A:Nat→Prop} {w:World} {rv:Value} {left:Int} {vals:VEnv} {ns:List Tr} {K:Nat} (h:RSt C A w rv left vals ns K):C.N < w.heap.size:=by
 have h:=h.nb;rw [Array.getElem?_eq_some_iff] at h;exact h.1
theorem RSt.mlt {C:RC} {A:Nat→Prop} {w:World} {rv:Value} {left:Int} {vals:VEnv} {ns:List Tr} {K:Nat} (h:RSt C A w rv left vals ns K) {k:Nat} (m:MuR C rv k):k < w.heap.size:=by
 rcases m with rfl|rfl|rfl|e
 · exact h.rlt
 · exact h.mp.lt
 · exact h.nlt
 · exact (h.row.lt e).2
theorem RSt.keeps {C:RC} {A:Nat→Prop} {w w':World} {rv:Value} {left:Int} {vals:VEnv} {ns:List Tr} {K:Nat} {S:Nat→Prop} (h:RSt C A w rv left vals ns K) (hk:Keeps w w' S) (hA:∀ k,A k→¬ S k) (hM:∀ k,MuR C rv k→¬ S k):RSt C A w' rv left vals ns K:=
 { h with
   rb:=(hk.block _ h.rlt (hM _ (.inl rfl))).trans h.rb
   nb:=(hk.block _ h.nlt (hM _ (.inr (.inr (.inl rfl))))).trans h.nb
   row:=h.row.keeps hk (fun k e=>hM k (.inr (.inr (.inr e)))) (fun k _ a=>hA k a)
   lib:=h.lib.stays (hk.stays fun k a _=>hA k a)
   mp:=h.mp.stays (hk.stays fun k a _=>hA k a) (hk.block _ h.mp.lt (hM _ (.inr (.inl rfl))))
   alt:=fun k a=>Nat.lt_of_lt_of_le (h.alt k a) hk.size }
theorem RSt.below {C:RC} {A:Nat→Prop} {w w':World} {rv:Value} {left:Int} {vals:VEnv} {ns:List Tr} {K:Nat} (h:RSt C A w rv left vals ns K) (hb:Below w.heap.size w w'):RSt C A w' rv left vals ns K:=
 h.keeps (Keeps.of_below (fun _=>False) hb) (fun _ _ e=>e) (fun _ _ e=>e)
theorem RSt.more {C:RC} {A A':Nat→Prop} {w:World} {rv:Value} {left:Int} {vals:VEnv} {ns:List Tr} {K:Nat} (h:RSt C A w rv left vals ns K) (h1:∀ k,A k→A' k) (h2:∀ k,A' k→A k∨k < w.heap.size∧¬ MuR C rv k):RSt C A' w rv left vals ns K:=
 have hst:Stays A A' w w:=⟨Nat.le_refl _,fun b _ a=>⟨rfl,h1 b a⟩⟩
 { h with
   row:=h.row.mono h1
   lib:=h.lib.stays hst
   mp:=h.mp.stays hst rfl
   alt:=fun k a=>by
    rcases h2 k a with a|a
    · exact h.alt k a
    · exact a.1
   mutA:=fun k m a=>by
    rcases h2 k a with a|a
    · exact h.mutA k m a
    · exact a.2 m }
theorem RSt.take {C:RC} {A:Nat→Prop} {w:World} {rv:Value} {left:Int} {vals:VEnv} {ns:List Tr} {K:Nat} (h:RSt C A w rv left vals ns K) (f:Int):RSt C A (w.setCell ⟨C.R,1,none⟩ (.int .i64 f)) rv f vals ns K:=by
 have hk:=keeps_set w C.R 1 (.int .i64 f)
 have hA:∀ k,A k→¬ k=C.R:=fun k a e=>h.mutA k (.inl e) a
 have he:=heap_setCell_same w C.R 1 _ _ (.int .i64 f) h.rb
 exact { h with
  rb:=by simpa only [List.setIfInBounds_toArray,List.set_cons_zero,List.set_cons_succ] using he
  nb:=(hk.block _ h.nlt (fun e=>h.dRN e.symm)).trans h.nb
  row:=h.row.keeps hk (fun k e e2=>h.rR (e2 ▸ e)) (fun k _ a=>hA k a)
  lib:=h.lib.stays (hk.stays fun k a _=>hA k a)
  mp:=h.mp.stays (hk.stays fun k a _=>hA k a) (hk.block _ h.mp.lt (fun e=>h.dRM e.symm))
  alt:=fun k a=>Nat.lt_of_lt_of_le (h.alt k a) hk.size }
structure RStep (C:RC) (A:Nat→Prop) (w:World) (rv:Value) (A':Nat→Prop) (w':World) (rv':Value):Prop where
 keeps:Keeps w w' (MuR C rv)
 up:∀ k,A k→A' k
 new:∀ k,A' k→A k∨w.heap.size≤k
 nrv:NewOr w rv rv'
theorem RStep.refl (C:RC) (A:Nat→Prop) (w:World) (rv:Value):RStep C A w rv A w rv:=⟨Keeps.refl _ _,fun _ a=>a,fun _ a=>.inl a,NewOr.refl _ _⟩
theorem MuR.new {C:RC} {k:Nat} {w:World} {rv rv':Value} (h:MuR C rv' k) (h1:NewOr w rv rv'):MuR C rv k∨w.heap.size≤k:=by
 rcases h with h|h|h|h
 · exact .inl (.inl h)
 · exact .inl (.inr (.inl h))
 · exact .inl (.inr (.inr (.inl h)))
 · rcases h1 k h with h|h
   · exact .inl (.inr (.inr (.inr h)))
   · exact .inr h
theorem RStep.trans {C:RC} {A A1 A2:Nat→Prop} {w w1 w2:World} {rv rv1 rv2:Value} (h:RStep C A w rv A1 w1 rv1) (k:RStep C A1 w1 rv1 A2 w2 rv2):RStep C A w rv A2 w2 rv2:=by
 have hz:=h.keeps.size
 refine ⟨⟨k.keeps.os.trans h.keeps.os,k.keeps.tape.trans h.keeps.tape,k.keeps.output.trans h.keeps.output,Nat.le_trans hz k.keeps.size,fun b hb m=>?_⟩,fun b a=>k.up b (h.up b a),fun b a=>?_,fun b e=>?_⟩
 · refine (k.keeps.block b (by omega) (fun m2=>?_)).trans (h.keeps.block b hb m)
   rcases m2.new h.nrv with m3|m3
   · exact m m3
   · omega
 · rcases k.new b a with a|a
   · exact h.new b a
   · exact .inr (by omega)
 · rcases k.nrv b e with e|e
   · exact h.nrv b e
   · exact .inr (by omega)
theorem RStep.below {C:RC} {A:Nat→Prop} {w w':World} {rv:Value} (hb:Below w.heap.size w w'):RStep C A w rv A w' rv:=⟨Keeps.of_below _ hb,fun _ a=>a,fun _ a=>.inl a,NewOr.refl _ _⟩
theorem RStep.young {C:RC} {A A':Nat→Prop} {w w1 w2:World} {rv rv':Value} {S:Nat→Prop} (h:RStep C A w rv A' w1 rv') (hk:Keeps w1 w2 S) (hS:∀ k,S k→w.heap.size≤k):RStep C A w rv A' w2 rv':=
 ⟨⟨hk.os.trans h.keeps.os,hk.tape.trans h.keeps.tape,hk.output.trans h.keeps.output,Nat.le_trans h.keeps.size hk.size,fun b hb m=>(hk.block b (Nat.lt_of_lt_of_le hb h.keeps.size) (fun e=>by have:=hS b e;omega)).trans (h.keeps.block b hb m)⟩,h.up,h.new,h.nrv⟩
theorem RStep.stays {C:RC} {A A':Nat→Prop} {w w':World} {rv rv':Value} (h:RStep C A w rv A' w' rv') (hA:∀ k,A k→¬ MuR C rv k):Stays A A' w w':=⟨h.keeps.size,fun b hb a=>⟨h.keeps.block b hb (hA b a),h.up b a⟩⟩
end Go.Proofs.YtjhimhlebbamoaaDoor
/- The state of a run of the reference of layer 43,step by step. No function of the program is walked here. -/
namespace Go.Proofs.YtjhimhlebbamoaaDoor
open Go.RowKit
theorem MV43:SmapT Tryd.prog 137 9 96 (.agg #[.bool false,.int .i64 0,.slice none 0 0]):=⟨Tryd.underlying137,Tryd.underlying9,fun _=>by kernel_rfl⟩
mutual
theorem cexecB_used (ap:Ap) (lib:List Fn):∀ (b:Bd) (vals:VEnv) (calls:List Tr) (v:VEnv) (r:List Tr) (c:Int),cexecB ap lib b vals calls=some (v,r,c)→1≤c∧∃ used,calls=used ++ r
 | .mk tn list op num name args thn els,vals,calls,v,r,c,h=>by
   rw [cexecB_eq] at h
   split at h
   · by_cases h83:op=83
     · rw [if_pos h83] at h
       split at h
       · cases hx:cexecBs ap lib thn vals calls with
         | none=>rw [hx] at h;cases h
         | some x=>
           obtain ⟨x1,x2,x3⟩:=x
           rw [hx] at h
           simp only [Option.map_some,Option.some.injEq,Prod.mk.injEq] at h
           obtain ⟨h1,u,h2⟩:=cexecBs_used ap lib thn _ _ _ _ _ hx
           exact ⟨by omega,u,by rw [h2,h.2.1]⟩
       · cases hx:cexecBs ap lib els vals calls with
         | none=>rw [hx] at h;cases h
         | some x=>
           obtain ⟨x1,x2,x3⟩:=x
           rw [hx] at h
           simp only [Option.map_some,Option.some.injEq,Prod.mk.injEq] at h
           obtain ⟨h1,u,h2⟩:=cexecBs_used ap lib els _ _ _ _ _ hx
           exact ⟨by omega,u,by rw [h2,h.2.1]⟩
     · rw [if_neg h83] at h
       by_cases h85:op=85
       · rw [if_pos h85] at h
         cases calls with
         | nil=>cases h
         | cons t cr=>
           simp only at h
           split at h
           · simp only [Option.some.injEq,Prod.mk.injEq] at h
             exact ⟨by omega,[t],by rw [← h.2.1];rfl⟩
           · cases h
       · rw [if_neg h85] at h
         cases hx:resultB ap op num list args vals with
         | none=>rw [hx] at h;cases h
         | some x=>
           rw [hx] at h
           simp only [Option.map_some,Option.some.injEq,Prod.mk.injEq] at h
           exact ⟨by omega,[],by rw [← h.2.1];rfl⟩
   · cases h
theorem cexecBs_used (ap:Ap) (lib:List Fn):∀ (l:List Bd) (vals:VEnv) (calls:List Tr) (v:VEnv) (r:List Tr) (c:Int),cexecBs ap lib l vals calls=some (v,r,c)→0≤c∧∃ used,calls=used ++ r
 | [],vals,calls,v,r,c,h=>by
   rw [cexecBs] at h
   simp only [Option.some.injEq,Prod.mk.injEq] at h
   exact ⟨by omega,[],by rw [h.2.1];rfl⟩
 | b :: l,vals,calls,v,r,c,h=>by
   rw [cexecBs] at h
   cases hb:cexecB ap lib b vals calls with
   | none=>rw [hb] at h;cases h
   | some x=>
     obtain ⟨x1,x2,x3⟩:=x
     rw [hb] at h
     simp only [Option.bind_some] at h
     obtain ⟨c1,u1,e1⟩:=cexecB_used ap lib b _ _ _ _ _ hb
     cases hl:cexecBs ap lib l x1 x2 with
     | none=>rw [hl] at h;cases h
     | some y=>
       obtain ⟨y1,y2,y3⟩:=y
       rw [hl] at h
       simp only [Option.map_some,Option.some.injEq,Prod.mk.injEq] at h
       obtain ⟨c2,u2,e2⟩:=cexecBs_used ap lib l _ _ _ _ _ hl
       exact ⟨by omega,u1 ++ u2,by rw [e1,e2,h.2.1,List.append_assoc]⟩
end
mutual
theorem costT_nonneg (ap:Ap) (lib:List Fn):∀ t:Tr,0≤costT ap lib t
 | .mk f args res calls=>by
   have h:=costTs_nonneg ap lib calls
   rw [costT]
   cases hx:cexecBs ap lib (normF lib (fnAt lib f)).body (bindPars (fnAt lib f).params args) calls with
   | none=>simp;exact h
   | some x=>
     obtain ⟨x1,x2,x3⟩:=x
     have:=(cexecBs_used ap lib _ _ _ _ _ _ hx).1
     simp only [Option.map_some,Option.getD_some]
     omega
theorem costTs_nonneg (ap:Ap) (lib:List Fn):∀ l:List Tr,0≤costTs ap lib l
 | []=>by rw [costTs];omega
 | t :: r=>by
   have h1:=costT_nonneg ap lib t
   have h2:=costTs_nonneg ap lib r
   rw [costTs];omega
end
theorem cexec_cons {ap:Ap} {lib:List Fn} {b:Bd} {l:List Bd} {vals v:VEnv} {calls r:List Tr} {c:Int} (h:cexecBs ap lib (b :: l) vals calls=some (v,r,c)):
 ∃ v1 r1 c1 c2,cexecB ap lib b vals calls=some (v1,r1,c1)∧cexecBs ap lib l v1 r1=some (v,r,c2)∧c=c1+c2:=by
 rw [cexecBs] at h
 cases hb:cexecB ap lib b vals calls with
 | none=>rw [hb] at h;cases h
 | some x=>
   obtain ⟨x1,x2,x3⟩:=x
   rw [hb] at h
   simp only [Option.bind_some] at h
   cases hl:cexecBs ap lib l x1 x2 with
   | none=>rw [hl] at h;cases h
   | some y=>
     obtain ⟨y1,y2,y3⟩:=y
     rw [hl] at h
     simp only [Option.map_some,Option.some.injEq,Prod.mk.injEq] at h
     obtain ⟨rfl,rfl,rfl⟩:=h
     exact ⟨x1,x2,x3,y3,rfl,hl,rfl⟩
theorem MapV.temp {A:Nat→Prop} {w:World} {M:Nat} {ts:List Par} {vals:VEnv} {K:Nat} (h:MapV A w M ts vals K) {j:Nat} (hj:j < ts.length) (hn:(at' ts j).name=tname j) (hs:(tname j).size≤maxLen):
 ∃ v u,(Instr.lookup 137 (.map (some M)) (.string (at' ts j).name) false).run Tryd.prog w=.ok v w∧VlAt A w v u∧((at' ts j).list=true→u.l.length=(vals (at' ts j).name).l.length):=by
 obtain ⟨m,h1,h2,h3⟩:=h
 rw [hn]
 have hf:=h1.find MV43 hs false
 simp only [Bool.false_eq_true,if_false] at hf
 cases e:m (tname j) with
 | none=>
   rw [e] at hf
   exact ⟨_,noVl,hf,vl_no w,fun _=>by rw [(h2 _).2 e]⟩
 | some v=>
   rw [e] at hf
   obtain ⟨u,a,b⟩:=(h2 _).1 v e
   refine ⟨v,u,hf,a,fun hl=>?_⟩
   have h4:=h3 j hj v e
   rw [hl] at h4
   have h5:u.list=true:=by
    have:=congrArg Vl.list b
    rw [clean_list,clean_list,h4] at this
    exact this
   have h6:=congrArg Vl.l b
   simp only [cleanV,h4,h5,if_true] at h6
   rw [h6]
theorem MapV.find {A:Nat→Prop} {w:World} {M:Nat} {ts:List Par} {vals:VEnv} {K:Nat} (h:MapV A w M ts vals K) {s:ByteArray} (hs:s.size≤maxLen):
 ∃ v u,(Instr.lookup 137 (.map (some M)) (.string s) false).run Tryd.prog w=.ok v w∧VlAt A w v u∧cleanV u=cleanV (vals s):=by
 obtain ⟨m,h1,h2,h3⟩:=h
 have hf:=h1.find MV43 hs false
 simp only [Bool.false_eq_true,if_false] at hf
 cases e:m s with
 | none=>
   rw [e] at hf
   exact ⟨_,noVl,hf,vl_no w,by rw [(h2 s).2 e]⟩
 | some v=>
   rw [e] at hf
   obtain ⟨u,a,b⟩:=(h2 s).1 v e
   exact ⟨v,u,hf,a,b⟩
theorem RSt.store {C:RC} {A:Nat→Prop} {w:World} {rv:Value} {left:Int} {vals:VEnv} {ns:List Tr} {K:Nat} (h:RSt C A w rv left vals ns K) {s:ByteArray} (hs:s.size≤maxLen) (hK:K < maxLen) {v:Value} {u x:Vl} (hv:VlAt A w v u) (hu:cleanV u=cleanV x) (hty:∀ j,j < C.ts.length→s=tname j→x.list=(at' C.ts j).list):
 ∃ w',(Instr.mapUpdate 137 (.map (some C.M)) (.string s) v).run Tryd.prog w=.ok () w'∧RSt C A w' rv left (vals.put s x) ns (K+1)∧RStep C A w rv A w' rv:=by
 obtain ⟨m,h1,h2,h4⟩:=h.mp
 obtain ⟨w',hr,h3,hg⟩:=h1.store MV43 hs v hK
 have hk:Keeps w w' (fun k=>k=C.M):=Keeps.of_grown hg (fun k e=>.inl (by simpa using e.symm))
 have hA:∀ k,A k→¬ k=C.M:=fun k a e=>h.mutA k (.inr (.inl e)) a
 have hst:Stays A A w w':=hk.stays fun k a _=>hA k a
 refine ⟨w',hr,{ h with
  rb:=(hk.block _ h.rlt h.dRM).trans h.rb
  nb:=(hk.block _ h.nlt (fun e=>h.dMN e.symm)).trans h.nb
  row:=h.row.keeps hk (fun k e e2=>h.rM (e2 ▸ e)) (fun k _ a=>hA k a)
  lib:=h.lib.stays hst
  mp:=⟨_,h3,fun y=>?_,fun j hj v' hv'=>?_⟩
  alt:=fun k a=>Nat.lt_of_lt_of_le (h.alt k a) hk.size },⟨hk.mono (fun k e=>.inr (.inl e)),fun _ a=>a,fun _ a=>.inl a,NewOr.refl _ _⟩⟩
 · by_cases e:y=s
   · simp only [if_pos e,VEnv.put]
     exact ⟨fun v' hv'=>by obtain rfl:v=v':=by simpa using hv'
                           exact ⟨u,hv.stays hst,hu⟩,fun hn=>by cases hn⟩
   · simp only [if_neg e,VEnv.put]
     exact ⟨fun v' hv'=>by obtain ⟨u',a,b⟩:=(h2 y).1 v' hv';exact ⟨u',a.stays hst,b⟩,(h2 y).2⟩
 · by_cases e:tname j=s
   · simp only [VEnv.put,if_pos e]
     exact hty j hj e.symm
   · simp only [VEnv.put,if_neg e]
     simp only [if_neg e] at hv'
     exact h4 j hj v' hv'
theorem RSt.called {C:RC} {A:Nat→Prop} {w w':World} {rv:Value} {left left':Int} {vals:VEnv} {ns:List Tr} {K:Nat} (h:RSt C A w rv left vals ns K) (hk:Keeps w w' (fun k=>k=C.R)) (hr:w'.heap[C.R]?=some (.cells #[.slice C.la C.lib.length C.lc,.int .i64 left'] 93 (0,0))):
 RSt C (fun k=>A k∨w.heap.size≤k∧k < w'.heap.size) w' rv left' vals ns K∧RStep C A w rv (fun k=>A k∨w.heap.size≤k∧k < w'.heap.size) w' rv:=by
 have hA:∀ k,A k→¬ k=C.R:=fun k a e=>h.mutA k (.inl e) a
 have hst:Stays A (fun k=>A k∨w.heap.size≤k∧k < w'.heap.size) w w':=⟨hk.size,fun k hlt a=>⟨hk.block k hlt (hA k a),.inl a⟩⟩
 refine ⟨{ h with
  rb:=hr
  nb:=(hk.block _ h.nlt (fun e=>h.dRN e.symm)).trans h.nb
  row:=(h.row.keeps hk (fun k e e2=>h.rR (e2 ▸ e)) (fun k _ a=>hA k a)).mono (fun k a=>.inl a)
  lib:=h.lib.stays hst
  mp:=h.mp.stays hst (hk.block _ h.mp.lt (fun e=>h.dRM e.symm))
  alt:=fun k a=>by
   rcases a with a|a
   · exact Nat.lt_of_lt_of_le (h.alt k a) hk.size
   · exact a.2
  mutA:=fun k m a=>by
   rcases a with a|a
   · exact h.mutA k m a
   · have:=h.mlt m;omega },⟨hk.mono (fun k e=>.inl e),fun _ a=>.inl a,fun k a=>?_,NewOr.refl _ _⟩⟩
 rcases a with a|a
 · exact .inl a
 · exact .inr a.1
end Go.Proofs.YtjhimhlebbamoaaDoor
/- A row of nodes grows by one whole node;the state of a run behind it. No function of the program is walked here. -/
namespace Go.Proofs.YtjhimhlebbamoaaDoor
open Go.RowKit
theorem vat_set3 (xs:List Value) (j:Nat) (c0 c1 c2:Value) (h:j * 3+2 < xs.length) (i k:Nat) (hk:k < 3):
 vat (((xs.set (j * 3) c0).set (j * 3+1) c1).set (j * 3+2) c2) (i * 3+k)=if i=j then vat [c0,c1,c2] k else vat xs (i * 3+k):=by
 simp only [vat,List.getD_eq_getElem?_getD,List.getElem?_set,List.length_set]
 by_cases e:i=j
 · subst e
   rw [if_pos rfl]
   match k,hk with
   | 0,_=>simp [show i * 3 < xs.length by omega]
   | 1,_=>simp [show i * 3+1 < xs.length by omega]
   | 2,_=>simp [show i * 3+2 < xs.length by omega]
 · rw [if_neg e,if_neg (by omega),if_neg (by omega),if_neg (by omega)]
theorem push_finR {C:RC} {A:Nat→Prop} {w w4:World} {rv rv':Value} {left:Int} {vals:VEnv} {ns:List Tr} {K:Nat} {t:Tr} (h:RSt C A w rv left vals ns K) (hk:Keeps w w4 (fun k=>rv.ownBlock=some k∨rv'.ownBlock=some k∨k=C.N)) (hn:NewOr w rv rv') (hown:RowsOwn (NdrE C.lib) 49 A 0 w4 rv' (ns ++ [t])) (hcb:w4.heap[C.N]?=some (.cells #[.int .i64 C.f,.int .i64 0,rv'] 49 (0,0))):
 RSt C A w4 rv' left vals (ns ++ [t]) K∧RStep C A w rv A w4 rv':=by
 have hx:∀ k,k < w.heap.size→rv'.ownBlock=some k→rv.ownBlock=some k:=fun k hk e=>by
  rcases hn k e with e|e
  · exact e
  · omega
 have hA:∀ k,A k→¬ (rv.ownBlock=some k∨rv'.ownBlock=some k∨k=C.N):=fun k a e=>by
  rcases e with e|e|e
  · exact h.mutA k (.inr (.inr (.inr e))) a
  · exact h.mutA k (.inr (.inr (.inr (hx k (h.alt k a) e)))) a
  · exact h.mutA k (.inr (.inr (.inl e))) a
 have hst:Stays A A w w4:=hk.stays fun k a _=>hA k a
 refine ⟨{ h with
  rb:=(hk.block _ h.rlt (fun e=>?_)).trans h.rb
  nb:=hcb
  row:=hown
  lib:=h.lib.stays hst
  mp:=h.mp.stays hst (hk.block _ h.mp.lt (fun e=>?_))
  alt:=fun k a=>Nat.lt_of_lt_of_le (h.alt k a) hk.size
  mutA:=fun k m a=>?_
  rR:=fun e=>h.rR (hx _ h.rlt e)
  rM:=fun e=>h.rM (hx _ h.mp.lt e)
  rN:=fun e=>h.rN (hx _ h.nlt e) },⟨⟨hk.os,hk.tape,hk.output,hk.size,fun b hb m=>hk.block b hb (fun e=>?_)⟩,fun _ a=>a,fun _ a=>.inl a,hn⟩⟩
 · rcases e with e|e|e
   · exact h.rR e
   · exact h.rR (hx _ h.rlt e)
   · exact h.dRN e
 · rcases e with e|e|e
   · exact h.rM e
   · exact h.rM (hx _ h.mp.lt e)
   · exact h.dMN e
 · rcases m with e|e|e|e
   · exact h.mutA k (.inl e) a
   · exact h.mutA k (.inr (.inl e)) a
   · exact h.mutA k (.inr (.inr (.inl e))) a
   · exact hA k a (.inr (.inl e))
 · rcases e with e|e|e
   · exact m (.inr (.inr (.inr e)))
   · exact m (.inr (.inr (.inr (hx b hb e))))
   · exact m (.inr (.inr (.inl e)))
end Go.Proofs.YtjhimhlebbamoaaDoor
/- The reference of layer 43:the index of a function;what a call and a list of binds do (the contracts);a round of the loop over binds,in plain words. -/
namespace Go.Proofs.YtjhimhlebbamoaaDoor
open Go.RowKit
theorem find43_any (v:Value) (lib:List Fn) (name:ByteArray) (A:Nat→Prop) (w:World) (hv:AFnsAt A w v (normL lib)):
 Calls Tryd.prog 38 #[v,.string name] w fun e w'=>e=.returned (.int .i64 (findF lib name))∧Below w.heap.size w w':=by
 obtain ⟨hlen,a,cap,rfl⟩:=hv.form
 have hnl:(normL lib).length=lib.length:=by simp [normL]
 rw [hnl] at hlen hv ⊢
 unfold maxLen at hlen
 go_enter Tryd.func38,Tryd.ntmps38
 go_wp2
 go_loopw [5] (fun i wr=>∃ k:Nat,k≤lib.length∧i=.int .i64 k∧(∀ j,j < k→(at' lib j).name≠name)∧Below w.heap.size w wr) (fun i _=>lib.length - (intOf i).toNat)
 case atStart=>exact ⟨0,Nat.zero_le _,rfl,fun j hj=>absurd hj (by omega),Below.refl _ _⟩
 case round=>
  obtain ⟨k,hk,rfl,hno,hbl⟩:=hrel
  have HN:=Lib.hid hno
  clear hno
  have hz:=hbl.size
  by_cases hlt:k < lib.length
  · obtain ⟨b,off,cap',pa,pc,ta,tc,ba,bc,he,hc⟩:=afn_at (hv.stays (Stays.of_below hbl)) (by rw [hnl];exact hlt)
    rw [hnl] at he
    simp only [Value.slice.injEq] at he
    obtain ⟨rfl,-,rfl⟩:=he
    have d0:=hc.2.2.1
    rw [show at' (normL lib) k=normF lib (at' lib k) from at_map _ hlt] at d0
    have c0:wr.cell? ⟨b,off+k * 6,none⟩=some (.string (at' lib k).name):=d0
    clear hc d0
    by_cases heq:(at' lib k).name=name
    · have HF:=Lib.hid (show findF lib name=k from by rw [findF,find_step name lib k 0 hlt (fun j hj=>HN.out j hj) heq];omega)
      have he:((at' lib k).name.toList == name.toList)=true:=by rw [heq];simp
      clear heq
      go_wp2
      go_ret
      rw [HF.out]
      exact ⟨rfl,hbl⟩
    · have he:((at' lib k).name.toList == name.toList)=false:=beq_eq_false_iff_ne.2 (fun h=>heq (toList_inj h))
      have HQ:=Lib.hid heq
      clear heq
      go_wp2
      go_roundw
      case rel=>exact ⟨k+1,by omega,by go_num,fun j hj=>(by
       by_cases e:j=k
       · rw [e];exact HQ.out
       · exact HN.out j (by omega)),hbl⟩
      case measure=>simp [intOf];omega
  · go_wp2
    go_ret
    rw [show findF lib name= -1 from find_none name lib 0 (fun j hj=>HN.out j (by omega))]
    exact ⟨rfl,hbl⟩
structure Sm (K:Nat) (left:Int) (ns:List Tr) (vals:VEnv):Prop where
 k:(K:Int)+left≤200000
 n:(ns.length:Int)+left≤200000
 l0:0≤left
 len:∀ s,(vals s).l.length≤1000+K
structure CIn (lib:List Fn) (R:Nat) (la:Option Addr) (lc:Nat) (A:Nat→Prop) (w:World) (av:Value) (us:List Vl) (t:Tr) (left:Int):Prop where
 rb:w.heap[R]?=some (.cells #[.slice la lib.length lc,.int .i64 left] 93 (0,0))
 lb:AFnsAt A w (.slice la lib.length lc) (normL lib)
 args:RowsAt VlE A w av us
 ap:∀ k,A k→k < w.heap.size∧k≠R
 tr:TrR apI lib t
 len:TrLen t
 us:us.map cleanV=t.args
 need:costT apI lib t≤left
 le:left≤100000
def CPost43 (lib:List Fn) (R:Nat) (la:Option Addr) (lc:Nat) (A:Nat→Prop) (w:World) (t:Tr) (left:Int) (e:Ending) (w':World):Prop:=
 ∃ vv nv u left',e=.returned (.tuple #[vv,nv,.bool true])∧VlAt (fun k=>A k∨w.heap.size≤k∧k < w'.heap.size) w' vv u∧cleanV u=t.res∧NdrAt lib (fun k=>A k∨w.heap.size≤k∧k < w'.heap.size) w' nv t∧Keeps w w' (fun k=>k=R)∧
   w'.heap[R]?=some (.cells #[.slice la lib.length lc,.int .i64 left'] 93 (0,0))∧left - costT apI lib t≤left'∧left'≤left
def XC43 (lib:List Fn) (m:Nat):Prop:=∀ (R:Nat) (la:Option Addr) (lc:Nat) (A:Nat→Prop) (w:World) (av:Value) (us:List Vl) (t:Tr) (left:Int),costT apI lib t≤m→CIn lib R la lc A w av us t left→
 Calls Tryd.prog 37 #[.pointer (some ⟨R,0,none⟩),.int .i64 t.f,av] w (CPost43 lib R la lc A w t left)
def need43 (lib:List Fn) (c:Int) (calls rest:List Tr):Int:=c+costTs apI lib calls - costTs apI lib rest
def BPost43 (C:RC) (A:Nat→Prop) (w:World) (rv:Value) (left:Int) (vals':VEnv) (all rest:List Tr) (lo:Int) (e:Ending) (w':World):Prop:=
 e=.returned (.bool true)∧∃ A' rv' left' ns' K',RSt C A' w' rv' left' vals' ns' K'∧RStep C A w rv A' w' rv'∧ns' ++ rest=all∧lo≤left'∧left'≤left∧Sm K' left' ns' vals'
def XB43 (lib:List Fn) (m:Nat):Prop:=∀ (C:RC) (A:Nat→Prop) (w:World) (rv:Value) (left:Int) (vals:VEnv) (ns:List Tr) (K:Nat) (l:List Bd) (lv:Value) (calls rest:List Tr) (vals':VEnv) (c:Int),C.lib=lib→cexecBs apI lib l vals calls=some (vals',rest,c)→need43 lib c calls rest≤m→
 need43 lib c calls rest≤left→left≤100000→GoodBs lib l→ToOks 0 C.ts l→TNamed C.ts→C.ts.length≤10000→TrRs apI lib calls→TrLens calls→Sm K left ns vals→RSt C A w rv left vals ns K→BdsAt A w lv l→
 Calls Tryd.prog 53 #[.pointer (some ⟨C.R,0,none⟩),lv,.map (some C.M),.pointer (some ⟨C.N,0,none⟩)] w (BPost43 C A w rv left vals' (ns ++ calls) rest (left - need43 lib c calls rest))
structure BL (C:RC) (A:Nat→Prop) (w:World) (rv:Value) (left:Int) (l:List Bd) (vals':VEnv) (all rest:List Tr) (lo m:Int) (k:Nat) (wr:World) (A1:Nat→Prop) (rv1:Value) (left1:Int) (vals1:VEnv) (ns1:List Tr) (K1:Nat) (calls1:List Tr) (c1:Int):Prop where
 st:RSt C A1 wr rv1 left1 vals1 ns1 K1
 step:RStep C A w rv A1 wr rv1
 ex:cexecBs apI C.lib (l.drop k) vals1 calls1=some (vals',rest,c1)
 all:ns1 ++ calls1=all
 lo:lo+need43 C.lib c1 calls1 rest≤left1
 hi:left1≤left
 m:need43 C.lib c1 calls1 rest≤m
 tr:TrRs apI C.lib calls1
 ln:TrLens calls1
 sm:Sm K1 left1 ns1 vals1
def BLoop (C:RC) (A:Nat→Prop) (w:World) (rv:Value) (left:Int) (l:List Bd) (vals':VEnv) (all rest:List Tr) (lo m:Int) (k:Nat) (wr:World):Prop:=
 ∃ A1 rv1 left1 vals1 ns1 K1 calls1 c1,BL C A w rv left l vals' all rest lo m k wr A1 rv1 left1 vals1 ns1 K1 calls1 c1
theorem TrLens.suffix:∀ {l m:List Tr},TrLens (l ++ m)→TrLens m
 | [],_,h=>h
 | t :: l,m,h=>by
   rw [List.cons_append,TrLens] at h
   exact TrLens.suffix h.2
theorem TrRs.suffix {ap:Ap} {lib:List Fn}:∀ {l m:List Tr},TrRs ap lib (l ++ m)→TrRs ap lib m
 | [],_,h=>h
 | t :: l,m,h=>by
   rw [List.cons_append,TrRs] at h
   exact TrRs.suffix h.2
theorem BL.next {C:RC} {A:Nat→Prop} {w:World} {rv:Value} {left:Int} {l:List Bd} {vals':VEnv} {all rest:List Tr} {lo m:Int} {k:Nat} {wr:World} {A1:Nat→Prop} {rv1:Value} {left1:Int} {vals1:VEnv} {ns1:List Tr} {K1:Nat} {calls1:List Tr} {c1:Int} (h:BL C A w rv left l vals' all rest lo m k wr A1 rv1 left1 vals1 ns1 K1 calls1 c1)
 {v1:VEnv} {r1:List Tr} {cb c2:Int} (hx:cexecB apI C.lib (at' l k) vals1 calls1=some (v1,r1,cb)) (h2:cexecBs apI C.lib (l.drop (k+1)) v1 r1=some (vals',rest,c2)) (hc:c1=cb+c2)
 {A4:Nat→Prop} {w4:World} {rv4:Value} {left4:Int} {ns4:List Tr} {K4:Nat} (hs:RSt C A4 w4 rv4 left4 v1 ns4 K4) (ht:RStep C A1 wr rv1 A4 w4 rv4) (ha:ns4 ++ r1=ns1 ++ calls1) (hl:left1 - need43 C.lib cb calls1 r1≤left4) (hh:left4≤left1) (hsm:Sm K4 left4 ns4 v1):
 BLoop C A w rv left l vals' all rest lo m (k+1) w4:=by
 obtain ⟨u1,u,hu⟩:=cexecB_used apI C.lib _ _ _ _ _ _ hx
 have hn:=h.lo
 have hm:=h.m
 have hcu:costTs apI C.lib calls1=costTs apI C.lib u+costTs apI C.lib r1:=by rw [hu,costTs_append]
 have hcn:=costTs_nonneg apI C.lib u
 unfold need43 at hn hm hl
 refine ⟨A4,rv4,left4,v1,ns4,K4,r1,c2,hs,h.step.trans ht,h2,ha.trans h.all,?_,Int.le_trans hh h.hi,?_,?_,?_,hsm⟩
 · unfold need43;omega
 · unfold need43;omega
 · have:=h.tr;rw [hu] at this;exact this.suffix
 · have:=h.ln;rw [hu] at this;exact this.suffix
end Go.Proofs.YtjhimhlebbamoaaDoor
/- The reference of layer 43:behind a call:a row of nodes grows;the boxes of the results. No function of the program is walked here. -/
namespace Go.Proofs.YtjhimhlebbamoaaDoor
open Go.RowKit
theorem cexec_callR {ap:Ap} {lib:List Fn} {tn:ByteArray} {li:Bool} {num:Int} {name:ByteArray} {args:List ByteArray} {thn els:List Bd} {vals v1:VEnv} {calls r1:List Tr} {cb:Int} (h:cexecB ap lib (.mk tn li 85 num name args thn els) vals calls=some (v1,r1,cb)):
 ∃ t,calls=t :: r1∧t.f=findF lib name∧t.args=args.map (fun a=>cleanV (vals a))∧t.res.list=li∧v1=vals.put tn t.res∧cb=1:=by
 rw [cexecB_eq] at h
 by_cases hc:chkB ap 85 num li args vals=true
 · rw [if_pos hc,if_neg (by omega),if_pos rfl] at h
   cases calls with
   | nil=>cases h
   | cons t cr=>
     simp only at h
     split at h
     · rename_i hh
       simp only [Option.some.injEq,Prod.mk.injEq] at h
       exact ⟨t,by rw [h.2.1],hh.1,hh.2.1,hh.2.2,h.1.symm,h.2.2.symm⟩
     · cases h
 · rw [if_neg hc] at h;cases h
def NdrO (lib:List Fn):Elem (Option Tr) where
 size:=3
 C:=fun A w c x=>match x with
  | some t=>NdrC lib A w c t
  | none=>c 0=.int .i64 0∧c 1=.int .i64 0∧c 2=.slice none 0 0
 stays:=fun hs c x h=>by
  cases x with
  | some t=>exact NdrC.stays hs h
  | none=>exact h
 congr:=fun {A w c d x} h e=>by
  cases x with
  | some t=>exact NdrC.congr h e
  | none=>exact ⟨(e 0 (by omega)).trans h.1,(e 1 (by omega)).trans h.2.1,(e 2 (by omega)).trans h.2.2⟩
 one:=fun {A w c x} h i hi=>by
  cases x with
  | some t=>exact (NdrE lib).one (x:=t) h i hi
  | none=>
    match i,hi with
    | 0,_=>rw [h.1];rfl
    | 1,_=>rw [h.2.1];rfl
    | 2,_=>rw [h.2.2];rfl
theorem RowsOwn.toO {lib:List Fn} {e:Nat} {D:Nat→Prop} {base:Nat} {w:World} {v:Value} {ns:List Tr} (h:RowsOwn (NdrE lib) e D base w v ns):RowsOwn (NdrO lib) e D base w v (ns.map some):=by
 obtain ⟨xs,hr,hf⟩:=h
 exact ⟨xs,by rw [List.length_map];exact hr,fun j hj=>by
  rw [List.length_map] at hj
  rw [at_map _ hj]
  exact hf j hj⟩
theorem RowsOwn.ofO {lib:List Fn} {e:Nat} {D:Nat→Prop} {base:Nat} {w:World} {v:Value} {ns:List Tr} (h:RowsOwn (NdrO lib) e D base w v (ns.map some)):RowsOwn (NdrE lib) e D base w v ns:=by
 obtain ⟨xs,hr,hf⟩:=h
 rw [List.length_map] at hr
 exact ⟨xs,hr,fun j hj=>by
  have h:=hf j (by rw [List.length_map];exact hj)
  rw [at_map _ hj] at h
  exact h⟩
theorem RowsOwn.setNdO {lib:List Fn} {e:Nat} {D:Nat→Prop} {base:Nat} {w:World} {g n cap:Nat} {l:List (Option Tr)} (h:RowsOwn (NdrO lib) e D base w (.slice (some ⟨g,0,none⟩) n cap) l) {j:Nat} (hj:j < l.length) {c0 c1 c2:Value} {x:Tr} (hx:NdrC lib (fun k=>D k∧k≠g) w (fun i=>(#[c0,c1,c2]:Array Value).getD i undef) x):
 RowsOwn (NdrO lib) e D base (((w.setCell ⟨g,j * 3,none⟩ c0).setCell ⟨g,j * 3+1,none⟩ c1).setCell ⟨g,j * 3+2,none⟩ c2) (.slice (some ⟨g,0,none⟩) n cap) (l.set j (some x)):=by
 obtain ⟨xs,hr,hf⟩:=h
 obtain ⟨_,_,he⟩:=row_form hr
 simp only [Value.slice.injEq] at he
 obtain ⟨-,rfl,-⟩:=he
 have hr':w.ownsRow base e 3 (.slice (some ⟨g,0,none⟩) l.length cap) l.length xs:=hr
 have hxl:=hr'.1
 have r4:=row_set (row_set (row_set hr' (j * 3) c0 (by omega)) (j * 3+1) c1 (by omega)) (j * 3+2) c2 (by omega)
 refine ⟨_,by rw [List.length_set];exact r4,fun i hi=>?_⟩
 rw [List.length_set] at hi
 have hK4:=((keeps_set w g (j * 3) c0).same (keeps_set _ g (j * 3+1) c1)).same (keeps_set _ g (j * 3+2) c2)
 have hst:Stays (fun k=>D k∧(Value.slice (some ⟨g,0,none⟩) l.length cap).ownBlock≠some k) (fun k=>D k∧(Value.slice (some ⟨g,0,none⟩) l.length cap).ownBlock≠some k) w (((w.setCell ⟨g,j * 3,none⟩ c0).setCell ⟨g,j * 3+1,none⟩ c1).setCell ⟨g,j * 3+2,none⟩ c2):=
  hK4.stays (fun k hk _ e=>hk.2 (by simp [Value.ownBlock,e]))
 have hst2:Stays (fun k=>D k∧k≠g) (fun k=>D k∧(Value.slice (some ⟨g,0,none⟩) l.length cap).ownBlock≠some k) w (((w.setCell ⟨g,j * 3,none⟩ c0).setCell ⟨g,j * 3+1,none⟩ c1).setCell ⟨g,j * 3+2,none⟩ c2):=
  ⟨hK4.size,fun k hk hd=>⟨hK4.block k hk hd.2,hd.1,fun e=>hd.2 (by simpa [Value.ownBlock] using e.symm)⟩⟩
 by_cases e:i=j
 · subst e
   have h1:at' (l.set i (some x)) i=some x:=by simp [at',List.getD_eq_getElem?_getD,hi]
   rw [h1]
   exact (hx.stays hst2).congr (fun k hk=>by
    show vat _ (i * 3+k)=_
    rw [vat_set3 xs i _ _ _ (by omega) i k hk,if_pos rfl]
    match k,hk with
    | 0,_=>rfl
    | 1,_=>rfl
    | 2,_=>rfl)
 · have h1:at' (l.set j (some x)) i=at' l i:=by simp [at',List.getD_eq_getElem?_getD,show ¬ j=i from fun h=>e h.symm]
   rw [h1]
   exact (NdrO lib).congr ((NdrO lib).stays hst (hf i hi)) (fun k hk=>by
    show vat _ (i * 3+k)=vat xs (i * 3+k)
    rw [vat_set3 xs j _ _ _ (by omega) i k hk,if_neg e])
theorem snoc_setO (ts:List Tr) (t:Tr):(ts.map some ++ [none]).set ts.length (some t)=(ts ++ [t]).map some:=by simp
theorem push_RO {C:RC} {A:Nat→Prop} {w w2:World} {rv:Value} {left:Int} {vals:VEnv} {ns:List Tr} {K:Nat} {t:Tr} {g n cap:Nat} {c0 c1 c2:Value} (h:RSt C A w rv left vals ns K) (hown:RowsOwn (NdrO C.lib) 49 A 0 w2 (.slice (some ⟨g,0,none⟩) n cap) (ns.map some ++ [none])) (hg:w.grownBy w2 rv.ownBlock) (hn:NewOr w rv (.slice (some ⟨g,0,none⟩) n cap))
 (ht:NdrC C.lib A w (fun i=>(#[c0,c1,c2]:Array Value).getD i undef) t):
 (RSt C A ((((w2.setCell ⟨g,ns.length * 3,none⟩ c0).setCell ⟨g,ns.length * 3+1,none⟩ c1).setCell ⟨g,ns.length * 3+2,none⟩ c2).setCell ⟨C.N,2,none⟩ (.slice (some ⟨g,0,none⟩) n cap)) (.slice (some ⟨g,0,none⟩) n cap) left vals (ns ++ [t]) K∧
   RStep C A w rv A ((((w2.setCell ⟨g,ns.length * 3,none⟩ c0).setCell ⟨g,ns.length * 3+1,none⟩ c1).setCell ⟨g,ns.length * 3+2,none⟩ c2).setCell ⟨C.N,2,none⟩ (.slice (some ⟨g,0,none⟩) n cap)) (.slice (some ⟨g,0,none⟩) n cap))∧
 RSt C A ((((w2.setCell ⟨C.N,2,none⟩ (.slice (some ⟨g,0,none⟩) n cap)).setCell ⟨g,ns.length * 3,none⟩ c0).setCell ⟨g,ns.length * 3+1,none⟩ c1).setCell ⟨g,ns.length * 3+2,none⟩ c2) (.slice (some ⟨g,0,none⟩) n cap) left vals (ns ++ [t]) K∧
  RStep C A w rv A ((((w2.setCell ⟨C.N,2,none⟩ (.slice (some ⟨g,0,none⟩) n cap)).setCell ⟨g,ns.length * 3,none⟩ c0).setCell ⟨g,ns.length * 3+1,none⟩ c1).setCell ⟨g,ns.length * 3+2,none⟩ c2) (.slice (some ⟨g,0,none⟩) n cap):=by
 have hk:Keeps w w2 (fun k=>rv.ownBlock=some k):=Keeps.of_grown hg (fun k e=>.inl e)
 have hgo:rv.ownBlock=some g∨w.heap.size≤g:=hn g rfl
 have hgA:¬ A g:=fun a=>by
  rcases hgo with e|e
  · exact h.mutA g (.inr (.inr (.inr e))) a
  · have:=h.alt g a;omega
 have hgc:g≠C.N:=fun e=>by
  rcases hgo with e2|e2
  · exact h.rN (e ▸ e2)
  · have:=h.nlt;omega
 have hst:Stays A (fun k=>A k∧k≠g) w w2:=⟨hk.size,fun b hb a=>⟨hk.block b hb (fun e=>h.mutA b (.inr (.inr (.inr e))) a),a,fun e=>hgA (e ▸ a)⟩⟩
 have hclt:C.N < w2.heap.size:=Nat.lt_of_lt_of_le h.nlt hk.size
 have hcb2:w2.heap[C.N]?=some (.cells #[.int .i64 C.f,.int .i64 0,rv] 49 (0,0)):=(hk.block C.N h.nlt (fun e=>h.rN e)).trans h.nb
 have hgs:∀ k,(Value.slice (some ⟨g,0,none⟩) n cap).ownBlock=some k→k=g:=fun k e=>by simpa [Value.ownBlock] using e.symm
 constructor
 · have hS:∀ k,(rv.ownBlock=some k∨k=g∨k=C.N)→(rv.ownBlock=some k∨(Value.slice (some ⟨g,0,none⟩) n cap).ownBlock=some k∨k=C.N):=fun k e=>by
    rcases e with e|rfl|e
    · exact .inl e
    · exact .inr (.inl rfl)
    · exact .inr (.inr e)
   have h1:=hown.setNdO (j:=ns.length) (by simp) (ht.stays hst)
   rw [snoc_setO] at h1
   have h1:=h1.ofO
   have hK6:=((keeps_set w2 g (ns.length * 3) c0).same (keeps_set _ g (ns.length * 3+1) c1)).same (keeps_set _ g (ns.length * 3+2) c2)
   have hKc:=keeps_set (((w2.setCell ⟨g,ns.length * 3,none⟩ c0).setCell ⟨g,ns.length * 3+1,none⟩ c1).setCell ⟨g,ns.length * 3+2,none⟩ c2) C.N 2 (.slice (some ⟨g,0,none⟩) n cap)
   have hcb3:=(hK6.block C.N hclt (fun e=>hgc e.symm)).trans hcb2
   have hc4:=heap_setCell_same _ C.N 2 _ _ (.slice (some ⟨g,0,none⟩) n cap) hcb3
   refine push_finR h ((((hk.mono (fun k e=>.inl e)).same (hK6.mono (fun k e=>.inr (.inl e)))).same (hKc.mono (fun k e=>.inr (.inr e)))).mono hS) hn (h1.keeps hKc (fun k e e2=>hgc ((hgs k e).symm.trans e2)) (fun k _ a e=>h.mutA k (.inr (.inr (.inl e))) a)) ?_
   simpa only [List.setIfInBounds_toArray,List.set_cons_zero,List.set_cons_succ] using hc4
 · have hS:∀ k,(rv.ownBlock=some k∨k=C.N∨k=g)→(rv.ownBlock=some k∨(Value.slice (some ⟨g,0,none⟩) n cap).ownBlock=some k∨k=C.N):=fun k e=>by
    rcases e with e|e|rfl
    · exact .inl e
    · exact .inr (.inr e)
    · exact .inr (.inl rfl)
   have hKc:=keeps_set w2 C.N 2 (.slice (some ⟨g,0,none⟩) n cap)
   have hc4:=heap_setCell_same w2 C.N 2 _ _ (.slice (some ⟨g,0,none⟩) n cap) hcb2
   have h0:=hown.keeps hKc (fun k e e2=>hgc ((hgs k e).symm.trans e2)) (fun k _ a e=>h.mutA k (.inr (.inr (.inl e))) a)
   have hst2:Stays A (fun k=>A k∧k≠g) w (w2.setCell ⟨C.N,2,none⟩ (.slice (some ⟨g,0,none⟩) n cap)):=⟨Nat.le_trans hst.size hKc.size,fun b hb a=>⟨(hKc.block b (Nat.lt_of_lt_of_le hb hst.size) (fun e=>h.mutA b (.inr (.inr (.inl e))) a)).trans (hst.block b hb a).1,(hst.block b hb a).2⟩⟩
   have h1:=h0.setNdO (j:=ns.length) (by simp) (ht.stays hst2)
   rw [snoc_setO] at h1
   have h1:=h1.ofO
   have hK6:=((keeps_set (w2.setCell ⟨C.N,2,none⟩ (.slice (some ⟨g,0,none⟩) n cap)) g (ns.length * 3) c0).same (keeps_set _ g (ns.length * 3+1) c1)).same (keeps_set _ g (ns.length * 3+2) c2)
   refine push_finR h ((((hk.mono (fun k e=>.inl e)).same (hKc.mono (fun k e=>.inr (.inl e)))).same (hK6.mono (fun k e=>.inr (.inr e)))).mono hS) hn h1 ?_
   refine (hK6.block C.N (Nat.lt_of_lt_of_le hclt hKc.size) (fun e=>hgc e.symm)).trans ?_
   simpa only [List.setIfInBounds_toArray,List.set_cons_zero,List.set_cons_succ] using hc4
theorem step_push {lib:List Fn} {ops:Array Oper} {o:Oper} {a:Act} {K:Act→World→Prop} {Q:Exit→Act→World→Prop} {E':Prop} (hgd:o.guard=none) (s x:Operand) (ho:o.op=.call { callee:=.builtin .append,args:=#[s,x],argTypes:=#[47,47] })
 {w:World} {v u:Value} {ns:List Tr} {D D':Nat→Prop} (hs:a.eval s=v) (hx:a.eval x=u) (hown:RowsOwn (NdrE lib) 49 D 0 w v ns) (hu:RowsAt (NdrO lib) D' w u [none]) (hD:∀ b,b < w.heap.size→D' b→D b∧v.ownBlock≠some b)
 (hl:ns.length+1≤1000000)
 (h:∀ a' c' w1,RowsOwn (NdrO lib) 49 D 0 w1 (.slice a' (ns.length+1) c') (ns.map some ++ [none])→w.grownBy w1 v.ownBlock→NewOr w v (.slice a' (ns.length+1) c')→K (a.put o.dst (.slice a' (ns.length+1) c')) w1):
 if Region.wanted o (yielded ops a.tmps)=true then Oper.wp Tryd.prog o a w K Q else E':=by
 refine step_rows (E:=NdrO lib) TNdr rfl (by show 0 < 3;decide) hgd s x ho hs hx hown.toO hu hD (by unfold maxLen;simp;omega) (by simp;omega) (Nat.zero_le _) ?_
 simpa only [List.length_map,List.length_singleton] using h
theorem RStep.ownR {C:RC} {A A':Nat→Prop} {w w':World} {rv rv':Value} {g:Nat} {o:Obj} (h:RStep C A w rv A' w' rv') (hg:w.heap[g]?=some o) (nA:¬ A g) (nM:¬ MuR C rv g):w'.heap[g]?=some o∧¬ A' g∧¬ MuR C rv' g:=by
 have hlt:g < w.heap.size:=by rw [Array.getElem?_eq_some_iff] at hg;exact hg.1
 refine ⟨(h.keeps.block g hlt nM).trans hg,fun a=>?_,fun m=>?_⟩
 · rcases h.new g a with a|a
   · exact nA a
   · omega
 · rcases m.new h.nrv with m|m
   · exact nM m
   · omega
theorem push_litR {C:RC} {A:Nat→Prop} {w w7:World} {rv:Value} {left:Int} {vals:VEnv} {ns:List Tr} {K g:Nat} (hs:RSt C A w rv left vals ns K) (hb:Below w.heap.size w w7) (hg:w7.heap[g]?=some (.cells #[.int .i64 0,.int .i64 0,.slice none 0 0] 49 (0,0))) (hge:w.heap.size≤g):
 RSt C (fun k=>A k∨k=g) w7 rv left vals ns K∧RowsAt (NdrO C.lib) (fun k=>A k∨k=g) w7 (.slice (some ⟨g,0,none⟩) 1 1) [none]:=by
 have hlt:g < w7.heap.size:=by rw [Array.getElem?_eq_some_iff] at hg;exact hg.1
 refine ⟨(hs.below hb).more (fun k a=>.inl a) (fun k a=>?_),rows_1 (E:=NdrO C.lib) (x:=(none:Option Tr)) hg (.inr rfl) rfl ⟨rfl,rfl,rfl⟩⟩
 rcases a with a|rfl
 · exact .inl a
 · exact .inr ⟨hlt,fun m=>by have:=hs.mlt m;omega⟩
theorem RSt.apart {C:RC} {A:Nat→Prop} {w:World} {rv:Value} {left:Int} {vals:VEnv} {ns:List Tr} {K:Nat} (h:RSt C A w rv left vals ns K):∀ b,b < w.heap.size→A b→A b∧rv.ownBlock≠some b:=fun b _ a=>⟨a,fun e=>h.mutA b (.inr (.inr (.inr e))) a⟩
theorem push_factsR {C:RC} {A:Nat→Prop} {w7 w8:World} {rv:Value} {left:Int} {vals:VEnv} {ns:List Tr} {K:Nat} {a8:Option Addr} {c8:Nat} (h:RSt C A w7 rv left vals ns K) (hown:RowsOwn (NdrO C.lib) 49 A 0 w8 (.slice a8 (ns.length+1) c8) (ns.map some ++ [none])) (hg8:w7.grownBy w8 rv.ownBlock) (hn:NewOr w7 rv (.slice a8 (ns.length+1) c8)):
 ∃ g8,a8=some ⟨g8,0,none⟩∧w8.heap[C.N]?=some (.cells #[.int .i64 C.f,.int .i64 0,rv] 49 (0,0))∧(∀ j,w8.frozen? ⟨g8,j,none⟩=false)∧(∀ i,i < 3→∃ v,w8.cell? ⟨g8,ns.length * 3+i,none⟩=some v)∧g8≠C.N∧(∀ g o,w7.heap[g]?=some o→¬ MuR C rv g→w8.heap[g]?=some o∧g8≠g):=by
 obtain ⟨xs,hr,hf⟩:=hown
 have hr':w8.ownsRow 0 49 3 (.slice a8 (ns.length+1) c8) (ns.map some ++ [none]).length xs:=hr
 obtain ⟨g8,cap,cur,he,hnc,hh,hcs,hm,hgb,_,_⟩:=row_cell hr' (by simp)
 simp only [Value.slice.injEq] at he
 obtain ⟨rfl,-,rfl⟩:=he
 have hgo:rv.ownBlock=some g8∨w7.heap.size≤g8:=hn g8 rfl
 refine ⟨g8,rfl,(hg8.block C.N h.nlt (fun e=>h.rN e.symm)).trans h.nb,unfrozen hh,fun i hi=>?_,fun e=>?_,fun g o hg nM=>?_⟩
 · have hl:ns.length * 3+i < cur.size:=by simp at hnc;omega
   exact ⟨cur[ns.length * 3+i],by simp only [World.cell?,hh];rw [Array.getElem?_eq_getElem hl];rfl⟩
 · rcases hgo with e2|e2
   · exact h.rN (e ▸ e2)
   · have:=h.nlt;omega
 · have hlt:g < w7.heap.size:=by rw [Array.getElem?_eq_some_iff] at hg;exact hg.1
   refine ⟨(hg8.block g hlt (fun e=>nM (.inr (.inr (.inr e.symm))))).trans hg,fun e=>?_⟩
   rcases hgo with e2|e2
   · exact nM (.inr (.inr (.inr (e ▸ e2))))
   · omega
def CutW (C:RC) (A2:Nat→Prop) (W3:World) (t:Tr) (left1:Int) (s1 s2 s3:Value) (wx:World):Prop:=
 ∃ (g17 g18:Nat) (w1 w5:World) (ua:Option Addr) (uc:Nat) (na:Option Addr) (nc:Nat) (u:Vl) (left':Int),s1=.pointer (some ⟨g17,0,none⟩)∧s2=.pointer (some ⟨g18,0,none⟩)∧s3=.bool true∧Below W3.heap.size W3 w1∧
   VlAt (fun k=>A2 k∨w1.heap.size≤k∧k < w5.heap.size) w5 (.agg #[.bool u.list,.int .i64 u.n,.slice ua u.l.length uc]) u∧cleanV u=t.res∧NdrAt C.lib (fun k=>A2 k∨w1.heap.size≤k∧k < w5.heap.size) w5 (.agg #[.int .i64 t.f,.int .i64 (puN C.lib t),.slice na t.calls.length nc]) t∧Keeps w1 w5 (fun k=>k=C.R)∧
   w5.heap[C.R]?=some (.cells #[.slice C.la C.lib.length C.lc,.int .i64 left'] 93 (0,0))∧(left1 - 1) - costT apI C.lib t≤left'∧left'≤left1 - 1∧
   wx.heap[g17]?=some (.cells #[.bool u.list,.int .i64 u.n,.slice ua u.l.length uc] 96 (0,0))∧wx.heap[g18]?=some (.cells #[.int .i64 t.f,.int .i64 (puN C.lib t),.slice na t.calls.length nc] 49 (0,0))∧
   Keeps w5 wx (fun b=>b=g17∨b=g18)∧W3.heap.size≤g17∧W3.heap.size≤g18∧g17≠g18∧(g17 < w1.heap.size∨w5.heap.size≤g17)∧(g18 < w1.heap.size∨w5.heap.size≤g18)
theorem blk_setR {w:World} {g g' i:Nat} {o:Obj} {v:Value} (h:w.heap[g]?=some o) (hne:g≠g'):(w.setCell ⟨g',i,none⟩ v).heap[g]?=some o:=(Below.heap_setCell w ⟨g',i,none⟩ v g hne).trans h
theorem box_pp {w5:World} {g17 g18:Nat} {z17 z18:Array Value} (a b c:Value) (h17:w5.heap[g17]?=some (.cells z17 96 (0,0))) (h18:w5.heap[g18]?=some (.cells z18 49 (0,0))):(((w5.setCell ⟨g17,0,none⟩ a).setCell ⟨g17,1,none⟩ b).setCell ⟨g17,2,none⟩ c).heap[g18]?=some (.cells z18 49 (0,0)):=by
 have hne:g18≠g17:=fun e=>by rw [e,h17] at h18;simp at h18
 exact blk_setR (blk_setR (blk_setR h18 hne) hne) hne
theorem box_pn {w5:World} {g17:Nat} {z17 z18:Array Value} (a b c:Value) (h17:w5.heap[g17]?=some (.cells z17 96 (0,0))):((((w5.alloc (.cells z18 49)).setCell ⟨g17,0,none⟩ a).setCell ⟨g17,1,none⟩ b).setCell ⟨g17,2,none⟩ c).heap[w5.heap.size]?=some (.cells z18 49 (0,0)):=by
 have hlt:g17 < w5.heap.size:=by rw [Array.getElem?_eq_some_iff] at h17;exact h17.1
 have hne:w5.heap.size≠g17:=by omega
 exact blk_setR (blk_setR (blk_setR (at_new0 _ _) hne) hne) hne
theorem keeps_setR {w w':World} {g i:Nat} {v:Value} {S:Nat→Prop} (h:Keeps w w' S) (hS:S g):Keeps w (w'.setCell ⟨g,i,none⟩ v) S:=h.same ((keeps_set w' g i v).mono (fun k e=>by rw [e];exact hS))
theorem keeps_allocR {w w':World} {o:Obj} {S:Nat→Prop} (h:Keeps w w' S):Keeps w (w'.alloc o) S:=h.same (Keeps.of_below _ (bel_alloc (Below.refl _ _)))
theorem keeps_drewR {w w':World} {S:Nat→Prop} (h:Keeps w w' S):Keeps w w'.drew S:=h.same (Keeps.of_below _ (bel_drew (Below.refl _ _)))
theorem cut_ne {wx:World} {g17 g18 e1 e2:Nat} {b:Bool} {n:Int} {v1 v2 v3 v4:Value} (h17:wx.heap[g17]?=some (.cells #[.bool b,v1,v2] e1 (0,0))) (h18:wx.heap[g18]?=some (.cells #[.int .i64 n,v3,v4] e2 (0,0))):g17≠g18:=fun e=>by rw [e,h18] at h17;simp at h17
theorem cutW_mk {C:RC} {A2:Nat→Prop} {W3:World} {t:Tr} {left1:Int} {g17 g18:Nat} {w1 w5 wx:World} {ua na:Option Addr} {uc nc:Nat} {u:Vl} {left':Int}
 (HP:VlAt (fun k=>A2 k∨w1.heap.size≤k∧k < w5.heap.size) w5 (.agg #[.bool u.list,.int .i64 u.n,.slice ua u.l.length uc]) u∧cleanV u=t.res∧NdrAt C.lib (fun k=>A2 k∨w1.heap.size≤k∧k < w5.heap.size) w5 (.agg #[.int .i64 t.f,.int .i64 (puN C.lib t),.slice na t.calls.length nc]) t∧Keeps w1 w5 (fun k=>k=C.R)∧
   w5.heap[C.R]?=some (.cells #[.slice C.la C.lib.length C.lc,.int .i64 left'] 93 (0,0))∧(left1 - 1) - costT apI C.lib t≤left'∧left'≤left1 - 1)
 (hb:Below W3.heap.size W3 w1) (hx:wx.heap[g17]?=some (.cells #[.bool u.list,.int .i64 u.n,.slice ua u.l.length uc] 96 (0,0))∧wx.heap[g18]?=some (.cells #[.int .i64 t.f,.int .i64 (puN C.lib t),.slice na t.calls.length nc] 49 (0,0))∧Keeps w5 wx (fun b=>b=g17∨b=g18))
 (h1:W3.heap.size≤g17) (h2:W3.heap.size≤g18) (h3:g17 < w1.heap.size∨w5.heap.size≤g17) (h4:g18 < w1.heap.size∨w5.heap.size≤g18):CutW C A2 W3 t left1 (.pointer (some ⟨g17,0,none⟩)) (.pointer (some ⟨g18,0,none⟩)) (.bool true) wx:=
 ⟨g17,g18,w1,w5,ua,uc,na,nc,u,left',rfl,rfl,rfl,hb,HP.1,HP.2.1,HP.2.2.1,HP.2.2.2.1,HP.2.2.2.2.1,HP.2.2.2.2.2.1,HP.2.2.2.2.2.2,hx.1,hx.2.1,hx.2.2,h1,h2,cut_ne hx.1 hx.2.1,h3,h4⟩
theorem leafP {w5:World} {g17 g18:Nat} (a0:Bool) (a1 a2:Value) (b0:Int) (b1 b2:Value) (h17:w5.heap[g17]?=some (.cells #[.bool false,.int .i64 0,.slice none 0 0] 96 (0,0))) (h18:w5.heap[g18]?=some (.cells #[.int .i64 0,.int .i64 0,.slice none 0 0] 49 (0,0))):
 ((((((w5.setCell ⟨g17,0,none⟩ (.bool a0)).setCell ⟨g17,1,none⟩ a1).setCell ⟨g17,2,none⟩ a2).setCell ⟨g18,0,none⟩ (.int .i64 b0)).setCell ⟨g18,1,none⟩ b1).setCell ⟨g18,2,none⟩ b2).heap[g17]?=some (.cells #[.bool a0,a1,a2] 96 (0,0))∧
 ((((((w5.setCell ⟨g17,0,none⟩ (.bool a0)).setCell ⟨g17,1,none⟩ a1).setCell ⟨g17,2,none⟩ a2).setCell ⟨g18,0,none⟩ (.int .i64 b0)).setCell ⟨g18,1,none⟩ b1).setCell ⟨g18,2,none⟩ b2).heap[g18]?=some (.cells #[.int .i64 b0,b1,b2] 49 (0,0))∧
 Keeps w5 ((((((w5.setCell ⟨g17,0,none⟩ (.bool a0)).setCell ⟨g17,1,none⟩ a1).setCell ⟨g17,2,none⟩ a2).setCell ⟨g18,0,none⟩ (.int .i64 b0)).setCell ⟨g18,1,none⟩ b1).setCell ⟨g18,2,none⟩ b2) (fun b=>b=g17∨b=g18):=by
 have hne:=cut_ne h17 h18
 exact ⟨blk_setR (blk_setR (blk_setR (set3 h17 _ _ _) hne) hne) hne,set3 (blk_setR (blk_setR (blk_setR h18 (Ne.symm hne)) (Ne.symm hne)) (Ne.symm hne)) _ _ _,((keeps_set3 w5 g17 _ _ _).mono (fun _ e=>.inl e)).same ((keeps_set3 _ g18 _ _ _).mono (fun _ e=>.inr e))⟩
theorem leafB {w5:World} {g17:Nat} (a0:Bool) (a1 a2:Value) (b0:Int) (b1 b2:Value) (h17:w5.heap[g17]?=some (.cells #[.bool false,.int .i64 0,.slice none 0 0] 96 (0,0))):
 (((((((w5.alloc (.cells #[.int .i64 0,.int .i64 0,.slice none 0 0] 49)).setCell ⟨g17,0,none⟩ (.bool a0)).setCell ⟨g17,1,none⟩ a1).setCell ⟨g17,2,none⟩ a2).setCell ⟨w5.heap.size,0,none⟩ (.int .i64 b0)).setCell ⟨w5.heap.size,1,none⟩ b1).setCell ⟨w5.heap.size,2,none⟩ b2).heap[g17]?=some (.cells #[.bool a0,a1,a2] 96 (0,0))∧
 (((((((w5.alloc (.cells #[.int .i64 0,.int .i64 0,.slice none 0 0] 49)).setCell ⟨g17,0,none⟩ (.bool a0)).setCell ⟨g17,1,none⟩ a1).setCell ⟨g17,2,none⟩ a2).setCell ⟨w5.heap.size,0,none⟩ (.int .i64 b0)).setCell ⟨w5.heap.size,1,none⟩ b1).setCell ⟨w5.heap.size,2,none⟩ b2).heap[w5.heap.size]?=some (.cells #[.int .i64 b0,b1,b2] 49 (0,0))∧
 Keeps w5 (((((((w5.alloc (.cells #[.int .i64 0,.int .i64 0,.slice none 0 0] 49)).setCell ⟨g17,0,none⟩ (.bool a0)).setCell ⟨g17,1,none⟩ a1).setCell ⟨g17,2,none⟩ a2).setCell ⟨w5.heap.size,0,none⟩ (.int .i64 b0)).setCell ⟨w5.heap.size,1,none⟩ b1).setCell ⟨w5.heap.size,2,none⟩ b2) (fun b=>b=g17∨b=w5.heap.size):=by
 have h:=leafP a0 a1 a2 b0 b1 b2 (blk_alloc (x:=.cells #[.int .i64 0,.int .i64 0,.slice none 0 0] 49) h17) (at_new0 w5 (.cells #[.int .i64 0,.int .i64 0,.slice none 0 0] 49))
 exact ⟨h.1,h.2.1,(Keeps.of_below _ (bel_alloc (Below.refl _ _))).same h.2.2⟩
theorem leafC {w5:World} {g18:Nat} (a0 a1 a2 b0 b1 b2:Value) (h18:w5.heap[g18]?=some (.cells #[.int .i64 0,.int .i64 0,.slice none 0 0] 49 (0,0))):
 ((((w5.alloc (.cells #[a0,a1,a2] 96)).setCell ⟨g18,0,none⟩ b0).setCell ⟨g18,1,none⟩ b1).setCell ⟨g18,2,none⟩ b2).heap[w5.heap.size]?=some (.cells #[a0,a1,a2] 96 (0,0))∧
 ((((w5.alloc (.cells #[a0,a1,a2] 96)).setCell ⟨g18,0,none⟩ b0).setCell ⟨g18,1,none⟩ b1).setCell ⟨g18,2,none⟩ b2).heap[g18]?=some (.cells #[b0,b1,b2] 49 (0,0))∧
 Keeps w5 ((((w5.alloc (.cells #[a0,a1,a2] 96)).setCell ⟨g18,0,none⟩ b0).setCell ⟨g18,1,none⟩ b1).setCell ⟨g18,2,none⟩ b2) (fun b=>b=w5.heap.size∨b=g18):=by
 have hlt:g18 < w5.heap.size:=by rw [Array.getElem?_eq_some_iff] at h18;exact h18.1
 have hne:w5.heap.size≠g18:=by omega
 exact ⟨blk_setR (blk_setR (blk_setR (at_new0 _ _) hne) hne) hne,set3 (blk_alloc h18) _ _ _,(Keeps.of_below _ (bel_alloc (Below.refl _ _))).same ((keeps_set3 _ g18 _ _ _).mono (fun _ e=>.inr e))⟩
theorem leafA {w5:World} (a0 a1 a2 b0 b1 b2:Value):
 ((w5.alloc (.cells #[a0,a1,a2] 96)).alloc (.cells #[b0,b1,b2] 49)).heap[w5.heap.size]?=some (.cells #[a0,a1,a2] 96 (0,0))∧
 ((w5.alloc (.cells #[a0,a1,a2] 96)).alloc (.cells #[b0,b1,b2] 49)).heap[w5.heap.size+1]?=some (.cells #[b0,b1,b2] 49 (0,0))∧
 Keeps w5 ((w5.alloc (.cells #[a0,a1,a2] 96)).alloc (.cells #[b0,b1,b2] 49)) (fun b=>b=w5.heap.size∨b=w5.heap.size+1):=
 ⟨blk_alloc (at_new0 _ _),blk_new (by simp),Keeps.of_below _ (bel_alloc (bel_alloc (Below.refl _ _)))⟩
theorem leafD {w5:World} (a0 a1 a2 b0 b1 b2:Value):
 ((w5.alloc (.cells #[b0,b1,b2] 49)).alloc (.cells #[a0,a1,a2] 96)).heap[w5.heap.size+1]?=some (.cells #[a0,a1,a2] 96 (0,0))∧
 ((w5.alloc (.cells #[b0,b1,b2] 49)).alloc (.cells #[a0,a1,a2] 96)).heap[w5.heap.size]?=some (.cells #[b0,b1,b2] 49 (0,0))∧
 Keeps w5 ((w5.alloc (.cells #[b0,b1,b2] 49)).alloc (.cells #[a0,a1,a2] 96)) (fun b=>b=w5.heap.size+1∨b=w5.heap.size):=
 ⟨blk_new (by simp),blk_alloc (at_new0 _ _),Keeps.of_below _ (bel_alloc (bel_alloc (Below.refl _ _)))⟩
structure CutS (C:RC) (A2:Nat→Prop) (W3:World) (rv:Value) (left1:Int) (vals:VEnv) (ns:List Tr) (K:Nat) (t:Tr) (wx:World) (g17 g18:Nat) (ua:Option Addr) (uc:Nat) (na:Option Addr) (nc:Nat) (u:Vl) (left':Int) (A3:Nat→Prop):Prop where
 st:RSt C A3 wx rv left' vals ns K
 step:RStep C A2 W3 rv A3 wx rv
 vl:VlAt A3 wx (.agg #[.bool u.list,.int .i64 u.n,.slice ua u.l.length uc]) u
 cl:cleanV u=t.res
 nd:NdrC C.lib A3 wx (fun i=>(#[.int .i64 t.f,.int .i64 (puN C.lib t),.slice na t.calls.length nc]:Array Value).getD i undef) t
 lo:(left1 - 1) - costT apI C.lib t≤left'
 hi:left'≤left1 - 1
 b17:wx.heap[g17]?=some (.cells #[.bool u.list,.int .i64 u.n,.slice ua u.l.length uc] 96 (0,0))∧¬ A3 g17∧¬ MuR C rv g17
 b18:wx.heap[g18]?=some (.cells #[.int .i64 t.f,.int .i64 (puN C.lib t),.slice na t.calls.length nc] 49 (0,0))∧¬ A3 g18∧¬ MuR C rv g18
 old:W3.heap.size≤g17∧W3.heap.size≤g18
theorem cut_state {C:RC} {A2:Nat→Prop} {W3 wx:World} {rv s1 s2 s3:Value} {left1:Int} {vals:VEnv} {ns:List Tr} {K:Nat} {t:Tr} (h:RSt C A2 W3 rv (left1 - 1) vals ns K) (hc:CutW C A2 W3 t left1 s1 s2 s3 wx):
 ∃ g17 g18 ua uc na nc u left' A3,s1=.pointer (some ⟨g17,0,none⟩)∧s2=.pointer (some ⟨g18,0,none⟩)∧s3=.bool true∧CutS C A2 W3 rv left1 vals ns K t wx g17 g18 ua uc na nc u left' A3:=by
 obtain ⟨g17,g18,w1,w5,ua,uc,na,nc,u,left',rfl,rfl,rfl,hb,hv,hcl,hn,hk,hr,hlo,hhi,h17,h18,hkx,o17,o18,hne,p17,p18⟩:=hc
 obtain ⟨hs5,ht5⟩:=(h.below hb).called hk hr
 have hz1:=hb.size
 have hA:∀ k,(A2 k∨w1.heap.size≤k∧k < w5.heap.size)→¬ (k=g17∨k=g18):=fun k a e=>by
  rcases a with a|a
  · have:=h.alt k a;omega
  · omega
 have hM:∀ k,MuR C rv k→¬ (k=g17∨k=g18):=fun k m e=>by have:=h.mlt m;omega
 have hst:Stays (fun k=>A2 k∨w1.heap.size≤k∧k < w5.heap.size) (fun k=>A2 k∨w1.heap.size≤k∧k < w5.heap.size) w5 wx:=hkx.stays (fun k a _=>hA k a)
 have hsx:=hs5.keeps hkx hA hM
 have htx:=((RStep.below (C:=C) (A:=A2) (rv:=rv) hb).trans ht5).young hkx (fun k e=>by rcases e with rfl|rfl <;> assumption)
 exact ⟨g17,g18,ua,uc,na,nc,u,left',_,rfl,rfl,rfl,hsx,htx,hv.stays hst,hcl,(hn.stays hst).cells,hlo,hhi,⟨h17,fun a=>hA _ a (.inl rfl),fun m=>hM _ m (.inl rfl)⟩,⟨h18,fun a=>hA _ a (.inr rfl),fun m=>hM _ m (.inr rfl)⟩,o17,o18⟩
structure CutN (C:RC) (A3:Nat→Prop) (wx:World) (rv:Value) (left':Int) (vals:VEnv) (ns:List Tr) (K:Nat) (v:Value) (u:Vl) (G:Nat→Obj→Prop) (w4:World) (A4:Nat→Prop) (rv4:Value):Prop where
 st:RSt C A4 w4 rv4 left' vals ns K
 step:RStep C A3 wx rv A4 w4 rv4
 vl:VlAt A4 w4 v u
 blk:∀ g o,G g o→w4.heap[g]?=some o∧¬ A4 g∧¬ MuR C rv4 g
def CutE (C:RC) (A3:Nat→Prop) (wx:World) (rv:Value) (left':Int) (vals:VEnv) (ns:List Tr) (K:Nat) (v:Value) (u:Vl) (G:Nat→Obj→Prop) (w4:World):Prop:=∃ A4 rv4,CutN C A3 wx rv left' vals ns K v u G w4 A4 rv4
theorem cut_n {C:RC} {A3:Nat→Prop} {wx w7 w4:World} {rv rv4:Value} {left':Int} {vals:VEnv} {ns ns':List Tr} {K g7:Nat} {v:Value} {u:Vl} {G:Nat→Obj→Prop} (hs:RSt C A3 wx rv left' vals ns K) (hv:VlAt A3 wx v u) (hG:∀ g o,G g o→wx.heap[g]?=some o∧¬ A3 g∧¬ MuR C rv g)
 (hb:Below wx.heap.size wx w7) (h7:wx.heap.size≤g7) (h4:RSt C (fun k=>A3 k∨k=g7) w4 rv4 left' vals ns' K∧RStep C (fun k=>A3 k∨k=g7) w7 rv (fun k=>A3 k∨k=g7) w4 rv4):CutE C A3 wx rv left' vals ns' K v u G w4:=by
 have hst:Stays A3 (fun k=>A3 k∨k=g7) wx w7:=⟨hb.size,fun b h a=>⟨hb.block b h,.inl a⟩⟩
 have hm7:∀ k,MuR C rv k→k < wx.heap.size:=fun k m=>hs.mlt m
 have hst4:Stays (fun k=>A3 k∨k=g7) (fun k=>A3 k∨k=g7) w7 w4:=h4.2.stays (fun k a m=>by
  rcases a with a|a
  · exact hs.mutA k m a
  · have:=hm7 k m;omega)
 refine ⟨_,rv4,h4.1,?_,(hv.stays hst).stays hst4,fun g o hg=>?_⟩
 · have h0:RStep C A3 wx rv (fun k=>A3 k∨k=g7) w7 rv:=⟨Keeps.of_below _ hb,fun _ a=>.inl a,fun k a=>a.imp id (fun e=>by omega),NewOr.refl _ _⟩
   exact h0.trans h4.2
 · obtain ⟨b1,b2,b3⟩:=hG g o hg
   have hlt:g < wx.heap.size:=by rw [Array.getElem?_eq_some_iff] at b1;exact b1.1
   exact h4.2.ownR (blk_below hb b1) (fun a=>by
    rcases a with a|a
    · exact b2 a
    · omega) b3
theorem push_allR {C:RC} {A3:Nat→Prop} {wx w7 w8:World} {rv:Value} {left':Int} {vals:VEnv} {ns:List Tr} {K g8 c8:Nat} {t:Tr} {v:Value} {u:Vl} {G:Nat→Obj→Prop} {c0 c1 c2:Value} (hown:RowsOwn (NdrO C.lib) 49 (fun k=>A3 k∨k=wx.heap.size) 0 w8 (.slice (some ⟨g8,0,none⟩) (ns.length+1) c8) (ns.map some ++ [none])) (hg8:w7.grownBy w8 rv.ownBlock) (hn:NewOr w7 rv (.slice (some ⟨g8,0,none⟩) (ns.length+1) c8))
 (hb:Below wx.heap.size wx w7) (hs7:RSt C (fun k=>A3 k∨k=wx.heap.size) w7 rv left' vals ns K) (hs:RSt C A3 wx rv left' vals ns K) (hv:VlAt A3 wx v u) (hG:∀ g o,G g o→wx.heap[g]?=some o∧¬ A3 g∧¬ MuR C rv g)
 (hc:NdrC C.lib A3 wx (fun i=>(#[c0,c1,c2]:Array Value).getD i undef) t):
 CutE C A3 wx rv left' vals (ns ++ [t]) K v u G ((((w8.setCell ⟨g8,ns.length * 3,none⟩ c0).setCell ⟨g8,ns.length * 3+1,none⟩ c1).setCell ⟨g8,ns.length * 3+2,none⟩ c2).setCell ⟨C.N,2,none⟩ (.slice (some ⟨g8,0,none⟩) (ns.length+1) c8))∧
 CutE C A3 wx rv left' vals (ns ++ [t]) K v u G ((((w8.setCell ⟨C.N,2,none⟩ (.slice (some ⟨g8,0,none⟩) (ns.length+1) c8)).setCell ⟨g8,ns.length * 3,none⟩ c0).setCell ⟨g8,ns.length * 3+1,none⟩ c1).setCell ⟨g8,ns.length * 3+2,none⟩ c2):=by
 have h:=push_RO hs7 hown hg8 hn (t:=t) (c0:=c0) (c1:=c1) (c2:=c2) (hc.stays ⟨hb.size,fun b h a=>⟨hb.block b h,.inl a⟩⟩)
 exact ⟨cut_n hs hv hG hb (Nat.le_refl _) h.1,cut_n hs hv hG hb (Nat.le_refl _) h.2⟩
end Go.Proofs.YtjhimhlebbamoaaDoor
/- The reference of layer 43:a call. -/
namespace Go.Proofs.YtjhimhlebbamoaaDoor
open Go.RowKit
theorem to_norm {lib:List Fn} (hv:(validE lib).2=0) {i:Nat} (hi:i < lib.length):ToOks 0 (normF lib (at' lib i)).temps (normF lib (at' lib i)).body:=by
 have h:=valid_ok hv hi
 have hp:=pars_names h.pars
 have hsz:=h.size
 exact expr_to (fun j hj=>pars_le (valid_ok hv hj).pars) _ (at' lib i).body _ (parsEnv (at' lib i).params) [] (Nat.le_refl _) ⟨h.form,h.check,agree_pars _ hp,fun j hj=>by simp at hj,by simp;omega⟩
theorem clean_cleanR (v:Vl):cleanV (cleanV v)=cleanV v:=by
 cases h:v.list <;> simp [cleanV,h]
theorem results_two {P:Program} {fn:Func} {p q r:Tmp} {ty ty2:TypeId} (h:fn.results=#[.cell p ty,.cell q ty2,.tmp r]) (tmps:Array Value) (w:World) (g g2:Nat) (t t2:TypeId) (cs cs2:Array Value) (fr fr2:Nat × Nat) (d d2:TypeDesc) (v3:Value)
 (hp:tmps.getD p undef=.pointer (some ⟨g,0,none⟩)) (hg:w.heap[g]?=some (.cells cs t fr)) (hq:tmps.getD q undef=.pointer (some ⟨g2,0,none⟩)) (hg2:w.heap[g2]?=some (.cells cs2 t2 fr2)) (hr:tmps.getD r undef=v3)
 (hu:P.underlying ty=some d) (hd:(match d with|.struct _|.array _ _=>true|_=>false)=true) (hi:(P.info? ty).map (·.size)=some cs.size)
 (hu2:P.underlying ty2=some d2) (hd2:(match d2 with|.struct _|.array _ _=>true|_=>false)=true) (hi2:(P.info? ty2).map (·.size)=some cs2.size):
 (results fn tmps).run P w=.ok (.tuple #[.agg cs,.agg cs2,v3]) w:=by
 have hp':tmps[p]?.getD undef=.pointer (some ⟨g,0,none⟩):=by simpa using hp
 have hq':tmps[q]?.getD undef=.pointer (some ⟨g2,0,none⟩):=by simpa using hq
 have hr':tmps[r]?.getD undef=v3:=by simpa using hr
 simp [results,h,hp',hq',hr',asAddr,run_loadVar_row w g t ty cs fr d hg hu hd hi,run_loadVar_row w g2 t2 ty2 cs2 fr2 d2 hg2 hu2 hd2 hi2]
theorem field_v43 (a b c:Value) (w:World):(Instr.field 96 (.agg #[a,b,c]) 2).run Tryd.prog w=.ok c w:=by kernel_rfl
theorem Keeps.oldS {w w1 w2:World} {S S' T:Nat→Prop} (h1:Keeps w w1 S') (h2:Keeps w1 w2 T) (hT:∀ k,k < w.heap.size→T k→S k) (hS:∀ k,k < w.heap.size→S' k→S k):Keeps w w2 S:=
 ⟨h2.os.trans h1.os,h2.tape.trans h1.tape,h2.output.trans h1.output,Nat.le_trans h1.size h2.size,fun b hb n=>(h2.block b (Nat.lt_of_lt_of_le hb h1.size) (fun e=>n (hT b hb e))).trans (h1.block b hb (fun e=>n (hS b hb e)))⟩
structure ALc (C:RC) (A:Nat→Prop) (W:World) (ps:List Par) (ags:List Vl) (left:Int) (k:Nat) (wr:World):Prop where
 st:RSt C A wr (.slice none 0 0) left (bindPars (ps.take k) (ags.take k)) [] k
 step:RStep C A W (.slice none 0 0) A wr (.slice none 0 0)
theorem ALc.next {C:RC} {A:Nat→Prop} {W:World} {ps:List Par} {ags:List Vl} {left:Int} {k:Nat} {wr:World} (h:ALc C A W ps ags left k wr) (hal:ags.length=ps.length) (hk:k < ps.length) (hn:∀ p ∈ ps,nameB p.name=true) (hp8:ps.length≤8) {v:Value} {u:Vl} (hv:VlAt A wr v u) (hu:cleanV u=cleanV (at' ags k)) (hs:(at' ps k).name.size≤maxLen):
 ∃ w',(Instr.mapUpdate 137 (.map (some C.M)) (.string (at' ps k).name) v).run Tryd.prog wr.drew=.ok () w'∧ALc C A W ps ags left (k+1) w':=by
 have hb:Below wr.heap.size wr wr.drew:=bel_drew (Below.refl _ _)
 obtain ⟨w',hr,h1,h2⟩:=(h.st.below hb).store hs (by unfold maxLen;omega) (hv.stays (Stays.of_below hb)) hu (fun j hj e=>absurd e (old_name (hn _ (at_mem hk)) 0 j (Nat.zero_le _)))
 exact ⟨w',hr,by rw [bind_snoc hal hk];exact h1,(h.step.trans (RStep.below hb)).trans h2⟩
structure TLp (C:RC) (w5:World) (rv:Value) (temps:List Par) (vals:VEnv) (k:Nat) (wq:World):Prop where
 kp:Keeps w5 wq (fun j=>j=C.N)
 nb:wq.heap[C.N]?=some (.cells #[.int .i64 C.f,.int .i64 ((k:Int)+sumI ((temps.take k).map (tempN vals))),rv] 49 (0,0))
theorem take_map_sumR (l:List Par) (v:VEnv) {k:Nat} (hk:k < l.length):sumI ((l.take (k+1)).map (tempN v))=sumI ((l.take k).map (tempN v))+tempN v (at' l k):=by
 rw [List.map_take,List.map_take,sumI_take _ _ (by simpa using hk),at_map _ hk]
theorem TLp.one {C:RC} {w5:World} {rv:Value} {temps:List Par} {vals:VEnv} {k:Nat} {wq:World} (h:TLp C w5 rv temps vals k wq) (hN:C.N < w5.heap.size) (X:Obj) (y:Value):
 Keeps w5 ((wq.alloc X).setCell ⟨C.N,1,none⟩ y) (fun j=>j=C.N)∧((wq.alloc X).setCell ⟨C.N,1,none⟩ y).heap[C.N]?=some (.cells #[.int .i64 C.f,y,rv] 49 (0,0)):=by
 have hb:Below wq.heap.size wq (wq.alloc X):=bel_alloc (Below.refl _ _)
 refine ⟨(h.kp.same (Keeps.of_below _ hb)).same (keeps_set _ C.N 1 y),?_⟩
 have he:=heap_setCell_same (wq.alloc X) C.N 1 _ _ y (blk_below hb h.nb)
 simpa only [List.setIfInBounds_toArray,List.set_cons_zero,List.set_cons_succ] using he
theorem TLp.next1 {C:RC} {w5:World} {rv:Value} {temps:List Par} {vals:VEnv} {k:Nat} {wq:World} (h:TLp C w5 rv temps vals k wq) (hN:C.N < w5.heap.size) (hk:k < temps.length) (hl:(at' temps k).list=false) (X:Obj):
 TLp C w5 rv temps vals (k+1) ((wq.alloc X).setCell ⟨C.N,1,none⟩ (.int .i64 ((k:Int)+sumI ((temps.take k).map (tempN vals))+1))):=by
 obtain ⟨h1,h2⟩:=h.one hN X (.int .i64 ((k:Int)+sumI ((temps.take k).map (tempN vals))+1))
 refine ⟨h1,?_⟩
 rw [h2,take_map_sumR _ _ hk,tempN,if_neg (by rw [hl];simp)]
 congr 6;push_cast;omega
theorem TLp.next2 {C:RC} {w5:World} {rv:Value} {temps:List Par} {vals:VEnv} {k:Nat} {wq:World} (h:TLp C w5 rv temps vals k wq) (hN:C.N < w5.heap.size) (hk:k < temps.length) (hl:(at' temps k).list=true) (X:Obj) {n:Nat} (hn:n=(vals (at' temps k).name).l.length):
 TLp C w5 rv temps vals (k+1) (((wq.alloc X).setCell ⟨C.N,1,none⟩ (.int .i64 ((k:Int)+sumI ((temps.take k).map (tempN vals))+1))).setCell ⟨C.N,1,none⟩ (.int .i64 ((k:Int)+sumI ((temps.take k).map (tempN vals))+1+(n:Int)))):=by
 obtain ⟨h1,h2⟩:=h.one hN X (.int .i64 ((k:Int)+sumI ((temps.take k).map (tempN vals))+1))
 refine ⟨h1.same (keeps_set _ C.N 1 _),?_⟩
 have he:=heap_setCell_same _ C.N 1 _ _ (.int .i64 ((k:Int)+sumI ((temps.take k).map (tempN vals))+1+(n:Int))) h2
 simp only [List.setIfInBounds_toArray,List.set_cons_zero,List.set_cons_succ] at he
 rw [he,take_map_sumR _ _ hk,tempN,if_pos hl,hn]
 congr 6;push_cast;omega
theorem sumI_leR {B:Int}:∀ l:List Int,(∀ x ∈ l,x≤B)→sumI l≤l.length * B
 | [],_=>by simp [sumI]
 | x :: r,h=>by
   have h1:=h x (List.mem_cons_self ..)
   have h2:=sumI_leR r (fun y hy=>h y (List.mem_cons_of_mem _ hy))
   rw [sumI,List.length_cons]
   push_cast
   rw [Int.add_mul,Int.one_mul];omega
theorem temps_le (temps:List Par) (vals:VEnv) (k:Nat) (hk:k≤temps.length) (ht:temps.length≤10000) (hl:∀ s,(vals s).l.length≤300000):0≤sumI ((temps.take k).map (tempN vals))∧sumI ((temps.take k).map (tempN vals))≤3000000000:=by
 constructor
 · refine sumI_nonneg _ (fun z hz=>?_)
   obtain ⟨p,_,rfl⟩:=List.mem_map.1 hz
   exact tempN_nonneg _ _
 · have h:=sumI_leR (B:=300000) ((temps.take k).map (tempN vals)) (fun z hz=>by
    obtain ⟨p,_,rfl⟩:=List.mem_map.1 hz
    unfold tempN
    split
    · have:=hl p.name;omega
    · omega)
   have hlen:(((temps.take k).map (tempN vals)).length:Int)≤10000:=by simp;omega
   omega
theorem TLp.look {C:RC} {A:Nat→Prop} {w5:World} {rv:Value} {left:Int} {vals:VEnv} {ns:List Tr} {K:Nat} {k:Nat} {w7:World} (hs:RSt C A w5 rv left vals ns K) (hk7:Keeps w5 w7 (fun j=>j=C.N)) (hk:k < C.ts.length) (htn:TNamed C.ts) (hsz:(tname k).size≤maxLen):
 ∃ v u,(Instr.lookup 137 (.map (some C.M)) (.string (at' C.ts k).name) false).run Tryd.prog w7=.ok v w7∧VlAt A w7 v u∧((at' C.ts k).list=true→u.l.length=(vals (at' C.ts k).name).l.length):=
 (hs.mp.stays (hk7.stays fun j a _ e=>hs.mutA j (.inr (.inr (.inl e))) a) (hk7.block _ hs.mp.lt hs.dMN)).temp hk (htn k hk) hsz
theorem two_boxes {wq:World} {g6 g7 t6 t7:Nat} (hne:g6≠g7) {p0 p1 p2 q0 q1 q2:Value} (h6:wq.heap[g6]?=some (.cells #[p0,p1,p2] t6 (0,0))) (h7:wq.heap[g7]?=some (.cells #[q0,q1,q2] t7 (0,0))) (a0 a1 a2 n0 n1 n2:Value):
 ((((((wq.setCell ⟨g6,0,none⟩ a0).setCell ⟨g6,1,none⟩ a1).setCell ⟨g6,2,none⟩ a2).setCell ⟨g7,0,none⟩ n0).setCell ⟨g7,1,none⟩ n1).setCell ⟨g7,2,none⟩ n2).heap[g6]?=some (.cells #[a0,a1,a2] t6 (0,0))∧
 ((((((wq.setCell ⟨g6,0,none⟩ a0).setCell ⟨g6,1,none⟩ a1).setCell ⟨g6,2,none⟩ a2).setCell ⟨g7,0,none⟩ n0).setCell ⟨g7,1,none⟩ n1).setCell ⟨g7,2,none⟩ n2).heap[g7]?=some (.cells #[n0,n1,n2] t7 (0,0))∧
 Keeps wq ((((((wq.setCell ⟨g6,0,none⟩ a0).setCell ⟨g6,1,none⟩ a1).setCell ⟨g6,2,none⟩ a2).setCell ⟨g7,0,none⟩ n0).setCell ⟨g7,1,none⟩ n1).setCell ⟨g7,2,none⟩ n2) (fun j=>j=g6∨j=g7):=
 ⟨blk_set (blk_set (blk_set (set3 h6 _ _ _) hne) hne) hne,set3 (blk_set (blk_set (blk_set h7 (Ne.symm hne)) (Ne.symm hne)) (Ne.symm hne)) _ _ _,
   ((keeps_set3 wq g6 a0 a1 a2).mono (fun _ e=>.inl e)).same ((keeps_set3 _ g7 n0 n1 n2).mono (fun _ e=>.inr e))⟩
theorem af43 {A:Nat→Prop} {w:World} {b off lc fi:Nat} {lib:List Fn} {g:AFn} (h:AFnsAt A w (.slice (some ⟨b,off,none⟩) lib.length lc) (normL lib)) (hfi:fi < lib.length) (hg:g=normF lib (at' lib fi)):
 ∃ pa pc ta tc ba bc,w.cell? ⟨b,off+fi * 6+1,none⟩=some (.slice pa g.params.length pc)∧w.cell? ⟨b,off+fi * 6+3,none⟩=some (.slice ta g.temps.length tc)∧w.cell? ⟨b,off+fi * 6+4,none⟩=some (.slice ba g.body.length bc)∧w.cell? ⟨b,off+fi * 6+5,none⟩=some (.string g.result)∧
   ParsAt A w (.slice pa g.params.length pc) g.params∧ParsAt A w (.slice ta g.temps.length tc) g.temps∧BdsAt A w (.slice ba g.body.length bc) g.body∧g.result.size≤maxLen∧lib.length≤lc:=by
 have hnl:(normL lib).length=lib.length:=by simp [normL]
 have hat:at' (normL lib) fi=g:=by rw [hg];exact at_map _ hfi
 obtain ⟨b',off',cap,pa,pc,ta,tc,ba,bc,he,hb,hcap,y0,y1,y2,y3,y4,y5,hpar,htmp,hbod,hs0,hs5⟩:=afn_at h (j:=fi) (by rw [hnl];exact hfi)
 simp only [Value.slice.injEq,Option.some.injEq,Addr.mk.injEq,and_true] at he
 obtain ⟨⟨rfl,rfl⟩,-,rfl⟩:=he
 rw [hat] at y1 y3 y4 y5 hpar htmp hbod hs5
 rw [hnl] at hcap
 exact ⟨pa,pc,ta,tc,ba,bc,y1,y3,y4,y5,hpar,htmp,hbod,hs5,hcap⟩
theorem call_fin {lib:List Fn} {R:Nat} {la:Option Addr} {lc M N g6 g7:Nat} {A A5:Nat→Prop} {w W w5 wq w9:World} {fi:Int} {args calls:List _} {res:Vl} {left left5 lo:Int} {ts:List Par} {vals':VEnv} {K5:Nat} {rv5 vv:Value} {u:Vl} {own:Int}
 (hA:∀ k,A k→k < w.heap.size∧k≠R) (hR:R < w.heap.size) (h6:g6=w.heap.size) (h7:g7=w.heap.size+1) (hN:N=w.heap.size+1+1) (hM:M=w.heap.size+1+1+1) (hW:W.heap.size=w.heap.size+4) (hbW:Below w.heap.size w W)
 (ht:RStep ⟨lib,R,M,N,la,lc,fi,ts⟩ A W (.slice none 0 0) A5 w5 rv5) (hs:RSt ⟨lib,R,M,N,la,lc,fi,ts⟩ A5 w5 rv5 left5 vals' calls K5) (hkq:Keeps w5 wq (fun j=>j=N)) (hk9:Keeps wq w9 (fun j=>j=g6∨j=g7)) (hv:VlAt A5 wq vv u) (hu:cleanV u=res) (how:own=puN lib (.mk fi args res calls)) (hlen:calls.length≤maxLen)
 (hlo:lo≤left5) (hhi:left5≤left) (hlo2:lo=left - costT apI lib (.mk fi args res calls)):
 CPost43 lib R la lc A w (.mk fi args res calls) left (.returned (.tuple #[vv,.agg #[.int .i64 fi,.int .i64 own,rv5],.bool true])) w9:=by
 have hz5:=ht.keeps.size
 have hzq:=hkq.size
 have hz9:=hk9.size
 have hnew:∀ k,A5 k→A k∨W.heap.size≤k:=ht.new
 have hrv:∀ k,rv5.ownBlock=some k→W.heap.size≤k∧k < w5.heap.size:=fun k e=>⟨by
  rcases ht.nrv k e with h|h
  · simp [Value.ownBlock] at h
  · exact h,(hs.row.lt e).2⟩
 have hk59:Keeps w5 w9 (fun j=>j=N∨j=g6∨j=g7):=(hkq.mono (fun j e=>.inl e)).same (hk9.mono (fun j e=>.inr e))
 have hRne:¬ (R=N∨R=g6∨R=g7):=by omega
 have hst:Stays (fun k=>A5 k∨rv5.ownBlock=some k) (fun k=>A k∨w.heap.size≤k∧k < w9.heap.size) w5 w9:=⟨hk59.size,fun b hb a=>by
  have hb2:A b∨W.heap.size≤b:=by
   rcases a with a|a
   · exact hnew b a
   · exact .inr (hrv b a).1
  refine ⟨hk59.block b hb (fun e=>?_),hb2.imp id (fun h=>⟨by omega,by have:=hk59.size;omega⟩)⟩
  rcases hb2 with a2|a2
  · have:=(hA b a2).1;omega
  · omega⟩
 have hst9:Stays A5 (fun k=>A k∨w.heap.size≤k∧k < w9.heap.size) wq w9:=⟨hz9,fun b hb a=>by
  have hb2:=hnew b a
  have hl:b < w5.heap.size:=hs.alt b a
  refine ⟨hk9.block b hb (fun e=>?_),hb2.imp id (fun h=>⟨by omega,by omega⟩)⟩
  rcases hb2 with a2|a2
  · have:=(hA b a2).1;omega
  · omega⟩
 obtain ⟨ra,rc,hrf⟩:=hs.row.form
 have hnd:=nds_rows.2 (hs.row.shut (A:=fun k=>A5 k∨rv5.ownBlock=some k) (fun k a=>.inl a) (fun k e=>.inr e) hlen)
 subst how
 subst hrf
 refine ⟨vv,_,u,left5,rfl,hv.stays hst9,hu,⟨ra,rc,rfl,NdsAt.stays hst hnd⟩,?_,(hk59.block R (Nat.lt_of_lt_of_le hR (by omega)) hRne).trans hs.rb,by rw [← hlo2];exact hlo,hhi⟩
 have h1:Keeps w W (fun _=>False):=Keeps.of_below _ hbW
 refine (h1.oldS (S:=fun k=>k=R) ht.keeps (fun k hk e=>?_) (fun _ _ e=>e.elim)).oldS hk59 (fun k hk e=>by omega) (fun k _ e=>e)
 rcases e with e|e|e|e
 · exact e
 · have e:k=M:=e;omega
 · have e:k=N:=e;omega
 · simp [Value.ownBlock] at e
end Go.Proofs.YtjhimhlebbamoaaDoor
