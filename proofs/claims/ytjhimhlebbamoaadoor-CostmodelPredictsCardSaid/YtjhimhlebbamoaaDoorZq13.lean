/- Contracts and plain lemmas (FcaA, FcaB, RowSetT, FexA, PPred): no statement of the seat is proved here. -/
import Derived.Test.YtjhimhlebbamoaaDoorZq11
import Derived.Test.YtjhimhlebbamoaaDoorZq09
import Derived.Test.YtjhimhlebbamoaaDoorZq07
/- (*evaluator).call:what it computes,and its state. No function of the program is walked here. -/
set_option linter.unusedSimpArgs false
set_option linter.unusedVariables false
set_option linter.unusedSectionVars false
namespace Go.Proofs.YtjhimhlebbamoaaDoor
open Go.RowKit
structure CR where
 res:Vl
 err:Int
 fuel:Int
 tree:Tr
def callN (ap:Ap) (lib:List Fn) (d:Nat) (f:Int) (args:List Vl) (fuel active:Int):CR:=
 if 30≤active then ⟨noVl,19,fuel,default⟩
 else
  let y:=evalN ap lib d (fnAt lib f).body (bindPars (fnAt lib f).params args) fuel (active+1)
  if y.err≠0 then ⟨noVl,y.err,y.fuel,default⟩ else ⟨cleanV y.val,0,y.fuel,.mk f (args.map cleanV) (cleanV y.val) y.calls⟩
theorem eval_call {d:Nat} {lib:List Fn} {n:Nd} {env:VEnv} {fuel active:Int} (h0:0 < fuel) (h85:n.kind=85):
 evalN apI lib (d+1) n env fuel active=(let r:=evalL (fun n f=>evalN apI lib d n env f active) n.kids (fuel - 1)
  if r.err≠0 then ⟨noVl,r.err,r.fuel,r.calls⟩ else
  let c:=callN apI lib d (findF lib n.name) r.vals r.fuel active
  if c.err≠0 then ⟨noVl,c.err,c.fuel,r.calls⟩ else ⟨c.res,0,c.fuel,r.calls ++ [c.tree]⟩):=by
 obtain ⟨k,num,name,kids⟩:=n
 simp only [Nd.kind,Nd.kids,Nd.name] at *
 subst h85
 rw [evalN,if_neg (by omega),if_neg (by omega),if_neg (by omega),if_neg (by omega),if_neg (by omega)]
 simp only [ne_eq,not_true_eq_false,if_false,callN]
 split
 · rfl
 · split
   · simp
   · split
     · simp
     · simp
theorem evalL_nonneg {g:Nd→Int→ER} (h:∀ n f,0≤f→0≤(g n f).fuel):∀ (l:List Nd) (f:Int),0≤f→0≤(evalL g l f).fuel
 | [],f,hf=>by rw [evalL];exact hf
 | n :: r,f,hf=>by
   rw [evalL]
   simp only
   split
   · exact h n f hf
   · exact evalL_nonneg h r _ (h n f hf)
theorem eval_nonneg (ap:Ap) (lib:List Fn):∀ (d:Nat) (n:Nd) (env:VEnv) (f active:Int),0≤f→0≤(evalN ap lib d n env f active).fuel:=by
 intro d
 induction d with
 | zero=>intro n env f active hf;rw [evalN];exact hf
 | succ d IH=>
   intro n env f active hf
   obtain ⟨k,num,name,kids⟩:=n
   rw [evalN]
   split
   · exact hf
   rename_i h0
   have h1:0≤f - 1:=by omega
   split
   · exact h1
   split
   · exact h1
   split
   · simp only
     have a:=IH (at' kids 0) env (f - 1) active h1
     split
     · exact a
     · exact IH _ _ _ _ a
   split
   · simp only
     have a:=IH (at' kids 0) env (f - 1) active h1
     split
     · exact a
     · exact IH _ _ _ _ a
   · simp only
     have a:=evalL_nonneg (g:=fun n f=>evalN ap lib d n env f active) (fun n f hf=>IH n env f active hf) kids (f - 1) h1
     split
     · exact a
     split
     · exact a
     split
     · exact a
     · have b:=IH (fnAt lib (findF lib name)).body (bindPars (fnAt lib (findF lib name)).params (evalL (fun n f=>evalN ap lib d n env f active) kids (f - 1)).vals) _ (active+1) a
       split
       · exact b
       · exact b
theorem eval_few (lib:List Fn) (d:Nat) (n:Nd) (env:VEnv) (f active:Int) (h:0≤active∧active≤30) (hf:f≤1000000):(evalN apI lib d n env f active).calls.length≤1000000:=by
 rcases Int.lt_or_le 0 f with h0|h0
 · have h1:=eval_left lib d n env f active h
   have h2:=eval_nonneg apI lib d n env f active (by omega)
   omega
 · cases d with
   | zero=>rw [evalN];simp
   | succ d=>
     obtain ⟨k,num,name,kids⟩:=n
     rw [evalN,if_pos h0];simp
def TreeV (C:EC) (A:Nat→Prop) (w:World) (v:Value) (X:CR):Prop:=
 ∃ (f0:Int) (a1:Option Addr) (n1 k1:Nat) (a:Option Addr) (c:Nat) (a5:Option Addr) (n5 k5:Nat),v=.agg #[.int .i64 f0,.slice a1 n1 k1,.bool X.res.list,.int .i64 X.res.n,.slice a X.res.l.length c,.slice a5 n5 k5]∧VlAt A w (.agg #[.bool X.res.list,.int .i64 X.res.n,.slice a X.res.l.length c]) X.res∧
   (X.err=0→C.tr=true→TrC A w (fun i=>#[.int .i64 f0,.slice a1 n1 k1,.bool X.res.list,.int .i64 X.res.n,.slice a X.res.l.length c,.slice a5 n5 k5].getD i undef) X.tree)
theorem tree_no {C:EC} {A:Nat→Prop} (w:World) {X:CR} (hr:X.res=noVl) (he:X.err≠0):TreeV C A w (.agg #[.int .i64 0,.slice none 0 0,.bool false,.int .i64 0,.slice none 0 0,.slice none 0 0]) X:=
 ⟨_,_,_,_,none,0,_,_,_,by rw [hr];rfl,by rw [hr];exact vl_no w,fun e=>absurd e he⟩
def CPost (C:EC) (cb:Nat) (A:Nat→Prop) (w:World) (rv:Value) (ts:List Tr) (active:Int) (X:CR) (e:Ending) (w':World):Prop:=
 ∃ (A':Nat→Prop) (v:Value),e=.returned (.tuple #[v,.int .i64 X.err])∧TreeV C A' w' v X∧EvSt C cb A' w' rv ts X.fuel active∧EStep C cb A w rv A' w' rv
def XCa (d:Nat):Prop:=∀ (C:EC) (f:Int) (av:Value) (args:List Vl) (cb:Nat) (A:Nat→Prop) (w:World) (rv:Value) (ts:List Tr) (fuel active:Int),fuel.toNat < d→fuel≤1000000→0≤active∧active≤30→0≤f→f.toNat < C.lib.length→args.length=(fnAt C.lib f).params.length→(∀ a ∈ args,VLen a)→
 RowsAt VlE A w av args→EvSt C cb A w rv ts fuel active→
 Calls Tryd.prog 51 #[.pointer (some ⟨C.ev,0,none⟩),.int .i64 f,av] w (CPost C cb A w rv ts active (callN apI C.lib d f args fuel active))
theorem EvSt.setActive {C:EC} {cb:Nat} {A:Nat→Prop} {w:World} {rv:Value} {ts:List Tr} {fuel active:Int} (h:EvSt C cb A w rv ts fuel active) (m:Int):EvSt C cb A (w.setCell ⟨C.ev,2,none⟩ (.int .i64 m)) rv ts fuel m:=by
 have hk:=keeps_set w C.ev 2 (.int .i64 m)
 have hA:∀ k,A k→¬ k=C.ev:=fun k a e=>h.mutA k (.inl e) a
 have he:=heap_setCell_same w C.ev 2 _ _ (.int .i64 m) h.ev
 exact {
  ev:=by simpa only [List.setIfInBounds_toArray,List.set_cons_zero,List.set_cons_succ] using he
  cbk:=(hk.block _ h.cblt (fun e=>h.ne e.symm)).trans h.cbk
  row:=h.row.keeps hk (fun k e e2=>h.rne (e2 ▸ e)) (fun k _ a=>hA k a)
  lib:=h.lib.stays (hk.stays fun k a _=>hA k a)
  alt:=fun k a=>Nat.lt_of_lt_of_le (h.alt k a) hk.size
  mutA:=h.mutA
  ne:=h.ne
  rne:=h.rne
  rnc:=h.rnc }
structure EvS0 (C:EC) (A:Nat→Prop) (w:World) (fuel active:Int):Prop where
 ev:w.heap[C.ev]?=some (.cells #[.slice C.la C.lib.length C.lc,.int .i64 fuel,.int .i64 active,.bool C.tr] 88 (0,0))
 lib:FnsAt A w (.slice C.la C.lib.length C.lc) C.lib
 alt:∀ k,A k→k < w.heap.size
 mutA:∀ k,MuE C C.ev (.slice none 0 0) k→¬ A k
abbrev EStp0 (C:EC) (A:Nat→Prop) (w:World) (A':Nat→Prop) (w':World):Prop:=EStep C C.ev A w (.slice none 0 0) A' w' (.slice none 0 0)
theorem mu0 {C:EC} {k:Nat} (h:MuE C C.ev (.slice none 0 0) k):k=C.ev:=by
 rcases h with h|h|h
 · exact h
 · exact h
 · cases h
theorem EvSt.s0 {C:EC} {cb:Nat} {A:Nat→Prop} {w:World} {rv:Value} {ts:List Tr} {fuel active:Int} (h:EvSt C cb A w rv ts fuel active):EvS0 C A w fuel active:=
 ⟨h.ev,h.lib,h.alt,fun k m=>h.mutA k (.inl (mu0 m))⟩
theorem EvS0.evlt {C:EC} {A:Nat→Prop} {w:World} {fuel active:Int} (h:EvS0 C A w fuel active):C.ev < w.heap.size:=by
 have h:=h.ev;rw [Array.getElem?_eq_some_iff] at h;exact h.1
theorem EvS0.mlt {C:EC} {A:Nat→Prop} {w:World} {fuel active:Int} (h:EvS0 C A w fuel active) {k:Nat} (m:MuE C C.ev (.slice none 0 0) k):k < w.heap.size:=by
 rw [mu0 m];exact h.evlt
theorem EvS0.keeps {C:EC} {A:Nat→Prop} {w w':World} {fuel active:Int} {S:Nat→Prop} (h:EvS0 C A w fuel active) (hk:Keeps w w' S) (hA:∀ k,A k→¬ S k) (hM:∀ k,MuE C C.ev (.slice none 0 0) k→¬ S k):EvS0 C A w' fuel active:=
 ⟨(hk.block _ h.evlt (hM _ (.inl rfl))).trans h.ev,h.lib.stays (hk.stays fun k a _=>hA k a),fun k a=>Nat.lt_of_lt_of_le (h.alt k a) hk.size,h.mutA⟩
theorem EvS0.below {C:EC} {A:Nat→Prop} {w w':World} {fuel active:Int} (h:EvS0 C A w fuel active) (hb:Below w.heap.size w w'):EvS0 C A w' fuel active:=
 h.keeps (Keeps.of_below (fun _=>False) hb) (fun _ _ e=>e) (fun _ _ e=>e)
theorem EvS0.more {C:EC} {A A':Nat→Prop} {w:World} {fuel active:Int} (h:EvS0 C A w fuel active) (h1:∀ k,A k→A' k) (h2:∀ k,A' k→A k∨k < w.heap.size∧¬ MuE C C.ev (.slice none 0 0) k):EvS0 C A' w fuel active:=
 ⟨h.ev,h.lib.stays ⟨Nat.le_refl _,fun b _ a=>⟨rfl,h1 b a⟩⟩,fun k a=>by
   rcases h2 k a with a|a
   · exact h.alt k a
   · exact a.1,fun k m a=>by
   rcases h2 k a with a|a
   · exact h.mutA k m a
   · exact a.2 m⟩
theorem EvS0.stays {C:EC} {A A':Nat→Prop} {w w':World} {fuel active:Int} (h:EvS0 C A w fuel active) (hs:EStp0 C A w A' w'):Stays A A' w w':=
 ⟨hs.keeps.size,fun b hb a=>⟨hs.keeps.block b hb (fun m=>h.mutA b m a),hs.up b a⟩⟩
theorem EvS0.setActive {C:EC} {A:Nat→Prop} {w:World} {fuel active:Int} (h:EvS0 C A w fuel active) (m:Int):EvS0 C A (w.setCell ⟨C.ev,2,none⟩ (.int .i64 m)) fuel m:=by
 have hk:=keeps_set w C.ev 2 (.int .i64 m)
 have hA:∀ k,A k→¬ k=C.ev:=fun k a e=>h.mutA k (.inl e) a
 have he:=heap_setCell_same w C.ev 2 _ _ (.int .i64 m) h.ev
 exact ⟨by simpa only [List.setIfInBounds_toArray,List.set_cons_zero,List.set_cons_succ] using he,h.lib.stays (hk.stays fun k a _=>hA k a),fun k a=>Nat.lt_of_lt_of_le (h.alt k a) hk.size,h.mutA⟩
def C0Post (C:EC) (A:Nat→Prop) (w:World) (active:Int) (X:CR) (e:Ending) (w':World):Prop:=
 ∃ (A':Nat→Prop) (v:Value),e=.returned (.tuple #[v,.int .i64 X.err])∧TreeV C A' w' v X∧EvS0 C A' w' X.fuel active∧EStp0 C A w A' w'
theorem EvSt.lift {C:EC} {cb:Nat} {A A':Nat→Prop} {w w':World} {rv:Value} {ts:List Tr} {fuel f' active:Int} (h:EvSt C cb A w rv ts fuel active) (hs:EvS0 C A' w' f' active) (ht:EStp0 C A w A' w'):EvSt C cb A' w' rv ts f' active∧EStep C cb A w rv A' w' rv:=by
 have hA:∀ k,k < w.heap.size→¬ A k→¬ A' k:=fun k hk a a'=>by
  rcases ht.new k a' with b|b
  · exact a b
  · omega
 have hm:∀ k,MuE C cb rv k→¬ A' k:=fun k m=>by
  exact hA k (h.mlt m) (h.mutA k m)
 refine ⟨{
  ev:=hs.ev
  cbk:=(ht.keeps.block _ h.cblt (fun m=>h.ne (mu0 m).symm)).trans h.cbk
  row:=(h.row.keeps ht.keeps (fun k e m=>h.rne (mu0 m ▸ e)) (fun k _ a m=>h.mutA k (.inl (mu0 m)) a)).mono (fun k a=>ht.up k a)
  lib:=hs.lib
  alt:=hs.alt
  mutA:=hm
  ne:=h.ne
  rne:=h.rne
  rnc:=h.rnc },⟨ht.keeps.mono (fun k m=>.inl (mu0 m)),ht.up,ht.new,NewOr.refl _ _⟩⟩
theorem call_in {C:EC} {A:Nat→Prop} {w w2:World} {fuel active:Int} (h:EvS0 C A w fuel active) (hb:Below w.heap.size w w2) {mb g:Nat} (hm:w.heap.size≤mb∧mb < w2.heap.size) (hg:w.heap.size≤g) (hgc:w2.heap[g]?=some (.cells #[.slice none 0 0] 41 (0,0))) (hne:mb≠g):
 EvSt C g (fun k=>A k∨k=mb) (w2.setCell ⟨C.ev,2,none⟩ (.int .i64 (active+1))) (.slice none 0 0) [] fuel (active+1):=by
 have hev:=h.evlt
 have hevA:¬ (A C.ev∨C.ev=mb):=fun a=>by
  rcases a with a|a
  · exact h.mutA _ (.inl rfl) a
  · omega
 have hst:Stays A (fun k=>A k∨k=mb) w w2:=⟨hb.size,fun b hb' a=>⟨hb.block b hb',.inl a⟩⟩
 have h2:EvSt C g (fun k=>A k∨k=mb) w2 (.slice none 0 0) [] fuel active:={
  ev:=blk_below hb h.ev
  cbk:=hgc
  row:=RowsOwn.nil _ _ _ _ _
  lib:=h.lib.stays hst
  alt:=fun k a=>by
   rcases a with a|rfl
   · exact Nat.lt_of_lt_of_le (h.alt k a) hb.size
   · exact hm.2
  mutA:=fun k m a=>by
   rcases m with rfl|rfl|e
   · exact hevA a
   · rcases a with a|a
     · have:=h.alt _ a;omega
     · exact hne a.symm
   · cases e
  ne:=by omega
  rne:=nofun
  rnc:=nofun }
 exact h2.setActive (active+1)
theorem call_keeps {C:EC} {A A2:Nat→Prop} {w w2 w3 w4:World} {rv2:Value} {fuel active:Int} (h:EvS0 C A w fuel active) (hb:Below w.heap.size w w2) {mb g:Nat} (hg:w.heap.size≤g) (hk2:Keeps w2 w3 (fun k=>k=C.ev)) (ht:EStep C g (fun k=>A k∨k=mb) w3 (.slice none 0 0) A2 w4 rv2):
 Keeps w w4 (fun k=>k=C.ev):=by
 refine ((Keeps.of_below (fun k=>k=C.ev) hb).same hk2).trans ht.keeps (fun k m=>?_)
 rcases m with e|e|e
 · exact .inl e
 · exact .inr (by omega)
 · cases e
theorem call_out {C:EC} {A A2:Nat→Prop} {w w2 w3 w4:World} {rv2:Value} {cs:List Tr} {fuel active active0 f':Int} (h:EvS0 C A w fuel active0) (hb:Below w.heap.size w w2) {mb g:Nat} (hm:w.heap.size≤mb) (hg:w.heap.size≤g) (hk2:Keeps w2 w3 (fun k=>k=C.ev)) (hs:EvSt C g A2 w4 rv2 cs f' active) (ht:EStep C g (fun k=>A k∨k=mb) w3 (.slice none 0 0) A2 w4 rv2):
 EvS0 C A2 w4 f' active∧EStp0 C A w A2 w4∧(∀ k,rv2.ownBlock=some k→w2.heap.size≤k∧k≠g∧¬ A2 k):=by
 have hk:=call_keeps h hb hg hk2 ht
 have h3:w.heap.size≤w3.heap.size:=Nat.le_trans hb.size hk2.size
 have hnew:∀ k,A2 k→A k∨w.heap.size≤k:=fun k a=>by
  rcases ht.new k a with (a|a)|a
  · exact .inl a
  · exact .inr (by omega)
  · exact .inr (by omega)
 have hmA:∀ k,MuE C C.ev (.slice none 0 0) k→¬ A2 k:=fun k m a=>by
  have:=h.mlt m
  rcases hnew k a with a|a
  · exact h.mutA k m a
  · omega
 refine ⟨⟨hs.ev,hs.lib,hs.alt,hmA⟩,⟨hk.mono (fun k e=>.inl e),fun k a=>ht.up k (.inl a),hnew,NewOr.refl _ _⟩,fun k e=>?_⟩
 refine ⟨?_,fun e2=>hs.rnc (e2 ▸ e),hs.mutA k (.inr (.inr e))⟩
 rcases ht.nrv k e with e|e
 · cases e
 · exact Nat.le_trans hk2.size e
theorem call_own {C:EC} {A A2:Nat→Prop} {w3 w4:World} {rv2:Value} {mb g b:Nat} {o:Obj} (ht:EStep C g (fun k=>A k∨k=mb) w3 (.slice none 0 0) A2 w4 rv2) (hb:w3.heap[b]?=some o) (h1:b≠C.ev) (h2:b≠g) (h3:b≠mb) (h4:¬ A b):w4.heap[b]?=some o∧¬ A2 b:=by
 have hlt:b < w3.heap.size:=by rw [Array.getElem?_eq_some_iff] at hb;exact hb.1
 refine ⟨(ht.keeps.block b hlt (fun m=>?_)).trans hb,fun a=>?_⟩
 · rcases m with e|e|e
   · exact h1 e
   · exact h2 e
   · cases e
 · rcases ht.new b a with (a|a)|a
   · exact h4 a
   · exact h3 a
   · omega
theorem own_young {C:EC} {A A1:Nat→Prop} {w w1 w2:World} {f active:Int} {S:Nat→Prop} (h0:EvS0 C A w f active) {f':Int} (hs:EvS0 C A1 w1 f' active) (ht:EStp0 C A w A1 w1) (hk:Keeps w1 w2 S) (hS:∀ k,S k→w.heap.size≤k∧¬ A1 k):
 EvS0 C A1 w2 f' active∧EStp0 C A w A1 w2:=
 ⟨hs.keeps hk (fun k a e=>(hS k e).2 a) (fun k m e=>by have:=h0.mlt m;have:=(hS k e).1;omega),ht.young hk (fun k e=>(hS k e).1)⟩
theorem kl_new0 {C:EC} {A A1:Nat→Prop} {w w1 w5:World} {f active:Int} (hs:EvS0 C A1 w1 f active) (ht:EStp0 C A w A1 w1) (hb:Below w1.heap.size w1 w5):
 EvS0 C (NewS A1 w1 w5) w5 f active∧EStp0 C A w (NewS A1 w1 w5) w5∧Stays (NewB A1 w1) (NewS A1 w1 w5) w5 w5:=by
 have h0:=ht.keeps.size
 refine ⟨(hs.below hb).more (fun k a=>.inl a) (fun k a=>?_),(ht.below hb).more (fun k a=>.inl a) (fun k a=>?_),⟨Nat.le_refl _,fun b hb a=>⟨rfl,?_⟩⟩⟩
 · rcases a with a|a
   · exact .inl a
   · exact .inr ⟨a.2,fun m=>by have:=hs.mlt m;omega⟩
 · rcases a with a|a
   · exact .inl a
   · exact .inr (by omega)
 · rcases a with a|a
   · exact .inl a
   · exact .inr ⟨a,hb⟩
end Go.Proofs.YtjhimhlebbamoaaDoor
/- (*evaluator).call:the row of copied arguments under way. No function of the program is walked here. -/
namespace Go.Proofs.YtjhimhlebbamoaaDoor
open Go.RowKit
theorem EStep.setEv {C:EC} {cb:Nat} {A A1:Nat→Prop} {w w1:World} {rv rv1:Value} (h:EStep C cb A w rv A1 w1 rv1) (hev:C.ev < w.heap.size) (j:Nat) (x:Value):EStep C cb A w rv A1 (w1.setCell ⟨C.ev,j,none⟩ x) rv1:=
 ⟨h.keeps.same ((keeps_set w1 C.ev j x).mono fun k e=>.inl e),h.up,h.new,h.nrv⟩
structure AL (W:World) (T B:Nat) (h0 h2 h3 h4:Value) (vals:List Vl) (a:Option Addr) (n c:Nat) (wr:World):Prop where
 t:wr.heap[T]?=some (.cells #[h0,.slice a n c,h2,h3,h4,.slice none 0 0] 43 (0,0))
 row:RowsOwn VlE 40 (Up B) B wr (.slice a n c) vals
 len:n=vals.length
 keeps:Keeps W wr (fun k=>k=T)
 hB:B=W.heap.size
 hT:T < B
theorem AL.size {W:World} {T B:Nat} {h0 h2 h3 h4:Value} {vals:List Vl} {a:Option Addr} {n c:Nat} {wr:World} (h:AL W T B h0 h2 h3 h4 vals a n c wr):B≤wr.heap.size:=by
 have:=h.keeps.size;have:=h.hB;omega
theorem al_start {W:World} {T B:Nat} {h0 h2 h3 h4:Value} (ht:W.heap[T]?=some (.cells #[h0,.slice none 0 0,h2,h3,h4,.slice none 0 0] 43 (0,0))) (hB:B=W.heap.size):AL W T B h0 h2 h3 h4 [] none 0 0 W:=
 ⟨ht,RowsOwn.nil _ _ _ _ _,rfl,Keeps.refl _ _,hB,by rw [Array.getElem?_eq_some_iff] at ht;have:=ht.1;omega⟩
theorem AL.rows {W:World} {T B:Nat} {h0 h2 h3 h4:Value} {vals:List Vl} {a:Option Addr} {n c:Nat} {wr w5:World} {x0 x1 x2:Value} {x:Vl} (h:AL W T B h0 h2 h3 h4 vals a n c wr) (hb:Below wr.heap.size wr w5) (hx:VlAt (Up wr.heap.size) w5 (.agg #[x0,x1,x2]) x):
 RowsOwn VlE 40 (Up B) B (w5.alloc (.cells #[x0,x1,x2] 40)) (.slice a n c) vals∧RowsAt VlE (Up wr.heap.size) (w5.alloc (.cells #[x0,x1,x2] 40)) (.slice (some ⟨w5.heap.size,0,none⟩) 1 1) [x]∧∀ b,b < (w5.alloc (.cells #[x0,x1,x2] 40)).heap.size→Up wr.heap.size b→Up B b∧(Value.slice a n c).ownBlock≠some b:=by
 have hs:=h.size
 refine ⟨h.row.below (bel_alloc hb),?_,fun b _ u=>⟨Nat.le_trans hs u,fun e=>by have:=(h.row.lt e).2;have:wr.heap.size≤b:=u;omega⟩⟩
 obtain ⟨a',c',he,h1,h2'⟩:=hx
 simp only [Value.agg.injEq] at he
 obtain ⟨rfl,rfl,rfl⟩:=he
 refine rows_1 (at_new0 w5 _) hb.size rfl ?_
 have h3:RowsAt IntE (Up wr.heap.size) (w5.alloc (.cells #[.bool x.list,.int .i64 x.n,.slice a' x.l.length c'] 40)) (.slice a' x.l.length c') x.l:=h2'.stays (Stays.of_below (bel_alloc (Below.refl _ _)))
 exact (show VlC _ _ (fun i=>(#[Value.bool x.list,.int .i64 x.n,.slice a' x.l.length c']:Array Value).getD i undef) x from ⟨rfl,rfl,h3,h1⟩)
theorem AL.cloned {W:World} {T B:Nat} {h0 h2 h3 h4:Value} {vals:List Vl} {a:Option Addr} {n c:Nat} {wr w1 w5:World} {x:Vl} {e:Ending} (h:AL W T B h0 h2 h3 h4 vals a n c wr) (hb:Below wr.heap.size wr w1) (hp:ClonePost x w1 e w5):
 ∃ a5 k5,e=.returned (.agg #[.bool (cleanV x).list,.int .i64 (cleanV x).n,.slice a5 (cleanV x).l.length k5])∧Below wr.heap.size wr w5∧Hid (RowsOwn VlE 40 (Up B) B (w5.alloc (.cells #[.bool (cleanV x).list,.int .i64 (cleanV x).n,.slice a5 (cleanV x).l.length k5] 40)) (.slice a n c) vals∧RowsAt VlE (Up wr.heap.size) (w5.alloc (.cells #[.bool (cleanV x).list,.int .i64 (cleanV x).n,.slice a5 (cleanV x).l.length k5] 40)) (.slice (some ⟨w5.heap.size,0,none⟩) 1 1) [cleanV x]∧∀ b,b < (w5.alloc (.cells #[.bool (cleanV x).list,.int .i64 (cleanV x).n,.slice a5 (cleanV x).l.length k5] 40)).heap.size→Up wr.heap.size b→Up B b∧(Value.slice a n c).ownBlock≠some b)∧
   w5.cell? ⟨T,1,none⟩=some (.slice a n c)∧(w5.alloc (.cells #[.bool (cleanV x).list,.int .i64 (cleanV x).n,.slice a5 (cleanV x).l.length k5] 40)).cell? ⟨T,1,none⟩=some (.slice a n c):=by
 obtain ⟨v,rfl,⟨a5,k5,rfl,h1,h2'⟩,hb5⟩:=hp
 have hw5:Below wr.heap.size wr w5:=hb.trans (hb5.mono hb.size)
 exact ⟨a5,k5,rfl,hw5,Lib.hid (h.rows hw5 ⟨a5,k5,rfl,h1,h2'.stays (stays_upup hb.size)⟩),cell_blk (blk_below hw5 h.t) 1 rfl,cell_blk (blk_below (bel_alloc hw5) h.t) 1 rfl⟩
theorem AL.after {W:World} {T B:Nat} {h0 h2 h3 h4:Value} {vals:List Vl} {a:Option Addr} {n c:Nat} {wr w3 w4:World} (h:AL W T B h0 h2 h3 h4 vals a n c wr) (hb:Below wr.heap.size wr w3) (hg:w3.grownBy w4 (Value.slice a n c).ownBlock):
 w4.heap[T]?=some (.cells #[h0,.slice a n c,h2,h3,h4,.slice none 0 0] 43 (0,0))∧Keeps W w4 (fun k=>k=T):=by
 have hs:=hb.size
 have hz:=h.size
 have hT:=h.hT
 have hB:=h.hB
 refine ⟨(hg.block T (by omega) (fun e=>by have:=(h.row.lt e.symm).1;omega)).trans (blk_below hb h.t),?_⟩
 exact (h.keeps.same (Keeps.of_below _ hb)).trans (Keeps.of_grown (S:=fun k=>(Value.slice a n c).ownBlock=some k) hg (fun k e=>.inl e)) (fun k e=>.inr (by have:=(h.row.lt e).1;omega))
theorem set6 {w:World} {b e:Nat} {v0 v1 v2 v3 v4 v5:Value} (h:w.heap[b]?=some (.cells #[v0,v1,v2,v3,v4,v5] e (0,0))) (x0 x1 x2 x3 x4 x5:Value):
 ((((((w.setCell ⟨b,0,none⟩ x0).setCell ⟨b,1,none⟩ x1).setCell ⟨b,2,none⟩ x2).setCell ⟨b,3,none⟩ x3).setCell ⟨b,4,none⟩ x4).setCell ⟨b,5,none⟩ x5).heap[b]?=some (.cells #[x0,x1,x2,x3,x4,x5] e (0,0)):=by
 have h5:=heap_setCell_same _ b 5 _ _ x5 (heap_setCell_same _ b 4 _ _ x4 (heap_setCell_same _ b 3 _ _ x3 (heap_setCell_same _ b 2 _ _ x2 (heap_setCell_same _ b 1 _ _ x1 (heap_setCell_same w b 0 _ _ x0 h)))))
 simpa only [List.setIfInBounds_toArray,List.set_cons_zero,List.set_cons_succ] using h5
theorem keeps_set6 (w:World) (g:Nat) (x0 x1 x2 x3 x4 x5:Value):Keeps w ((((((w.setCell ⟨g,0,none⟩ x0).setCell ⟨g,1,none⟩ x1).setCell ⟨g,2,none⟩ x2).setCell ⟨g,3,none⟩ x3).setCell ⟨g,4,none⟩ x4).setCell ⟨g,5,none⟩ x5) (fun k=>k=g):=
 (((((keeps_set w g 0 x0).same (keeps_set _ g 1 x1)).same (keeps_set _ g 2 x2)).same (keeps_set _ g 3 x3)).same (keeps_set _ g 4 x4)).same (keeps_set _ g 5 x5)
theorem AL.step {W:World} {T B:Nat} {h0 h2 h3 h4:Value} {vals m:List Vl} {a a':Option Addr} {n c c' n':Nat} {wr w4:World} (h:AL W T B h0 h2 h3 h4 vals a n c wr)
 (hm:w4.heap[T]?=some (.cells #[h0,.slice a n c,h2,h3,h4,.slice none 0 0] 43 (0,0))∧Keeps W w4 (fun k=>k=T)) (h4':RowsOwn VlE 40 (Up B) B w4 (.slice a' n' c') (vals ++ m)) (hn:n'=(vals ++ m).length):
 AL W T B h0 h2 h3 h4 (vals ++ m) a' n' c' (w4.setCell ⟨T,1,none⟩ (.slice a' n' c')):=by
 have hT:=h.hT
 have hK:=keeps_set w4 T 1 (.slice a' n' c')
 have hs:=heap_setCell_same w4 T 1 _ _ (.slice a' n' c') hm.1
 exact ⟨by simpa only [List.setIfInBounds_toArray,List.set_cons_zero,List.set_cons_succ] using hs,h4'.keeps hK (fun j e e2=>by have:=(h4'.lt e).1;omega) (fun j _ (u:B≤j) e=>by omega),hn,hm.2.same hK,h.hB,h.hT⟩
def PLoop (A:Nat→Prop) (W1:World) (mb:Nat) (ps:List Par) (args:List Vl) (k:Nat) (wr:World):Prop:=
 k≤ps.length∧Keeps W1 wr (fun j=>j=mb)∧∃ m,SMapLe Tryd.prog 9 wr mb m k∧EnvOf A wr m (bindPars (ps.take k) (args.take k))
theorem bind_snoc {ps:List Par} {args:List Vl} (h:args.length=ps.length) {k:Nat} (hk:k < ps.length):bindPars (ps.take (k+1)) (args.take (k+1))=(bindPars (ps.take k) (args.take k)).put (at' ps k).name (at' args k):=by
 have e1:ps.take (k+1)=ps.take k ++ [at' ps k]:=by rw [List.take_succ_eq_append_getElem hk,at_eq hk]
 have e2:args.take (k+1)=args.take k ++ [at' args k]:=by rw [List.take_succ_eq_append_getElem (by omega),at_eq (by omega)]
 unfold bindPars
 rw [e1,e2,List.zip_append (by simp;omega),List.foldl_append]
 rfl
theorem ploop_next {A:Nat→Prop} {W1 wr w2 w3:World} {mb k:Nat} {ps:List Par} {args:List Vl} {m:ByteArray→Option Value} {u:Value} (hal:args.length=ps.length) (hk:k < ps.length) (hkp:Keeps W1 wr (fun j=>j=mb)) (he:EnvOf A wr m (bindPars (ps.take k) (args.take k))) (hA:∀ j,A j→j < W1.heap.size∧j≠mb) (hb:Below wr.heap.size wr w2) (hu:VlAt A w2 u (at' args k))
 (hm:SMapLe Tryd.prog 9 w3 mb (fun y=>if y=(at' ps k).name then some u else m y) (k+1)) (hg:w2.grownBy w3 (some mb)) (hmb:mb < W1.heap.size):PLoop A W1 mb ps args (k+1) w3:=by
 have hk3:Keeps w2 w3 (fun j=>j=mb):=Keeps.of_grown hg (fun j e=>.inl (by simpa using e.symm))
 have hs3:Stays A A w2 w3:=hk3.stays (fun j a _ e=>(hA j a).2 e)
 refine ⟨hk,(hkp.same (Keeps.of_below _ hb)).same hk3,_,hm,?_⟩
 rw [bind_snoc hal hk]
 exact ((he.stays (Stays.of_below hb)).stays hs3).put _ (hu.stays hs3)
end Go.Proofs.YtjhimhlebbamoaaDoor
/- Rows of call trees of the call's own:a store of a whole element. No function of the program is walked here. -/
namespace Go.Proofs.YtjhimhlebbamoaaDoor
open Go.RowKit
theorem vat_set6 (xs:List Value) (j:Nat) (c0 c1 c2 c3 c4 c5:Value) (h:j * 6+5 < xs.length) (i k:Nat) (hk:k < 6):
 vat ((((((xs.set (j * 6) c0).set (j * 6+1) c1).set (j * 6+2) c2).set (j * 6+3) c3).set (j * 6+4) c4).set (j * 6+5) c5) (i * 6+k)=if i=j then vat [c0,c1,c2,c3,c4,c5] k else vat xs (i * 6+k):=by
 simp only [vat,List.getD_eq_getElem?_getD,List.getElem?_set,List.length_set]
 by_cases e:i=j
 · subst e
   rw [if_pos rfl]
   match k,hk with
   | 0,_=>simp [show i * 6 < xs.length by omega]
   | 1,_=>simp [show i * 6+1 < xs.length by omega]
   | 2,_=>simp [show i * 6+2 < xs.length by omega]
   | 3,_=>simp [show i * 6+3 < xs.length by omega]
   | 4,_=>simp [show i * 6+4 < xs.length by omega]
   | 5,_=>simp [show i * 6+5 < xs.length by omega]
 · rw [if_neg e,if_neg (by omega),if_neg (by omega),if_neg (by omega),if_neg (by omega),if_neg (by omega),if_neg (by omega)]
theorem RowsOwn.setT {D:Nat→Prop} {base:Nat} {w:World} {g n cap:Nat} {l:List Tr} (h:RowsOwn TrE 43 D base w (.slice (some ⟨g,0,none⟩) n cap) l) {j:Nat} (hj:j < l.length) {c0 c1 c2 c3 c4 c5:Value} {x:Tr} (hx:TrC (fun k=>D k∧k≠g) w (fun i=>(#[c0,c1,c2,c3,c4,c5]:Array Value).getD i undef) x):
 RowsOwn TrE 43 D base ((((((w.setCell ⟨g,j * 6,none⟩ c0).setCell ⟨g,j * 6+1,none⟩ c1).setCell ⟨g,j * 6+2,none⟩ c2).setCell ⟨g,j * 6+3,none⟩ c3).setCell ⟨g,j * 6+4,none⟩ c4).setCell ⟨g,j * 6+5,none⟩ c5) (.slice (some ⟨g,0,none⟩) n cap) (l.set j x):=by
 obtain ⟨xs,hr,hf⟩:=h
 obtain ⟨_,_,he⟩:=row_form hr
 simp only [Value.slice.injEq] at he
 obtain ⟨-,rfl,-⟩:=he
 have hr':w.ownsRow base 43 6 (.slice (some ⟨g,0,none⟩) l.length cap) l.length xs:=hr
 have hxl:=hr'.1
 have r4:=row_set (row_set (row_set (row_set (row_set (row_set hr' (j * 6) c0 (by omega)) (j * 6+1) c1 (by omega)) (j * 6+2) c2 (by omega)) (j * 6+3) c3 (by omega)) (j * 6+4) c4 (by omega)) (j * 6+5) c5 (by omega)
 refine ⟨_,by rw [List.length_set];exact r4,fun i hi=>?_⟩
 rw [List.length_set] at hi
 have hK4:=(((((keeps_set w g (j * 6) c0).same (keeps_set _ g (j * 6+1) c1)).same (keeps_set _ g (j * 6+2) c2)).same (keeps_set _ g (j * 6+3) c3)).same (keeps_set _ g (j * 6+4) c4)).same (keeps_set _ g (j * 6+5) c5)
 have hst:Stays (fun k=>D k∧(Value.slice (some ⟨g,0,none⟩) l.length cap).ownBlock≠some k) (fun k=>D k∧(Value.slice (some ⟨g,0,none⟩) l.length cap).ownBlock≠some k) w ((((((w.setCell ⟨g,j * 6,none⟩ c0).setCell ⟨g,j * 6+1,none⟩ c1).setCell ⟨g,j * 6+2,none⟩ c2).setCell ⟨g,j * 6+3,none⟩ c3).setCell ⟨g,j * 6+4,none⟩ c4).setCell ⟨g,j * 6+5,none⟩ c5):=
  hK4.stays (fun k hk _ e=>hk.2 (by simp [Value.ownBlock,e]))
 have hst2:Stays (fun k=>D k∧k≠g) (fun k=>D k∧(Value.slice (some ⟨g,0,none⟩) l.length cap).ownBlock≠some k) w ((((((w.setCell ⟨g,j * 6,none⟩ c0).setCell ⟨g,j * 6+1,none⟩ c1).setCell ⟨g,j * 6+2,none⟩ c2).setCell ⟨g,j * 6+3,none⟩ c3).setCell ⟨g,j * 6+4,none⟩ c4).setCell ⟨g,j * 6+5,none⟩ c5):=
  ⟨hK4.size,fun k hk hd=>⟨hK4.block k hk hd.2,hd.1,fun e=>hd.2 (by simpa [Value.ownBlock] using e.symm)⟩⟩
 by_cases e:i=j
 · subst e
   have h1:at' (l.set i x) i=x:=by simp [at',List.getD_eq_getElem?_getD,hi]
   rw [h1]
   exact (hx.stays hst2).congr (fun k hk=>by
    show vat _ (i * 6+k)=_
    rw [vat_set6 xs i _ _ _ _ _ _ (by omega) i k hk,if_pos rfl]
    match k,hk with
    | 0,_=>rfl
    | 1,_=>rfl
    | 2,_=>rfl
    | 3,_=>rfl
    | 4,_=>rfl
    | 5,_=>rfl)
 · have h1:at' (l.set j x) i=at' l i:=by simp [at',List.getD_eq_getElem?_getD,show ¬ j=i from fun h=>e h.symm]
   rw [h1]
   exact TrC.congr ((hf i hi:TrC _ _ _ _).stays hst) (fun k hk=>by
    show vat _ (i * 6+k)=vat xs (i * 6+k)
    rw [vat_set6 xs j _ _ _ _ _ _ (by omega) i k hk,if_neg e])
theorem RowsOwn.cellT {D:Nat→Prop} {base:Nat} {w:World} {v:Value} {l:List Tr} (h:RowsOwn TrE 43 D base w v l) (hl:0 < l.length):
 ∃ g cap cur,v=.slice (some ⟨g,0,none⟩) l.length cap∧l.length≤cap∧w.heap[g]?=some (.cells cur 43 (0,0))∧cur.size=cap * 6∧base≤g:=by
 obtain ⟨xs,hr,hf⟩:=h
 obtain ⟨g,cap,cur,rfl,hnc,hh,hs,hm,hg,_,_⟩:=row_cell hr hl
 exact ⟨g,cap,cur,rfl,hnc,hh,hs,hg⟩
end Go.Proofs.YtjhimhlebbamoaaDoor
/- The result of (*evaluator).call is kept:the row of calls and its variable. No function of the program is walked here. -/
namespace Go.Proofs.YtjhimhlebbamoaaDoor
open Go.RowKit
theorem EvSt.apart {C:EC} {cb:Nat} {A:Nat→Prop} {w:World} {rv:Value} {ts:List Tr} {f active:Int} (h:EvSt C cb A w rv ts f active):∀ b,b < w.heap.size→A b→A b∧rv.ownBlock≠some b:=fun b _ a=>⟨a,fun e=>h.mutA b (.inr (.inr e)) a⟩
theorem push_lit {C:EC} {cb:Nat} {A:Nat→Prop} {w w7:World} {rv:Value} {ts:List Tr} {f active:Int} {g:Nat} (hs:EvSt C cb A w rv ts f active) (hb:Below w.heap.size w w7) (hg:w7.heap[g]?=some (.cells #[.int .i64 0,.slice none 0 0,.bool false,.int .i64 0,.slice none 0 0,.slice none 0 0] 43 (0,0))) (hge:w.heap.size≤g):
 EvSt C cb (fun k=>A k∨k=g) w7 rv ts f active∧RowsAt TrE (fun k=>A k∨k=g) w7 (.slice (some ⟨g,0,none⟩) 1 1) [default]:=by
 have hlt:g < w7.heap.size:=by rw [Array.getElem?_eq_some_iff] at hg;exact hg.1
 refine ⟨(hs.below hb).more (fun k a=>.inl a) (fun k a=>?_),rows_1 hg (.inr rfl) rfl (show TrC _ _ _ _ from ⟨rfl,RowsAt.nil _ _ _,⟨rfl,rfl,RowsAt.nil _ _ _,in64_0⟩,TrsAt.nil _,in64_0⟩)⟩
 rcases a with a|rfl
 · exact .inl a
 · exact .inr ⟨hlt,fun m=>by have:=hs.mlt m;omega⟩
theorem push_fin {C:EC} {cb:Nat} {A:Nat→Prop} {w w4:World} {rv rv':Value} {ts:List Tr} {t:Tr} {f active:Int} (h:EvSt C cb A w rv ts f active) (hk:Keeps w w4 (fun k=>rv.ownBlock=some k∨rv'.ownBlock=some k∨k=cb)) (hn:NewOr w rv rv') (hown:RowsOwn TrE 43 A 0 w4 rv' (ts ++ [t])) (hcb:w4.heap[cb]?=some (.cells #[rv'] 41 (0,0))):
 EvSt C cb A w4 rv' (ts ++ [t]) f active∧EStep C cb A w rv A w4 rv':=by
 have hx:∀ k,k < w.heap.size→rv'.ownBlock=some k→rv.ownBlock=some k:=fun k hk e=>by
  rcases hn k e with e|e
  · exact e
  · omega
 have hA:∀ k,A k→¬ (rv.ownBlock=some k∨rv'.ownBlock=some k∨k=cb):=fun k a e=>by
  rcases e with e|e|e
  · exact h.mutA k (.inr (.inr e)) a
  · exact h.mutA k (.inr (.inr (hx k (h.alt k a) e))) a
  · exact h.mutA k (.inr (.inl e)) a
 refine ⟨{
  ev:=(hk.block _ h.evlt (fun e=>?_)).trans h.ev
  cbk:=hcb
  row:=hown
  lib:=h.lib.stays (hk.stays fun k a _=>hA k a)
  alt:=fun k a=>Nat.lt_of_lt_of_le (h.alt k a) hk.size
  mutA:=fun k m a=>?_
  ne:=h.ne
  rne:=fun e=>h.rne (hx _ h.evlt e)
  rnc:=fun e=>h.rnc (hx _ h.cblt e) },⟨⟨hk.os,hk.tape,hk.output,hk.size,fun b hb m=>hk.block b hb (fun e=>?_)⟩,fun _ a=>a,fun _ a=>.inl a,hn⟩⟩
 · rcases e with e|e|e
   · exact h.rne e
   · exact h.rne (hx _ h.evlt e)
   · exact h.ne e
 · rcases m with e|e|e
   · exact h.mutA k (.inl e) a
   · exact h.mutA k (.inr (.inl e)) a
   · exact hA k a (.inr (.inl e))
 · rcases e with e|e|e
   · exact m (.inr (.inr e))
   · exact m (.inr (.inr (hx b hb e)))
   · exact m (.inr (.inl e))
theorem snoc_set (ts:List Tr) (t:Tr):(ts ++ [default]).set ts.length t=ts ++ [t]:=by simp
theorem push_A {C:EC} {cb:Nat} {A:Nat→Prop} {w w2:World} {rv:Value} {ts:List Tr} {t:Tr} {f active:Int} {g n cap:Nat} {c0 c1 c2 c3 c4 c5:Value} (h:EvSt C cb A w rv ts f active) (hown:RowsOwn TrE 43 A 0 w2 (.slice (some ⟨g,0,none⟩) n cap) (ts ++ [default])) (hg:w.grownBy w2 rv.ownBlock) (hn:NewOr w rv (.slice (some ⟨g,0,none⟩) n cap)) (ht:TrC A w (fun i=>(#[c0,c1,c2,c3,c4,c5]:Array Value).getD i undef) t):
 EvSt C cb A (((((((w2.setCell ⟨g,ts.length * 6,none⟩ c0).setCell ⟨g,ts.length * 6+1,none⟩ c1).setCell ⟨g,ts.length * 6+2,none⟩ c2).setCell ⟨g,ts.length * 6+3,none⟩ c3).setCell ⟨g,ts.length * 6+4,none⟩ c4).setCell ⟨g,ts.length * 6+5,none⟩ c5).setCell ⟨cb,0,none⟩ (.slice (some ⟨g,0,none⟩) n cap)) (.slice (some ⟨g,0,none⟩) n cap) (ts ++ [t]) f active∧EStep C cb A w rv A (((((((w2.setCell ⟨g,ts.length * 6,none⟩ c0).setCell ⟨g,ts.length * 6+1,none⟩ c1).setCell ⟨g,ts.length * 6+2,none⟩ c2).setCell ⟨g,ts.length * 6+3,none⟩ c3).setCell ⟨g,ts.length * 6+4,none⟩ c4).setCell ⟨g,ts.length * 6+5,none⟩ c5).setCell ⟨cb,0,none⟩ (.slice (some ⟨g,0,none⟩) n cap)) (.slice (some ⟨g,0,none⟩) n cap):=by
 have hk:Keeps w w2 (fun k=>rv.ownBlock=some k):=Keeps.of_grown hg (fun k e=>.inl e)
 have hgo:rv.ownBlock=some g∨w.heap.size≤g:=hn g rfl
 have hgA:¬ A g:=fun a=>by
  rcases hgo with e|e
  · exact h.mutA g (.inr (.inr e)) a
  · have:=h.alt g a;omega
 have hgc:g≠cb:=fun e=>by
  rcases hgo with e2|e2
  · exact h.rnc (e ▸ e2)
  · have:=h.cblt;omega
 have hst:Stays A (fun k=>A k∧k≠g) w w2:=⟨hk.size,fun b hb a=>⟨hk.block b hb (fun e=>h.mutA b (.inr (.inr e)) a),a,fun e=>hgA (e ▸ a)⟩⟩
 have hclt:cb < w2.heap.size:=Nat.lt_of_lt_of_le h.cblt hk.size
 have hcb2:w2.heap[cb]?=some (.cells #[rv] 41 (0,0)):=(hk.block cb h.cblt (fun e=>h.rnc e)).trans h.cbk
 have hS:∀ k,(rv.ownBlock=some k∨k=g∨k=cb)→(rv.ownBlock=some k∨(Value.slice (some ⟨g,0,none⟩) n cap).ownBlock=some k∨k=cb):=fun k e=>by
  rcases e with e|rfl|e
  · exact .inl e
  · exact .inr (.inl rfl)
  · exact .inr (.inr e)
 have hgs:∀ k,(Value.slice (some ⟨g,0,none⟩) n cap).ownBlock=some k→k=g:=fun k e=>by simpa [Value.ownBlock] using e.symm
 have h1:=hown.setT (j:=ts.length) (by simp) (ht.stays hst)
 rw [snoc_set] at h1
 have hK6:=(((((keeps_set w2 g (ts.length * 6) c0).same (keeps_set _ g (ts.length * 6+1) c1)).same (keeps_set _ g (ts.length * 6+2) c2)).same (keeps_set _ g (ts.length * 6+3) c3)).same (keeps_set _ g (ts.length * 6+4) c4)).same (keeps_set _ g (ts.length * 6+5) c5)
 have hKc:=keeps_set ((((((w2.setCell ⟨g,ts.length * 6,none⟩ c0).setCell ⟨g,ts.length * 6+1,none⟩ c1).setCell ⟨g,ts.length * 6+2,none⟩ c2).setCell ⟨g,ts.length * 6+3,none⟩ c3).setCell ⟨g,ts.length * 6+4,none⟩ c4).setCell ⟨g,ts.length * 6+5,none⟩ c5) cb 0 (.slice (some ⟨g,0,none⟩) n cap)
 have hcb3:=(hK6.block cb hclt (fun e=>hgc e.symm)).trans hcb2
 have hc4:=heap_setCell_same _ cb 0 _ _ (.slice (some ⟨g,0,none⟩) n cap) hcb3
 refine push_fin h ((((hk.mono (fun k e=>.inl e)).same (hK6.mono (fun k e=>.inr (.inl e)))).same (hKc.mono (fun k e=>.inr (.inr e)))).mono hS) hn (h1.keeps hKc (fun k e e2=>hgc ((hgs k e).symm.trans e2)) (fun k _ a e=>h.mutA k (.inr (.inl e)) a)) ?_
 simpa only [List.setIfInBounds_toArray,List.set_cons_zero] using hc4
theorem push_B {C:EC} {cb:Nat} {A:Nat→Prop} {w w2:World} {rv:Value} {ts:List Tr} {t:Tr} {f active:Int} {g n cap:Nat} {c0 c1 c2 c3 c4 c5:Value} (h:EvSt C cb A w rv ts f active) (hown:RowsOwn TrE 43 A 0 w2 (.slice (some ⟨g,0,none⟩) n cap) (ts ++ [default])) (hg:w.grownBy w2 rv.ownBlock) (hn:NewOr w rv (.slice (some ⟨g,0,none⟩) n cap)) (ht:TrC A w (fun i=>(#[c0,c1,c2,c3,c4,c5]:Array Value).getD i undef) t):
 EvSt C cb A (((((((w2.setCell ⟨cb,0,none⟩ (.slice (some ⟨g,0,none⟩) n cap)).setCell ⟨g,ts.length * 6,none⟩ c0).setCell ⟨g,ts.length * 6+1,none⟩ c1).setCell ⟨g,ts.length * 6+2,none⟩ c2).setCell ⟨g,ts.length * 6+3,none⟩ c3).setCell ⟨g,ts.length * 6+4,none⟩ c4).setCell ⟨g,ts.length * 6+5,none⟩ c5) (.slice (some ⟨g,0,none⟩) n cap) (ts ++ [t]) f active∧EStep C cb A w rv A (((((((w2.setCell ⟨cb,0,none⟩ (.slice (some ⟨g,0,none⟩) n cap)).setCell ⟨g,ts.length * 6,none⟩ c0).setCell ⟨g,ts.length * 6+1,none⟩ c1).setCell ⟨g,ts.length * 6+2,none⟩ c2).setCell ⟨g,ts.length * 6+3,none⟩ c3).setCell ⟨g,ts.length * 6+4,none⟩ c4).setCell ⟨g,ts.length * 6+5,none⟩ c5) (.slice (some ⟨g,0,none⟩) n cap):=by
 have hk:Keeps w w2 (fun k=>rv.ownBlock=some k):=Keeps.of_grown hg (fun k e=>.inl e)
 have hgo:rv.ownBlock=some g∨w.heap.size≤g:=hn g rfl
 have hgA:¬ A g:=fun a=>by
  rcases hgo with e|e
  · exact h.mutA g (.inr (.inr e)) a
  · have:=h.alt g a;omega
 have hgc:g≠cb:=fun e=>by
  rcases hgo with e2|e2
  · exact h.rnc (e ▸ e2)
  · have:=h.cblt;omega
 have hst:Stays A (fun k=>A k∧k≠g) w w2:=⟨hk.size,fun b hb a=>⟨hk.block b hb (fun e=>h.mutA b (.inr (.inr e)) a),a,fun e=>hgA (e ▸ a)⟩⟩
 have hclt:cb < w2.heap.size:=Nat.lt_of_lt_of_le h.cblt hk.size
 have hcb2:w2.heap[cb]?=some (.cells #[rv] 41 (0,0)):=(hk.block cb h.cblt (fun e=>h.rnc e)).trans h.cbk
 have hS:∀ k,(rv.ownBlock=some k∨k=g∨k=cb)→(rv.ownBlock=some k∨(Value.slice (some ⟨g,0,none⟩) n cap).ownBlock=some k∨k=cb):=fun k e=>by
  rcases e with e|rfl|e
  · exact .inl e
  · exact .inr (.inl rfl)
  · exact .inr (.inr e)
 have hgs:∀ k,(Value.slice (some ⟨g,0,none⟩) n cap).ownBlock=some k→k=g:=fun k e=>by simpa [Value.ownBlock] using e.symm
 have hKc:=keeps_set w2 cb 0 (.slice (some ⟨g,0,none⟩) n cap)
 have hc4:=heap_setCell_same w2 cb 0 _ _ (.slice (some ⟨g,0,none⟩) n cap) hcb2
 have h0:=hown.keeps hKc (fun k e e2=>hgc ((hgs k e).symm.trans e2)) (fun k _ a e=>h.mutA k (.inr (.inl e)) a)
 have hst2:Stays A (fun k=>A k∧k≠g) w (w2.setCell ⟨cb,0,none⟩ (.slice (some ⟨g,0,none⟩) n cap)):=⟨Nat.le_trans hst.size hKc.size,fun b hb a=>⟨(hKc.block b (Nat.lt_of_lt_of_le hb hst.size) (fun e=>h.mutA b (.inr (.inl e)) a)).trans (hst.block b hb a).1,(hst.block b hb a).2⟩⟩
 have h1:=h0.setT (j:=ts.length) (by simp) (ht.stays hst2)
 rw [snoc_set] at h1
 have hK6:=(((((keeps_set (w2.setCell ⟨cb,0,none⟩ (.slice (some ⟨g,0,none⟩) n cap)) g (ts.length * 6) c0).same (keeps_set _ g (ts.length * 6+1) c1)).same (keeps_set _ g (ts.length * 6+2) c2)).same (keeps_set _ g (ts.length * 6+3) c3)).same (keeps_set _ g (ts.length * 6+4) c4)).same (keeps_set _ g (ts.length * 6+5) c5)
 refine push_fin h ((((hk.mono (fun k e=>.inl e)).same (hKc.mono (fun k e=>.inr (.inr e)))).same (hK6.mono (fun k e=>.inr (.inl e)))).mono hS) hn h1 ?_
 refine (hK6.block cb (Nat.lt_of_lt_of_le hclt hKc.size) (fun e=>hgc e.symm)).trans ?_
 simpa only [List.setIfInBounds_toArray,List.set_cons_zero] using hc4
def CutC (C:EC) (cb:Nat) (A:Nat→Prop) (w:World) (rv rv1:Value) (TS:List Tr) (active:Int) (X:CR) (Z:Obj) (b e:Value) (wx:World):Prop:=
 ∃ (g:Nat) (A3:Nat→Prop) (f0:Int) (a1:Option Addr) (n1 k1:Nat) (a3:Option Addr) (k3:Nat) (a5:Option Addr) (n5 k5:Nat),b=.pointer (some ⟨g,0,none⟩)∧e=.int .i64 X.err∧
   wx.heap[g]?=some (.cells #[.int .i64 f0,.slice a1 n1 k1,.bool X.res.list,.int .i64 X.res.n,.slice a3 X.res.l.length k3,.slice a5 n5 k5] 43 (0,0))∧w.heap.size+1 < g∧¬ MuE C cb rv1 g∧¬ A3 g∧
   EvSt C cb A3 wx rv1 TS X.fuel active∧EStep C cb A w rv A3 wx rv1∧VlAt A3 wx (.agg #[.bool X.res.list,.int .i64 X.res.n,.slice a3 X.res.l.length k3]) X.res∧(X.err=0→C.tr=true→TrC A3 wx (fun i=>(#[.int .i64 f0,.slice a1 n1 k1,.bool X.res.list,.int .i64 X.res.n,.slice a3 X.res.l.length k3,.slice a5 n5 k5]:Array Value).getD i undef) X.tree)∧
   wx.heap[w.heap.size+1]?=some Z∧¬ A3 (w.heap.size+1)∧¬ MuE C cb rv1 (w.heap.size+1)
theorem cut_a {C:EC} {cb:Nat} {A A3:Nat→Prop} {w w5:World} {rv rv1:Value} {TS:List Tr} {active:Int} {X:CR} {Z:Obj} {f0:Int} {a1:Option Addr} {n1 k1:Nat} {a3:Option Addr} {k3:Nat} {a5:Option Addr} {n5 k5:Nat} (hs:EvSt C cb A3 w5 rv1 TS X.fuel active) (ht:EStep C cb A w rv A3 w5 rv1)
 (hv:VlAt A3 w5 (.agg #[.bool X.res.list,.int .i64 X.res.n,.slice a3 X.res.l.length k3]) X.res) (hc:X.err=0→C.tr=true→TrC A3 w5 (fun i=>(#[.int .i64 f0,.slice a1 n1 k1,.bool X.res.list,.int .i64 X.res.n,.slice a3 X.res.l.length k3,.slice a5 n5 k5]:Array Value).getD i undef) X.tree) (hz:w5.heap[w.heap.size+1]?=some Z∧¬ A3 (w.heap.size+1)∧¬ MuE C cb rv1 (w.heap.size+1)):
 CutC C cb A w rv rv1 TS active X Z (.pointer (some ⟨w5.heap.size,0,none⟩)) (.int .i64 X.err) (w5.alloc (.cells #[.int .i64 f0,.slice a1 n1 k1,.bool X.res.list,.int .i64 X.res.n,.slice a3 X.res.l.length k3,.slice a5 n5 k5] 43)):=by
 have hb:Below w5.heap.size w5 (w5.alloc (.cells #[.int .i64 f0,.slice a1 n1 k1,.bool X.res.list,.int .i64 X.res.n,.slice a3 X.res.l.length k3,.slice a5 n5 k5] 43)):=bel_alloc (Below.refl _ _)
 have hlt:w.heap.size+1 < w5.heap.size:=by have h:=hz.1;rw [Array.getElem?_eq_some_iff] at h;exact h.1
 exact ⟨w5.heap.size,A3,f0,a1,n1,k1,a3,k3,a5,n5,k5,rfl,rfl,at_new0 w5 _,hlt,fun m=>by have:=hs.mlt m;omega,fun a=>by have:=hs.alt _ a;omega,hs.below hb,ht.below hb,hv.stays (Stays.of_below hb),fun h1 h2=>(hc h1 h2).stays (Stays.of_below hb),blk_below hb hz.1,hz.2.1,hz.2.2⟩
theorem cut_b {C:EC} {cb:Nat} {A A3:Nat→Prop} {w w5:World} {rv rv1:Value} {TS:List Tr} {active:Int} {X:CR} {Z:Obj} {f0:Int} {a1:Option Addr} {n1 k1:Nat} {a3:Option Addr} {k3:Nat} {a5:Option Addr} {n5 k5 g:Nat} {v0 v1 v2 v3 v4 v5:Value} (hs:EvSt C cb A3 w5 rv1 TS X.fuel active) (ht:EStep C cb A w rv A3 w5 rv1)
 (hv:VlAt A3 w5 (.agg #[.bool X.res.list,.int .i64 X.res.n,.slice a3 X.res.l.length k3]) X.res) (hc:X.err=0→C.tr=true→TrC A3 w5 (fun i=>(#[.int .i64 f0,.slice a1 n1 k1,.bool X.res.list,.int .i64 X.res.n,.slice a3 X.res.l.length k3,.slice a5 n5 k5]:Array Value).getD i undef) X.tree) (hz:w5.heap[w.heap.size+1]?=some Z∧¬ A3 (w.heap.size+1)∧¬ MuE C cb rv1 (w.heap.size+1))
 (hg:w5.heap[g]?=some (.cells #[v0,v1,v2,v3,v4,v5] 43 (0,0))∧¬ A3 g∧¬ MuE C cb rv1 g) (hlt:w.heap.size+1 < g):
 CutC C cb A w rv rv1 TS active X Z (.pointer (some ⟨g,0,none⟩)) (.int .i64 X.err) ((((((w5.setCell ⟨g,0,none⟩ (.int .i64 f0)).setCell ⟨g,1,none⟩ (.slice a1 n1 k1)).setCell ⟨g,2,none⟩ (.bool X.res.list)).setCell ⟨g,3,none⟩ (.int .i64 X.res.n)).setCell ⟨g,4,none⟩ (.slice a3 X.res.l.length k3)).setCell ⟨g,5,none⟩ (.slice a5 n5 k5)):=by
 have hk:=keeps_set6 w5 g (.int .i64 f0) (.slice a1 n1 k1) (.bool X.res.list) (.int .i64 X.res.n) (.slice a3 X.res.l.length k3) (.slice a5 n5 k5)
 have hst:=hk.stays (A:=A3) (fun k a _ e=>hg.2.1 (e ▸ a))
 have hzl:w.heap.size+1 < w5.heap.size:=by have h:=hz.1;rw [Array.getElem?_eq_some_iff] at h;exact h.1
 exact ⟨g,A3,f0,a1,n1,k1,a3,k3,a5,n5,k5,rfl,rfl,set6 hg.1 _ _ _ _ _ _,hlt,hg.2.2,hg.2.1,hs.keeps hk (fun k a e=>hg.2.1 (e ▸ a)) (fun k m e=>hg.2.2 (e ▸ m)),ht.young hk (fun k e=>by omega),hv.stays hst,fun h1 h2=>(hc h1 h2).stays hst,(hk.block _ hzl (by omega)).trans hz.1,hz.2.1,hz.2.2⟩
theorem stays_or {A:Nat→Prop} {w w':World} {g:Nat} (h:Below w.heap.size w w'):Stays A (fun k=>A k∨k=g) w w':=⟨h.size,fun b hb a=>⟨h.block b hb,.inl a⟩⟩
theorem push_facts {C:EC} {cb:Nat} {A:Nat→Prop} {w7 w8:World} {rv:Value} {ts:List Tr} {f active:Int} {a8:Option Addr} {c8 g:Nat} {o:Obj} (h:EvSt C cb A w7 rv ts f active) (hown:RowsOwn TrE 43 A 0 w8 (.slice a8 (ts.length+1) c8) (ts ++ [default])) (hg8:w7.grownBy w8 rv.ownBlock) (hn:NewOr w7 rv (.slice a8 (ts.length+1) c8)) (hb:w7.heap[g]?=some o) (hgM:¬ MuE C cb rv g):
 ∃ g8,a8=some ⟨g8,0,none⟩∧w8.heap[g]?=some o∧w8.heap[cb]?=some (.cells #[rv] 41 (0,0))∧(∀ j,w8.frozen? ⟨g8,j,none⟩=false)∧(∀ i,i < 6→∃ v,w8.cell? ⟨g8,ts.length * 6+i,none⟩=some v)∧g8≠cb∧g8≠g∧cb≠g:=by
 obtain ⟨g8,cap,cur,he,hnc,hh,hcs,_⟩:=hown.cellT (by simp)
 simp only [Value.slice.injEq] at he
 obtain ⟨rfl,-,rfl⟩:=he
 have hlt:g < w7.heap.size:=by rw [Array.getElem?_eq_some_iff] at hb;exact hb.1
 have hgo:rv.ownBlock=some g8∨w7.heap.size≤g8:=hn g8 rfl
 refine ⟨g8,rfl,(hg8.block g hlt (fun e=>hgM (.inr (.inr e.symm)))).trans hb,(hg8.block cb h.cblt (fun e=>h.rnc e.symm)).trans h.cbk,unfrozen hh,fun i hi=>?_,fun e=>?_,fun e=>?_,fun e=>hgM (.inr (.inl e.symm))⟩
 · have hl:ts.length * 6+i < cur.size:=by simp at hnc;omega
   exact ⟨cur[ts.length * 6+i],by simp only [World.cell?,hh];rw [Array.getElem?_eq_getElem hl];rfl⟩
 · rcases hgo with e2|e2
   · exact h.rnc (e ▸ e2)
   · have:=h.cblt;omega
 · rcases hgo with e2|e2
   · exact hgM (.inr (.inr (e ▸ e2)))
   · omega
def CutD (C:EC) (cb:Nat) (A:Nat→Prop) (w:World) (rv:Value) (ts:List Tr) (f active:Int) (v:Value) (res:Vl) (g:Nat) (o Z:Obj) (wx:World):Prop:=
 ∃ (A4:Nat→Prop) (rv4:Value),EvSt C cb A4 wx rv4 ts f active∧EStep C cb A w rv A4 wx rv4∧VlAt A4 wx v res∧wx.heap[g]?=some o∧wx.heap[w.heap.size+1]?=some Z∧¬ A4 (w.heap.size+1)∧¬ MuE C cb rv4 (w.heap.size+1)
theorem cut_d {C:EC} {cb:Nat} {A A3:Nat→Prop} {w wc w7 w4:World} {rv rv1 rv4:Value} {TS TS':List Tr} {f f' active:Int} {v:Value} {res:Vl} {g g7:Nat} {o Z:Obj} (hs:EvSt C cb A3 wc rv1 TS f active) (ht:EStep C cb A w rv A3 wc rv1) (hv:VlAt A3 wc v res)
 (hz:wc.heap[w.heap.size+1]?=some Z∧¬ A3 (w.heap.size+1)∧¬ MuE C cb rv1 (w.heap.size+1)) (hg:wc.heap[g]?=some o∧¬ A3 g∧¬ MuE C cb rv1 g) (hb:Below wc.heap.size wc w7) (h7:wc.heap.size≤g7) (hs7:EvSt C cb (fun k=>A3 k∨k=g7) w7 rv1 TS f active)
 (h4:EvSt C cb (fun k=>A3 k∨k=g7) w4 rv4 TS' f' active∧EStep C cb (fun k=>A3 k∨k=g7) w7 rv1 (fun k=>A3 k∨k=g7) w4 rv4):CutD C cb A w rv TS' f' active v res g o Z w4:=by
 have hst:Stays A3 (fun k=>A3 k∨k=g7) wc w7:=⟨hb.size,fun b h a=>⟨hb.block b h,.inl a⟩⟩
 have hlt:∀ {k:Nat} {y:Obj},wc.heap[k]?=some y→¬ A3 k→¬ (A3 k∨k=g7):=fun {k y} h n a=>by
  rw [Array.getElem?_eq_some_iff] at h
  rcases a with a|a
  · exact n a
  · have:=h.1;omega
 have hsz:=ht.keeps.size
 obtain ⟨z1,z2,z3⟩:=h4.2.own (blk_below hb hz.1) (hlt hz.1 hz.2.1) hz.2.2
 obtain ⟨b1,b2,b3⟩:=h4.2.own (blk_below hb hg.1) (hlt hg.1 hg.2.1) hg.2.2
 exact ⟨_,rv4,h4.1,(((ht.below hb).more (A2:=fun k=>A3 k∨k=g7) (fun k a=>.inl a) (fun k a=>by
  rcases a with a|a
  · exact .inl a
  · exact .inr (by omega))).trans h4.2),(hv.stays hst).stays (hs7.stays h4.2),b1,z1,z2,z3⟩
theorem push_all {C:EC} {cb:Nat} {A A3:Nat→Prop} {w wc w7 w8:World} {rv rv1:Value} {TS:List Tr} {t:Tr} {f active:Int} {v:Value} {res:Vl} {g g8 c8:Nat} {o Z:Obj} {c0 c1 c2 c3 c4 c5:Value} (hown:RowsOwn TrE 43 (fun k=>A3 k∨k=wc.heap.size) 0 w8 (.slice (some ⟨g8,0,none⟩) (TS.length+1) c8) (TS ++ [default])) (hg8:w7.grownBy w8 rv1.ownBlock) (hn:NewOr w7 rv1 (.slice (some ⟨g8,0,none⟩) (TS.length+1) c8))
 (hb:Below wc.heap.size wc w7) (hs7:EvSt C cb (fun k=>A3 k∨k=wc.heap.size) w7 rv1 TS f active) (hs:EvSt C cb A3 wc rv1 TS f active) (ht:EStep C cb A w rv A3 wc rv1) (hv:VlAt A3 wc v res) (hz:wc.heap[w.heap.size+1]?=some Z∧¬ A3 (w.heap.size+1)∧¬ MuE C cb rv1 (w.heap.size+1)) (hg:wc.heap[g]?=some o∧¬ A3 g∧¬ MuE C cb rv1 g)
 (hc:TrC A3 wc (fun i=>(#[c0,c1,c2,c3,c4,c5]:Array Value).getD i undef) t):
 CutD C cb A w rv (TS ++ [t]) f active v res g o Z (((((((w8.setCell ⟨g8,TS.length * 6,none⟩ c0).setCell ⟨g8,TS.length * 6+1,none⟩ c1).setCell ⟨g8,TS.length * 6+2,none⟩ c2).setCell ⟨g8,TS.length * 6+3,none⟩ c3).setCell ⟨g8,TS.length * 6+4,none⟩ c4).setCell ⟨g8,TS.length * 6+5,none⟩ c5).setCell ⟨cb,0,none⟩ (.slice (some ⟨g8,0,none⟩) (TS.length+1) c8))∧CutD C cb A w rv (TS ++ [t]) f active v res g o Z (((((((w8.setCell ⟨cb,0,none⟩ (.slice (some ⟨g8,0,none⟩) (TS.length+1) c8)).setCell ⟨g8,TS.length * 6,none⟩ c0).setCell ⟨g8,TS.length * 6+1,none⟩ c1).setCell ⟨g8,TS.length * 6+2,none⟩ c2).setCell ⟨g8,TS.length * 6+3,none⟩ c3).setCell ⟨g8,TS.length * 6+4,none⟩ c4).setCell ⟨g8,TS.length * 6+5,none⟩ c5):=
 ⟨cut_d hs ht hv hz hg hb (Nat.le_refl _) hs7 (push_A hs7 hown hg8 hn (hc.stays (stays_or hb))),cut_d hs ht hv hz hg hb (Nat.le_refl _) hs7 (push_B hs7 hown hg8 hn (hc.stays (stays_or hb)))⟩
end Go.Proofs.YtjhimhlebbamoaaDoor
/- What costmodel.Predict computes,and its laws,in plain Lean:no program in sight. -/
namespace Go.Proofs.YtjhimhlebbamoaaDoor
def KindsOk (ps:List Par) (args:List Vl):Prop:=∀ i,i < args.length→(at' args i).list=(at' ps i).list
instance (ps:List Par) (args:List Vl):Decidable (KindsOk ps args):=by unfold KindsOk;infer_instance
def startN (lib:List Fn) (name:ByteArray) (args:List Vl) (fuel:Int):CR:=
 if (validE lib).2≠0 then ⟨noVl,3,fuel,default⟩
 else if findF lib name < 0 then ⟨noVl,21,fuel,default⟩
 else if args.length≠(fnAt lib (findF lib name)).params.length then ⟨noVl,7,fuel,default⟩
 else if ¬ KindsOk (fnAt lib (findF lib name)).params args then ⟨noVl,7,fuel,default⟩
 else callN apI lib (fuel.toNat+1) (findF lib name) args fuel 0
theorem at_map {α β:Type} [Inhabited α] [Inhabited β] (f:α→β) {l:List α} {j:Nat} (h:j < l.length):at' (l.map f) j=f (at' l j):=by
 simp [at',List.getD_eq_getElem?_getD,List.getElem?_map,List.getElem?_eq_getElem h]
theorem start_tree {lib:List Fn} {name:ByteArray} {args:List Vl} {fuel:Int} (hv:(validE lib).2=0) (ha:∀ a ∈ args,VLen a) (he:(startN lib name args fuel).err=0):
 TrOk apI lib (startN lib name args fuel).tree∧(startN lib name args fuel).tree.f=findF lib name∧¬ findF lib name < 0∧stepsT (startN lib name args fuel).tree≤1+fuel∧w0T (startN lib name args fuel).tree≤1+fuel * 2 ^ 30∧TrLen (startN lib name args fuel).tree∧0 < fuel:=by
 unfold startN at he ⊢
 rw [if_neg (by omega)] at he ⊢
 by_cases h1:findF lib name < 0
 · rw [if_pos h1] at he;exact absurd he (by simp)
 rw [if_neg h1] at he ⊢
 by_cases h2:args.length≠(fnAt lib (findF lib name)).params.length
 · rw [if_pos h2] at he;exact absurd he (by simp)
 rw [if_neg h2] at he ⊢
 by_cases h3:¬ KindsOk (fnAt lib (findF lib name)).params args
 · rw [if_pos h3] at he;exact absurd he (by simp)
 rw [if_neg h3] at he ⊢
 have h2:=Classical.not_not.1 h2
 have h3:=Classical.not_not.1 h3
 unfold callN at he ⊢
 rw [if_neg (by omega)] at he ⊢
 simp only [] at he ⊢
 by_cases hy:(evalN apI lib (fuel.toNat+1) (fnAt lib (findF lib name)).body (bindPars (fnAt lib (findF lib name)).params args) fuel (0+1)).err≠0
 · rw [if_pos hy] at he;exact absurd he hy
 rw [if_neg hy]
 have hy:=Classical.not_not.1 hy
 have hf:=findF_lt h1
 have hs:=sem_call hv (sem_ok apI lib hv _) hf.1 hf.2 h2 (fun i hi=>h3 i hi) hy
 have hc:=eval_cost apI lib (fuel.toNat+1) (fnAt lib (findF lib name)).body (bindPars (fnAt lib (findF lib name)).params args) fuel (0+1) 29 (by omega)
 have hl:=eval_len apI lib (fuel.toNat+1) (fnAt lib (findF lib name)).body (bindPars (fnAt lib (findF lib name)).params args) fuel (0+1) (bindPars_len _ _ ha)
 have h0:0 < fuel:=by
  rcases Int.lt_or_le 0 fuel with h|h
  · exact h
  · exfalso
    generalize (fnAt lib (findF lib name)).body=bd at hy
    obtain ⟨k,num,nm,kids⟩:=bd
    rw [evalN,if_pos h] at hy
    exact absurd hy (by simp)
 have hn:=eval_nonneg apI lib (fuel.toNat+1) (fnAt lib (findF lib name)).body (bindPars (fnAt lib (findF lib name)).params args) fuel (0+1) (by omega)
 generalize evalN apI lib (fuel.toNat+1) (fnAt lib (findF lib name)).body (bindPars (fnAt lib (findF lib name)).params args) fuel (0+1)=y at *
 obtain ⟨c1,c2,c3⟩:=hc
 refine ⟨hs.2,rfl,h1,?_,?_,?_,h0⟩
 · simp only [stepsT];omega
 · have e:w0T (.mk (findF lib name) (args.map cleanV) (cleanV y.val) y.calls)=1+2 * w0L y.calls:=by simp [w0T,wT,w0L]
   rw [e]
   have:w0L y.calls≤fuel * 2 ^ 29:=Int.le_trans c3 (Int.mul_le_mul_of_nonneg_right (by omega) (by decide))
   have e2:fuel * 2 ^ 30=2 * (fuel * 2 ^ 29):=by
    rw [show (2:Int) ^ 30=2 * 2 ^ 29 by decide,← Int.mul_assoc,Int.mul_comm fuel 2,Int.mul_assoc]
   omega
 · rw [TrLen]
   refine ⟨fun a h=>?_,vlen_clean hl.1,hl.2⟩
   obtain ⟨b,hb,rfl⟩:=List.mem_map.1 h
   exact vlen_clean (ha b hb)
def inK (lib:List Fn) (kept:List ByteArray) (f:Int):Bool:=kept.any fun s=>decide ((fnAt lib f).name=s)
theorem inK_iff {lib:List Fn} {kept:List ByteArray} {f:Int}:inK lib kept f=true ↔ (fnAt lib f).name ∈ kept:=by
 unfold inK;rw [List.any_eq_true]
 constructor
 · rintro ⟨s,hs,e⟩;simp only [decide_eq_true_eq] at e;rw [e];exact hs
 · intro h;exact ⟨_,h,by simp⟩
def valsN (g:AFn) (t:Tr):VEnv:=((execBs apI g.body (bindPars g.params t.args) t.calls).getD (noEnv,[])).1
def tempN (vals:VEnv) (p:Par):Int:=if p.list then ((vals p.name).l.length:Int) else 0
def pushedN (g:AFn) (t:Tr):Int:=g.temps.length+sumI (g.temps.map (tempN (valsN g t)))
def puN (lib:List Fn) (t:Tr):Int:=pushedN (normF lib (fnAt lib t.f)) t
theorem tempN_nonneg (vals:VEnv) (p:Par):0≤tempN vals p:=by unfold tempN;split <;> omega
theorem pushedN_nonneg (g:AFn) (t:Tr):0≤pushedN g t:=by
 unfold pushedN
 have:=sumI_nonneg (g.temps.map (tempN (valsN g t))) (fun x hx=>by
  obtain ⟨p,_,rfl⟩:=List.mem_map.1 hx
  exact tempN_nonneg _ _)
 omega
structure PR where
 err:Int
 cnt:Cnt
 gar:Int
def noCnt:Cnt:=⟨[],[]⟩
def zeroCnt (n:Nat):Cnt:=⟨List.replicate n 0,List.replicate n 0⟩
def predN (lib:List Fn) (name:ByteArray) (kept:List ByteArray) (args:List Vl) (fuel:Int):PR:=
 if (validE lib).2≠0 then ⟨(validE lib).2,noCnt,0⟩
 else if findF lib name < 0∨(∃ k ∈ kept,findF lib k < 0) then ⟨21,noCnt,0⟩
 else if ¬ kept.Nodup then ⟨22,noCnt,0⟩
 else if (startN lib name args fuel).err≠0 then ⟨(startN lib name args fuel).err,noCnt,0⟩
 else
  let r:=visT (puN lib) (inK lib kept) (startN lib name args fuel).tree false 1 (zeroCnt lib.length)
  ⟨0,r.2,r.1⟩
theorem pred_ok {lib:List Fn} {name:ByteArray} {kept:List ByteArray} {args:List Vl} {fuel:Int} (h:(predN lib name kept args fuel).err=0):
 (validE lib).2=0∧¬ findF lib name < 0∧(∀ k ∈ kept,¬ findF lib k < 0)∧kept.Nodup∧(startN lib name args fuel).err=0∧
 predN lib name kept args fuel=⟨0,(visT (puN lib) (inK lib kept) (startN lib name args fuel).tree false 1 (zeroCnt lib.length)).2,(visT (puN lib) (inK lib kept) (startN lib name args fuel).tree false 1 (zeroCnt lib.length)).1⟩:=by
 unfold predN at h ⊢
 by_cases h1:(validE lib).2≠0
 · rw [if_pos h1] at h;exact absurd h h1
 rw [if_neg h1] at h ⊢
 by_cases h2:findF lib name < 0∨(∃ k ∈ kept,findF lib k < 0)
 · rw [if_pos h2] at h;exact absurd h (by simp)
 rw [if_neg h2] at h ⊢
 by_cases h3:¬ kept.Nodup
 · rw [if_pos h3] at h;exact absurd h (by simp)
 rw [if_neg h3] at h ⊢
 by_cases h4:(startN lib name args fuel).err≠0
 · rw [if_pos h4] at h;exact absurd h h4
 rw [if_neg h4]
 exact ⟨Classical.not_not.1 h1,fun e=>h2 (.inl e),fun k hk e=>h2 (.inr ⟨k,hk,e⟩),Classical.not_not.1 h3,Classical.not_not.1 h4,rfl⟩
theorem zero_len (n:Nat):(zeroCnt n).Len n:=⟨by simp [zeroCnt],by simp [zeroCnt]⟩
theorem sumI_zero:∀ n:Nat,sumI (List.replicate n 0)=0
 | 0=>rfl
 | n+1=>by rw [List.replicate_succ,sumI,sumI_zero n];rfl
theorem zero_total (n:Nat):(zeroCnt n).total=0:=by
 show sumI (List.replicate n 0)+sumI (List.replicate n 0)=0
 rw [sumI_zero];rfl
theorem names_one {lib:List Fn} (h:(validE lib).2=0):∀ i j,i < j→j < lib.length→(at' lib i).name≠(at' lib j).name:=by
 intro i j hij hj e
 have hv:=(valid_ok h hj).first
 apply hv
 have:∀ (l:List Fn) (b:Int) (i:Nat),i < l.length→(at' l i).name=(at' lib j).name→findFrom (at' lib j).name l b≤b+i:=by
  intro l
  induction l with
  | nil=>intro b i hi;simp at hi
  | cons f r ih=>
    intro b i hi he
    rw [findFrom]
    split
    · omega
    · cases i with
      | zero=>rename_i hne;exact absurd he hne
      | succ i=>have:=ih (b+1) i (by simpa using hi) he;push_cast;omega
 have h2:=this lib 0 i (by omega) e
 unfold findF
 omega
theorem findFrom_at (name:ByteArray):∀ (l:List Fn) (b:Int),findFrom name l b= -1∨∃ i:Nat,i < l.length∧findFrom name l b=b+i∧(at' l i).name=name
 | [],b=>.inl rfl
 | f :: r,b=>by
   rw [findFrom]
   split
   · rename_i h;exact .inr ⟨0,by simp,by omega,h⟩
   · rcases findFrom_at name r (b+1) with h|⟨i,h1,h2,h3⟩
     · exact .inl h
     · exact .inr ⟨i+1,by simpa using h1,by push_cast;omega,h3⟩
theorem findF_at {lib:List Fn} {name:ByteArray} (h:¬ findF lib name < 0):(fnAt lib (findF lib name)).name=name:=by
 unfold findF at h ⊢
 rcases findFrom_at name lib 0 with e|⟨i,h1,h2,h3⟩
 · omega
 · rw [h2];unfold fnAt;rw [show (0+(i:Int)).toNat=i by omega];exact h3
theorem findF_iff {lib:List Fn} {name:ByteArray} (hv:(validE lib).2=0) (h:¬ findF lib name < 0) {i:Nat} (hi:i < lib.length):(at' lib i).name=name ↔ (i:Int)=findF lib name:=by
 have h1:=findF_at h
 have h2:=findF_lt h
 unfold fnAt at h1
 constructor
 · intro e
   rcases Nat.lt_trichotomy i (findF lib name).toNat with c|c|c
   · exact absurd (e.trans h1.symm) (names_one hv i _ c h2.2)
   · omega
   · exact absurd (h1.trans e.symm) (names_one hv _ i c hi)
 · intro e
   rw [← h1,← e];simp
end Go.Proofs.YtjhimhlebbamoaaDoor
