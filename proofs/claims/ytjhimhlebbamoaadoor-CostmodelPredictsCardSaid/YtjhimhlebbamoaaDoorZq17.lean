/- Contracts and plain lemmas (FcmB, FcmC): no statement of the seat is proved here. -/
import Derived.Test.YtjhimhlebbamoaaDoorZq10
import Derived.Test.YtjhimhlebbamoaaDoorZq11
import Derived.Test.YtjhimhlebbamoaaDoorZq16
import Derived.Test.YtjhimhlebbamoaaDoorZq02
import Derived.Test.YtjhimhlebbamoaaDoorZq07
/- The state of costmodel.pushed:the values of the variables and the calls that are left. No function of the program is walked here. -/
set_option linter.unusedSimpArgs false
set_option linter.unusedVariables false
set_option linter.unusedSectionVars false
set_option maxRecDepth 100000
set_option maxHeartbeats 12800000
namespace Go.Proofs.YtjhimhlebbamoaaDoor
open Go.RowKit
theorem BdsAt.at {A:Nat→Prop} {w:World} {v:Value} {l:List Bd} (h:BdsAt A w v l) {j:Nat} (hj:j < l.length):
 ∃ b off cap aa ac ta tc ea ec,v=.slice (some ⟨b,off,none⟩) l.length cap∧b < w.heap.size∧w.cell? ⟨b,off+j * 8,none⟩=some (.string (at' l j).to)∧w.cell? ⟨b,off+j * 8+1,none⟩=some (.bool (at' l j).list)∧
   w.cell? ⟨b,off+j * 8+2,none⟩=some (.int .u8 (at' l j).op)∧w.cell? ⟨b,off+j * 8+3,none⟩=some (.int .i64 (at' l j).num)∧w.cell? ⟨b,off+j * 8+4,none⟩=some (.string (at' l j).name)∧
   w.cell? ⟨b,off+j * 8+5,none⟩=some (.slice aa (at' l j).args.length ac)∧w.cell? ⟨b,off+j * 8+6,none⟩=some (.slice ta (at' l j).thn.length tc)∧w.cell? ⟨b,off+j * 8+7,none⟩=some (.slice ea (at' l j).els.length ec)∧
   StrsAt A w (.slice aa (at' l j).args.length ac) (at' l j).args∧BdsAt A w (.slice ta (at' l j).thn.length tc) (at' l j).thn∧BdsAt A w (.slice ea (at' l j).els.length ec) (at' l j).els∧(at' l j).Ok1:=by
 cases h with
 | mk _ _ cs h hf ht he=>
   obtain ⟨b,off,cap,rfl,h1,h2,h3,h4⟩:=h.at hj
   obtain ⟨e0,e1,e2,e3,e4,e5,e6⟩:=hf j hj
   have t:=ht j hj
   have e:=he j hj
   obtain ⟨_,aa,ac,f5⟩:=e5.form
   obtain ⟨_,ta,tc,f6⟩:=t.form
   obtain ⟨_,ea,ec,f7⟩:=e.form
   have g5:=h4 5 (by omega)
   have g6:=h4 6 (by omega)
   have g7:=h4 7 (by omega)
   rw [f5] at g5 e5
   rw [f6] at g6 t
   rw [f7] at g7 e
   exact ⟨b,off,cap,aa,ac,ta,tc,ea,ec,rfl,h1,by rw [← e0];exact h4 0 (by omega),by rw [← e1];exact h4 1 (by omega),by rw [← e2];exact h4 2 (by omega),by rw [← e3];exact h4 3 (by omega),by rw [← e4];exact h4 4 (by omega),g5,g6,g7,e5,t,e,e6⟩
theorem sizeB_pos:∀ b:Bd,0 < sizeB b
 | .mk _ _ _ _ _ _ _ _=>by rw [sizeB];omega
theorem len_sizeBs:∀ l:List Bd,l.length≤sizeBs l
 | []=>by simp
 | b :: r=>by rw [sizeBs,List.length_cons];have:=len_sizeBs r;have:=sizeB_pos b;omega
theorem sizeB_at:∀ (l:List Bd) (k:Nat),k < l.length→sizeB (at' l k)≤sizeBs l
 | [],k,h=>by simp at h
 | b :: r,0,_=>by rw [sizeBs];show sizeB b≤_;omega
 | b :: r,k+1,h=>by rw [sizeBs];have:=sizeB_at r k (by simpa using h);show sizeB (at' r k)≤_;omega
theorem sizeBs_take:∀ (l:List Bd) (k:Nat),k < l.length→sizeBs (l.take (k+1))=sizeBs (l.take k)+sizeB (at' l k)
 | [],k,h=>by simp at h
 | b :: r,0,h=>by simp [sizeBs,at']
 | b :: r,k+1,h=>by
   have:=sizeBs_take r k (by simpa using h)
   rw [List.take_succ_cons,List.take_succ_cons,sizeBs,sizeBs,this]
   simp [at'];omega
theorem sizeBs_take_le:∀ (l:List Bd) (k:Nat),sizeBs (l.take k)≤sizeBs l
 | [],k=>by simp [sizeBs]
 | b :: r,0=>by simp [sizeBs]
 | b :: r,k+1=>by have:=sizeBs_take_le r k;simp [sizeBs];omega
theorem rows_tail {α:Type} [Inhabited α] {E:Elem α} {A:Nat→Prop} {w:World} {b off c:Nat} {l:List α} (h:RowsAt E A w (.slice (some ⟨b,off,none⟩) l.length c) l) (hl:0 < l.length):RowsAt E A w (.slice (some ⟨b,off+E.size,none⟩) (l.length - 1) (c - 1)) l.tail:=by
 obtain ⟨cs,⟨h0,a,cap,he,h1,h2,h3⟩,hf⟩:=h
 simp only [Value.slice.injEq] at he
 obtain ⟨rfl,-,rfl⟩:=he
 have ht:l.tail.length=l.length - 1:=by simp
 refine ⟨fun j=>cs (j+1),⟨by omega,some ⟨b,off+E.size,none⟩,c - 1,by rw [ht],by omega,nofun,fun hp=>?_⟩,fun j hj=>?_⟩
 · obtain ⟨b',off',e,hb,hA,hc⟩:=h3 hl
   simp only [Option.some.injEq,Addr.mk.injEq,and_true] at e
   obtain ⟨rfl,rfl⟩:=e
   refine ⟨b,off+E.size,rfl,hb,hA,fun j hj i hi=>?_⟩
   have:=hc (j+1) (by omega) i hi
   rw [← this]
   congr 2
   rw [Nat.add_mul,Nat.one_mul];omega
 · have:=hf (j+1) (by omega)
   have e:at' l.tail j=at' l (j+1):=by cases l with
    | nil=>simp at hl
    | cons x r=>simp [at']
   rw [e];exact this
theorem rows_none {α:Type} [Inhabited α] {E:Elem α} {A:Nat→Prop} {w:World} {a:Addr} {c:Nat} {l:List α} (hl:l.length=0):RowsAt E A w (.slice (some a) l.length c) l:=
 ⟨fun _ _=>undef,⟨by omega,_,c,rfl,by omega,nofun,fun h=>by omega⟩,fun j hj=>by omega⟩
structure ExSt (A:Nat→Prop) (w:World) (V X K mb N:Nat) (vals:VEnv) (cs:List Tr):Prop where
 v:w.heap[V]?=some (.cells #[.map (some mb)] 109 (0,0))
 x:w.heap[X]?=some (.cells #[.func (.func 42) #[] #[.pointer (some ⟨V,0,none⟩),.pointer (some ⟨X,0,none⟩),.pointer (some ⟨K,0,none⟩)]] 110 (0,0))
 k:∃ a c,w.heap[K]?=some (.cells #[.slice a cs.length c] 41 (0,0))∧RowsAt TrE A w (.slice a cs.length c) cs
 env:EnvN A w mb vals N
 alt:∀ j,A j→j < w.heap.size
 nV:¬ A V
 nX:¬ A X
 nK:¬ A K
 nM:¬ A mb
 mV:mb≠V
 mX:mb≠X
 mK:mb≠K
 KV:K≠V
 KX:K≠X
theorem blk_lt {w:World} {b:Nat} {o:Obj} (h:w.heap[b]?=some o):b < w.heap.size:=by rw [Array.getElem?_eq_some_iff] at h;exact h.1
theorem EnvN.lt {A:Nat→Prop} {w:World} {mb N:Nat} {env:VEnv} (h:EnvN A w mb env N):mb < w.heap.size:=by obtain ⟨m,hm,_⟩:=h;exact hm.lt
theorem EnvN.keeps {A A':Nat→Prop} {w w':World} {mb N:Nat} {env:VEnv} (h:EnvN A w mb env N) (hb:w'.heap[mb]?=w.heap[mb]?) (hs:Stays A A' w w'):EnvN A' w' mb env N:=by
 obtain ⟨m,hm,hv⟩:=h
 exact ⟨m,hm.same hb,fun s=>⟨fun v e=>((hv s).1 v e).stays hs,(hv s).2⟩⟩
theorem ExSt.keeps {A A':Nat→Prop} {w w':World} {V X K mb N:Nat} {vals:VEnv} {cs:List Tr} {S:Nat→Prop} (h:ExSt A w V X K mb N vals cs) (hk:Keeps w w' S) (hA:∀ j,A j→¬ S j) (hV:¬ S V) (hX:¬ S X) (hK:¬ S K) (hM:¬ S mb) (h1:∀ j,A j→A' j) (h2:∀ j,A' j→A j∨w.heap.size≤j∧j < w'.heap.size):ExSt A' w' V X K mb N vals cs:=by
 have hst:Stays A A' w w':=⟨hk.size,fun b hb a=>⟨hk.block b hb (hA b a),h1 b a⟩⟩
 obtain ⟨a,c,hk1,hk2⟩:=h.k
 have hn:∀ {j:Nat},j < w.heap.size→¬ A j→¬ A' j:=fun {j} hj n a=>by
  rcases h2 j a with a|a
  · exact n a
  · omega
 exact {
  v:=(hk.block V (blk_lt h.v) hV).trans h.v
  x:=(hk.block X (blk_lt h.x) hX).trans h.x
  k:=⟨a,c,(hk.block K (blk_lt hk1) hK).trans hk1,hk2.stays hst⟩
  env:=h.env.keeps (hk.block mb h.env.lt hM) hst
  alt:=fun j a=>by
   rcases h2 j a with a|a
   · exact Nat.lt_of_lt_of_le (h.alt j a) hk.size
   · exact a.2
  nV:=hn (blk_lt h.v) h.nV
  nX:=hn (blk_lt h.x) h.nX
  nK:=hn (blk_lt hk1) h.nK
  nM:=hn h.env.lt h.nM
  mV:=h.mV
  mX:=h.mX
  mK:=h.mK
  KV:=h.KV
  KX:=h.KX }
theorem ExSt.below {A:Nat→Prop} {w w':World} {V X K mb N:Nat} {vals:VEnv} {cs:List Tr} (h:ExSt A w V X K mb N vals cs) (hb:Below w.heap.size w w'):ExSt A w' V X K mb N vals cs:=
 h.keeps (Keeps.of_below (fun _=>False) hb) (fun _ _ e=>e) (fun e=>e) (fun e=>e) (fun e=>e) (fun e=>e) (fun _ a=>a) (fun _ a=>.inl a)
theorem ExSt.grow {A:Nat→Prop} {w w':World} {V X K mb N:Nat} {vals:VEnv} {cs:List Tr} (h:ExSt A w V X K mb N vals cs) (hb:Below w.heap.size w w'):ExSt (NewU A w w') w' V X K mb N vals cs:=
 h.keeps (Keeps.of_below (fun _=>False) hb) (fun _ _ e=>e) (fun e=>e) (fun e=>e) (fun e=>e) (fun e=>e) (fun j a=>.inl ⟨a,h.alt j a⟩) (fun j a=>by
  rcases a with a|a
  · exact .inl a.1
  · exact .inr a)
theorem ExSt.put {A:Nat→Prop} {w w':World} {V X K mb N:Nat} {vals:VEnv} {cs:List Tr} (h:ExSt A w V X K mb N vals cs) {m:ByteArray→Option Value} (hm0:EnvOf A w m vals) {s:ByteArray} {u:Value} {x:Vl} (hu:VlAt A w u x) (hm:SMapLe Tryd.prog 9 w' mb (fun y=>if y=s then some u else m y) (N+1)) (hg:w.grownBy w' (some mb)):ExSt A w' V X K mb (N+1) (vals.put s x) cs:=by
 have hk:Keeps w w' (fun j=>j=mb):=Keeps.of_grown hg (fun j e=>.inl (by simpa using e.symm))
 have hst:Stays A A w w':=hk.stays (fun j a _ e=>h.nM (e ▸ a))
 obtain ⟨a,c,hk1,hk2⟩:=h.k
 exact {
  v:=(hk.block V (blk_lt h.v) (fun e=>h.mV e.symm)).trans h.v
  x:=(hk.block X (blk_lt h.x) (fun e=>h.mX e.symm)).trans h.x
  k:=⟨a,c,(hk.block K (blk_lt hk1) (fun e=>h.mK e.symm)).trans hk1,hk2.stays hst⟩
  env:=⟨_,hm,((hm0.stays hst).put s (hu.stays hst))⟩
  alt:=fun j a=>Nat.lt_of_lt_of_le (h.alt j a) hk.size
  nV:=h.nV
  nX:=h.nX
  nK:=h.nK
  nM:=h.nM
  mV:=h.mV
  mX:=h.mX
  mK:=h.mK
  KV:=h.KV
  KX:=h.KX }
theorem ExSt.next {A:Nat→Prop} {w:World} {V X K mb N:Nat} {vals:VEnv} {cs cs':List Tr} (h:ExSt A w V X K mb N vals cs) {a:Option Addr} {n c:Nat} (hn:n=cs'.length) (hr:RowsAt TrE A w (.slice a cs'.length c) cs'):ExSt A (w.setCell ⟨K,0,none⟩ (.slice a n c)) V X K mb N vals cs':=by
 subst hn
 have hk:=keeps_set w K 0 (.slice a cs'.length c)
 have hst:Stays A A w (w.setCell ⟨K,0,none⟩ (.slice a cs'.length c)):=hk.stays (fun j x _ e=>h.nK (e ▸ x))
 obtain ⟨a0,c0,hk1,hk2⟩:=h.k
 have hc:=heap_setCell_same w K 0 _ _ (.slice a cs'.length c) hk1
 exact {
  v:=(hk.block V (blk_lt h.v) (fun e=>h.KV e.symm)).trans h.v
  x:=(hk.block X (blk_lt h.x) (fun e=>h.KX e.symm)).trans h.x
  k:=⟨a,c,by simpa only [List.setIfInBounds_toArray,List.set_cons_zero] using hc,hr.stays hst⟩
  env:=h.env.keeps (hk.block mb h.env.lt h.mK) hst
  alt:=fun j x=>Nat.lt_of_lt_of_le (h.alt j x) hk.size
  nV:=h.nV
  nX:=h.nX
  nK:=h.nK
  nM:=h.nM
  mV:=h.mV
  mX:=h.mX
  mK:=h.mK
  KV:=h.KV
  KX:=h.KX }
end Go.Proofs.YtjhimhlebbamoaaDoor
/- Walks of package costmodel:the execution of binds (pushed$1). -/
namespace Go.Proofs.YtjhimhlebbamoaaDoor
open Go.RowKit
theorem SMapLe.grow {P:Program} {kt:TypeId} {w:World} {b N M:Nat} {m:ByteArray→Option Value} (h:SMapLe P kt w b m N) (hm:N≤M):SMapLe P kt w b m M:=by
 obtain ⟨n,h1,h2⟩:=h;exact ⟨n,Nat.le_trans h1 hm,h2⟩
theorem ExSt.count {A:Nat→Prop} {w:World} {V X K mb N M:Nat} {vals:VEnv} {cs:List Tr} (h:ExSt A w V X K mb N vals cs) (hm:N≤M):ExSt A w V X K mb M vals cs:=
 { h with env:=by obtain ⟨m,h1,h2⟩:=h.env;exact ⟨m,h1.grow hm,h2⟩ }
def ExPost (A:Nat→Prop) (w:World) (V X K mb N:Nat) (vals:VEnv) (cs:List Tr) (e:Ending) (w':World):Prop:=
 ∃ A':Nat→Prop,e=.returned (.tuple #[])∧ExSt A' w' V X K mb N vals cs∧Keeps w w' (fun j=>j=K∨j=mb)∧(∀ k,A k→A' k)∧(∀ k,A' k→A k∨w.heap.size≤k)
def XEx (m:Nat):Prop:=∀ (lib:List Fn) (l:List Bd) (la:Option Addr) (lc:Nat) (A:Nat→Prop) (w:World) (V X K mb N M:Nat) (vals:VEnv) (cs:List Tr) (vals':VEnv) (cs':List Tr),sizeBs l < m→N+sizeBs l≤50000→execBs apI l vals cs=some (vals',cs')→
 LenE vals M→1000≤M→M+sizeBs l≤100000→(∀ t ∈ cs,t.res.l.length≤1000)→GoodBs lib l→BdsAt A w (.slice la l.length lc) l→ExSt A w V X K mb N vals cs→
 Calls Tryd.prog 42 #[.slice la l.length lc,.pointer (some ⟨V,0,none⟩),.pointer (some ⟨X,0,none⟩),.pointer (some ⟨K,0,none⟩)] w (ExPost A w V X K mb (N+sizeBs l) vals' cs')
def KE (A:Nat→Prop) (w:World) (V X K mb N:Nat) (l:List Bd) (vals:VEnv) (cs:List Tr) (k:Nat) (wr:World):Prop:=
 k≤l.length∧∃ (A1:Nat→Prop) (v1:VEnv) (c1:List Tr),execBs apI (l.take k) vals cs=some (v1,c1)∧ExSt A1 wr V X K mb (N+sizeBs (l.take k)) v1 c1∧Keeps w wr (fun j=>j=K∨j=mb)∧(∀ j,A j→A1 j)∧(∀ j,A1 j→A j∨w.heap.size≤j)
theorem ke_start {A:Nat→Prop} {w:World} {V X K mb N:Nat} {l:List Bd} {vals:VEnv} {cs:List Tr} (h:ExSt A w V X K mb N vals cs):KE A w V X K mb N l vals cs 0 w:=
 ⟨Nat.zero_le _,A,vals,cs,by rw [List.take_zero,execBs],by simpa [sizeBs] using h,Keeps.refl _ _,fun _ a=>a,fun _ a=>.inl a⟩
theorem ke_next {A A1 A2:Nat→Prop} {w wr w2:World} {V X K mb N:Nat} {l:List Bd} {vals v2:VEnv} {cs c2:List Tr} {k:Nat} (hk:k < l.length) (he:execBs apI (l.take (k+1)) vals cs=some (v2,c2)) {M:Nat} (hs:ExSt A2 w2 V X K mb M v2 c2) (hM:M≤N+sizeBs (l.take (k+1))) (h1:Keeps w wr (fun j=>j=K∨j=mb)) (h2:Keeps wr w2 (fun j=>j=K∨j=mb))
 (hu:∀ j,A j→A1 j) (hn:∀ j,A1 j→A j∨w.heap.size≤j) (hu2:∀ j,A1 j→A2 j) (hn2:∀ j,A2 j→A1 j∨wr.heap.size≤j):KE A w V X K mb N l vals cs (k+1) w2:=
 ⟨hk,A2,v2,c2,he,hs.count hM,h1.same h2,fun j a=>hu2 j (hu j a),fun j a=>by
   rcases hn2 j a with a|a
   · exact hn j a
   · exact .inr (Nat.le_trans h1.size a)⟩
theorem SMapLe.store {P:Program} {t kt et:TypeId} {z:Value} (M:SmapT P t kt et z) {w:World} {b N:Nat} {m:ByteArray→Option Value} (h:SMapLe P kt w b m N) {s:ByteArray} (hs:s.size≤maxLen) (v:Value) (hn:N < maxLen):
 ∃ w',(Instr.mapUpdate t (.map (some b)) (.string s) v).run P w=.ok () w'∧SMapLe P kt w' b (fun y=>if y=s then some v else m y) (N+1)∧w.grownBy w' (some b):=by
 obtain ⟨n,hnN,h⟩:=h
 obtain ⟨w',hrun,r1,r2⟩:=h.put M hs v (by omega)
 exact ⟨w',hrun,⟨_,by split <;> omega,r1⟩,r2⟩
theorem vl_newu {A:Nat→Prop} {W w1 w5:World} {v:Value} {x:Vl} (h:VlAt (NewB A w1) w5 v x) (hb:Below W.heap.size W w1) (hA:∀ k,A k→k < W.heap.size):VlAt (NewU A W w5) w5 v x:=
 h.stays ⟨Nat.le_refl _,fun b hb2 a=>⟨rfl,by
  rcases a with a|a
  · exact .inl ⟨a,hA b a⟩
  · exact .inr ⟨Nat.le_trans hb.size a,hb2⟩⟩⟩
theorem ke_res {A A1:Nat→Prop} {w wr W1 w5 w6:World} {V X K mb N M1:Nat} {l:List Bd} {vals v1:VEnv} {cs c1:List Tr} {k:Nat} {s:ByteArray} {x:Vl} {u:Value} {m5:ByteArray→Option Value} (hk:k < l.length) (he:execBs apI (l.take (k+1)) vals cs=some (v1.put s x,c1)) (hs1:ExSt A1 W1 V X K mb M1 v1 c1) (hM:M1+1≤N+sizeBs (l.take (k+1)))
 (h1:Keeps w wr (fun j=>j=K∨j=mb)) (h0:Below wr.heap.size wr W1) (hb5:Below W1.heap.size W1 w5) (hv5:VlAt (NewU A1 W1 w5) w5 u x) (he5:∀ s,(∀ v,m5 s=some v→VlAt A1 w5 v (v1 s))∧(m5 s=none→v1 s=noVl)) (hm6:SMapLe Tryd.prog 9 w6 mb (fun y=>if y=s then some u else m5 y) (M1+1)) (hg6:w5.grownBy w6 (some mb))
 (hu:∀ j,A j→A1 j) (hn:∀ j,A1 j→A j∨w.heap.size≤j):KE A w V X K mb N l vals cs (k+1) w6:=by
 have hst:Stays A1 (NewU A1 W1 w5) w5 w5:=⟨Nat.le_refl _,fun b hb a=>⟨rfl,.inl ⟨a,hs1.alt b a⟩⟩⟩
 have hp:=(hs1.grow hb5).put (m:=m5) (EnvOf.stays (show EnvOf A1 w5 m5 v1 from he5) hst) hv5 hm6 hg6
 refine ke_next hk he hp hM h1 (((Keeps.of_below _ h0).same (Keeps.of_below _ hb5)).same (Keeps.of_grown hg6 (fun j e=>.inl (.inr (by simpa using e.symm))))) hu hn (fun j a=>.inl ⟨a,hs1.alt j a⟩) (fun j a=>?_)
 rcases a with a|a
 · exact .inl a.1
 · exact .inr (Nat.le_trans h0.size a.1)
theorem ke_call {A A1:Nat→Prop} {w wr W1 w6:World} {V X K mb N M1:Nat} {l:List Bd} {vals v1:VEnv} {cs r:List Tr} {t:Tr} {k:Nat} {s:ByteArray} {u:Value} {m5:ByteArray→Option Value} (hk:k < l.length) (he:execBs apI (l.take (k+1)) vals cs=some (v1.put s t.res,r)) (hs1:ExSt A1 W1 V X K mb M1 v1 (t :: r)) (hM:M1+1≤N+sizeBs (l.take (k+1)))
 (h1:Keeps w wr (fun j=>j=K∨j=mb)) (h0:Below wr.heap.size wr W1) (hv5:VlAt A1 W1 u t.res) (he5:EnvOf A1 W1 m5 v1) (hm6:SMapLe Tryd.prog 9 w6 mb (fun y=>if y=s then some u else m5 y) (M1+1)) (hg6:W1.grownBy w6 (some mb))
 (hu:∀ j,A j→A1 j) (hn:∀ j,A1 j→A j∨w.heap.size≤j) {a:Option Addr} {n c:Nat} (hrn:n=r.length) (hr:RowsAt TrE A1 w6 (.slice a r.length c) r):KE A w V X K mb N l vals cs (k+1) (w6.setCell ⟨K,0,none⟩ (.slice a n c)):=by
 have hp:=(hs1.put he5 hv5 hm6 hg6).next hrn hr
 exact ke_next hk he hp hM h1 (((Keeps.of_below _ h0).same (Keeps.of_grown hg6 (fun j e=>.inl (.inr (by simpa using e.symm))))).same ((keeps_set w6 K 0 (.slice a n c)).mono (fun j e=>.inl e))) hu hn (fun j a=>a) (fun j a=>.inl a)
theorem exec_step (m:Nat) (ih:XEx m):XEx (m+1):=by
 intro lib l la lc A w V X K mb N M vals cs vals' cs' hm hN hex hle hM hMl hcs hgd hv hst
 have IH:=Lib.hid ih
 have hll:=len_sizeBs l
 have HEX:=Lib.hid hex
 have HLE:=Lib.hid hle
 have HCS:=Lib.hid hcs
 have HGD:=Lib.hid hgd
 have HV:=Lib.hid hv
 have HST:=Lib.hid hst
 clear ih hex hle hcs hgd hv hst
 go_enter Tryd.func42,Tryd.ntmps42
 go_wp2
 go_loopw [9] (fun i wr=>∃ k:Nat,i=.int .i64 k∧KE A w V X K mb N l vals cs k wr) (fun i _=>l.length - (intOf i).toNat)
 case atStart=>exact ⟨0,rfl,ke_start HST.out⟩
 case round=>
  obtain ⟨k,rfl,hk,A1,v1,c1,hx1,hs1,hk1,hu1,hn1⟩:=hrel
  by_cases hlt:k < l.length
  · obtain ⟨v2,c2,hb2,hx2⟩:=exec_at HEX.out hlt hx1
    obtain ⟨hlen1,pre,hpre⟩:=execBs_len apI _ _ _ _ _ M hx1 HLE.out hM HCS.out
    have hst1:Stays A A1 w wr:=⟨hk1.size,fun b hb a=>⟨hk1.block b hb (fun e=>by
     rcases e with e|e
     · exact HST.out.nK (e ▸ a)
     · exact HST.out.nM (e ▸ a)),hu1 b a⟩⟩
    obtain ⟨b,off,cap,aa,ac,ta,tc,ea,ec,he,hb,y0,y1,y2,y3,y4,y5,y6,y7,hsa,hta,hea,hok⟩:=(HV.out.stays hst1).at hlt
    simp only [Value.slice.injEq] at he
    obtain ⟨rfl,-,rfl⟩:=he
    have hgb:=HGD.out.mem (at' l k) (at_mem hlt)
    have hszt:=sizeBs_take l k hlt
    have hszl:=sizeBs_take_le l (k+1)
    have hsb:=sizeB_at l k hlt
    generalize hbd:at' l k=bd at *
    obtain ⟨tn,lst,op,num,nm,args,thn,els⟩:=bd
    simp only [Bd.to,Bd.list,Bd.op,Bd.num,Bd.name,Bd.args,Bd.thn,Bd.els] at *
    rw [GoodB] at hgb
    obtain ⟨hgn,hga,hform,hgt,hge⟩:=hgb
    rw [execB_eq] at hb2
    rw [sizeB] at hszt hsb
    have hB:Below wr.heap.size wr (wr.alloc (.cells #[.string tn,.bool lst,.int .u8 op,.int .i64 num,.string nm,.slice aa args.length ac,.slice ta thn.length tc,.slice ea els.length ec] 112)):=bel_alloc (Below.refl _ _)
    have HB:=Lib.hid hB
    have HS1:=Lib.hid (hs1.below hB)
    have HSA:=Lib.hid (hsa.stays (Stays.of_below hB))
    have HTA:=Lib.hid (hta.stays (Stays.of_below hB))
    have HEA:=Lib.hid (hea.stays (Stays.of_below hB))
    have hK0:Keeps wr (wr.alloc (.cells #[.string tn,.bool lst,.int .u8 op,.int .i64 num,.string nm,.slice aa args.length ac,.slice ta thn.length tc,.slice ea els.length ec] 112)) (fun j=>j=K∨j=mb):=Keeps.of_below _ hB
    have HK0:=Lib.hid hK0
    obtain ⟨x0,x1,x2,x3,x4,x5,x6,x7⟩:=cells8 (at_new0 wr (.cells #[.string tn,.bool lst,.int .u8 op,.int .i64 num,.string nm,.slice aa args.length ac,.slice ta thn.length tc,.slice ea els.length ec] 112))
    have HC1:Hid (∀ t ∈ c1,t.res.l.length≤1000):=Lib.hid (fun t ht=>HCS.out t (by rw [hpre];exact List.mem_append.2 (.inr ht)))
    have HL1:=Lib.hid hlen1
    have HK1:=Lib.hid hk1
    have HX2:=Lib.hid hx2
    have HU1:=Lib.hid hu1
    have HN1:=Lib.hid hn1
    have v0:=cell_blk HS1.out.v 0 rfl
    have e0:=cell_blk HS1.out.x 0 rfl
    have HFORM:=Lib.hid hform
    have HBOX:=Lib.hid (at_new0 wr (.cells #[.string tn,.bool lst,.int .u8 op,.int .i64 num,.string nm,.slice aa args.length ac,.slice ta thn.length tc,.slice ea els.length ec] 112))
    have HGA:=Lib.hid hga
    have HGT:=Lib.hid (And.intro hgt hge)
    clear hs1 hsa hta hea hB hK0 hlen1 hk1 hx2 hu1 hn1 hx1 hst1 hform hga hgt hge hpre
    by_cases h83:op=83
    · have hl1:args.length=1:=by have:=HFORM.out;omega
      subst h83
      rw [if_pos rfl] at hb2
      obtain ⟨b',off',cap',he,_,_,_,r0,hs0⟩:=HSA.out.at (j:=0) (by omega)
      simp only [Value.slice.injEq] at he
      obtain ⟨rfl,-,rfl⟩:=he
      simp only [Nat.add_zero] at r0
      obtain ⟨m0,a0,k0,hm0,hg0,hv0⟩:=HS1.out.env.find (at' args 0)
      have hlk:=(hm0.below (bel_drew (Below.refl _ _))).find MVm hs0 false
      simp only [Bool.false_eq_true,if_false] at hlk
      rw [hg0] at hlk
      have fl1:=field_vl1
      have i0:(0:Int) < (args.length:Int):=by omega
      have i0n:0 < args.length:=by omega
      clear hl1 hm0 hg0 hv0
      by_cases hz:(v1 (at' args 0)).n=0
      · rw [if_neg (fun h=>h hz)] at hb2
        have dz:((v1 (at' args 0)).n != 0)=false:=by simp [hz]
        have dz2:((v1 (at' args 0)).n == 0)=true:=by simp [hz]
        have HCC:Hid (∀ w1,Below (wr.alloc (.cells #[.string tn,.bool lst,.int .u8 83,.int .i64 num,.string nm,.slice (some ⟨b',off',none⟩) args.length ac,.slice ta thn.length tc,.slice ea els.length ec] 112)).heap.size (wr.alloc (.cells #[.string tn,.bool lst,.int .u8 83,.int .i64 num,.string nm,.slice (some ⟨b',off',none⟩) args.length ac,.slice ta thn.length tc,.slice ea els.length ec] 112)) w1→Calls Tryd.prog 42 #[.slice ea els.length ec,.pointer (some ⟨V,0,none⟩),.pointer (some ⟨X,0,none⟩),.pointer (some ⟨K,0,none⟩)] w1 (ExPost A1 w1 V X K mb (N+sizeBs (l.take k)+sizeBs els) v2 c2)):=Lib.hid (fun w1 h1=>IH.out lib els ea ec A1 w1 V X K mb (N+sizeBs (l.take k)) (M+sizeBs (l.take k)) v1 c1 v2 c2 (by omega) (by omega) hb2 HL1.out (by omega) (by omega) HC1.out HGT.out.2 (HEA.out.stays (Stays.of_below h1)) (HS1.out.below h1))
        clear hz hb2
        go_wp2
        go_region
        all_goals
         go_wp2_with fail
         (with_reducible refine (HCC.out _ (by (repeat (with_reducible first|exact Below.refl _ _|refine bel_drew ?_|refine bel_alloc ?_|(apply bel_step;focus assumption))))).mono ?_)
         rintro e w5 ⟨A2,rfl,hs5,hk5,hu5,hn5⟩
         have hbw:Below wr.heap.size wr (wr.alloc (.cells #[.string tn,.bool lst,.int .u8 83,.int .i64 num,.string nm,.slice (some ⟨b',off',none⟩) args.length ac,.slice ta thn.length tc,.slice ea els.length ec] 112)):=HB.out
         have HKE:=Lib.hid (ke_next (N:=N) hlt HX2.out hs5 (by omega) HK1.out ((Keeps.of_below _ (hbw.trans (((by (repeat (with_reducible first|exact Below.refl _ _|refine bel_drew ?_|refine bel_alloc ?_|(apply bel_step;focus assumption)))):Below (wr.alloc (.cells #[.string tn,.bool lst,.int .u8 83,.int .i64 num,.string nm,.slice (some ⟨b',off',none⟩) args.length ac,.slice ta thn.length tc,.slice ea els.length ec] 112)).heap.size (wr.alloc (.cells #[.string tn,.bool lst,.int .u8 83,.int .i64 num,.string nm,.slice (some ⟨b',off',none⟩) args.length ac,.slice ta thn.length tc,.slice ea els.length ec] 112)) _).mono hbw.size))).same hk5) HU1.out HN1.out hu5 (fun j a=>by
          rcases hn5 j a with a|a
          · exact .inl a
          · exact .inr (Nat.le_trans (hbw.trans (((by (repeat (with_reducible first|exact Below.refl _ _|refine bel_drew ?_|refine bel_alloc ?_|(apply bel_step;focus assumption)))):Below (wr.alloc (.cells #[.string tn,.bool lst,.int .u8 83,.int .i64 num,.string nm,.slice (some ⟨b',off',none⟩) args.length ac,.slice ta thn.length tc,.slice ea els.length ec] 112)).heap.size (wr.alloc (.cells #[.string tn,.bool lst,.int .u8 83,.int .i64 num,.string nm,.slice (some ⟨b',off',none⟩) args.length ac,.slice ta thn.length tc,.slice ea els.length ec] 112)) _).mono hbw.size)).size a)))
         clear hs5 hk5 hu5 hn5 hbw
         go_wp2
         exact ⟨⟨k+1,by go_num,HKE.out⟩,by simp [intOf];omega⟩
      · rw [if_pos hz] at hb2
        have dz:((v1 (at' args 0)).n != 0)=true:=by simpa using hz
        have dz2:((v1 (at' args 0)).n == 0)=false:=by simpa using hz
        have HCC:Hid (∀ w1,Below (wr.alloc (.cells #[.string tn,.bool lst,.int .u8 83,.int .i64 num,.string nm,.slice (some ⟨b',off',none⟩) args.length ac,.slice ta thn.length tc,.slice ea els.length ec] 112)).heap.size (wr.alloc (.cells #[.string tn,.bool lst,.int .u8 83,.int .i64 num,.string nm,.slice (some ⟨b',off',none⟩) args.length ac,.slice ta thn.length tc,.slice ea els.length ec] 112)) w1→Calls Tryd.prog 42 #[.slice ta thn.length tc,.pointer (some ⟨V,0,none⟩),.pointer (some ⟨X,0,none⟩),.pointer (some ⟨K,0,none⟩)] w1 (ExPost A1 w1 V X K mb (N+sizeBs (l.take k)+sizeBs thn) v2 c2)):=Lib.hid (fun w1 h1=>IH.out lib thn ta tc A1 w1 V X K mb (N+sizeBs (l.take k)) (M+sizeBs (l.take k)) v1 c1 v2 c2 (by omega) (by omega) hb2 HL1.out (by omega) (by omega) HC1.out HGT.out.1 (HTA.out.stays (Stays.of_below h1)) (HS1.out.below h1))
        clear hz hb2
        go_wp2
        go_region
        all_goals
         go_wp2_with fail
         (with_reducible refine (HCC.out _ (by (repeat (with_reducible first|exact Below.refl _ _|refine bel_drew ?_|refine bel_alloc ?_|(apply bel_step;focus assumption))))).mono ?_)
         rintro e w5 ⟨A2,rfl,hs5,hk5,hu5,hn5⟩
         have hbw:Below wr.heap.size wr (wr.alloc (.cells #[.string tn,.bool lst,.int .u8 83,.int .i64 num,.string nm,.slice (some ⟨b',off',none⟩) args.length ac,.slice ta thn.length tc,.slice ea els.length ec] 112)):=HB.out
         have HKE:=Lib.hid (ke_next (N:=N) hlt HX2.out hs5 (by omega) HK1.out ((Keeps.of_below _ (hbw.trans (((by (repeat (with_reducible first|exact Below.refl _ _|refine bel_drew ?_|refine bel_alloc ?_|(apply bel_step;focus assumption)))):Below (wr.alloc (.cells #[.string tn,.bool lst,.int .u8 83,.int .i64 num,.string nm,.slice (some ⟨b',off',none⟩) args.length ac,.slice ta thn.length tc,.slice ea els.length ec] 112)).heap.size (wr.alloc (.cells #[.string tn,.bool lst,.int .u8 83,.int .i64 num,.string nm,.slice (some ⟨b',off',none⟩) args.length ac,.slice ta thn.length tc,.slice ea els.length ec] 112)) _).mono hbw.size))).same hk5) HU1.out HN1.out hu5 (fun j a=>by
          rcases hn5 j a with a|a
          · exact .inl a
          · exact .inr (Nat.le_trans (hbw.trans (((by (repeat (with_reducible first|exact Below.refl _ _|refine bel_drew ?_|refine bel_alloc ?_|(apply bel_step;focus assumption)))):Below (wr.alloc (.cells #[.string tn,.bool lst,.int .u8 83,.int .i64 num,.string nm,.slice (some ⟨b',off',none⟩) args.length ac,.slice ta thn.length tc,.slice ea els.length ec] 112)).heap.size (wr.alloc (.cells #[.string tn,.bool lst,.int .u8 83,.int .i64 num,.string nm,.slice (some ⟨b',off',none⟩) args.length ac,.slice ta thn.length tc,.slice ea els.length ec] 112)) _).mono hbw.size)).size a)))
         clear hs5 hk5 hu5 hn5 hbw
         go_wp2
         exact ⟨⟨k+1,by go_num,HKE.out⟩,by simp [intOf];omega⟩
    · by_cases h85:op=85
      · subst h85
        rw [if_neg (by omega),if_pos rfl] at hb2
        cases c1 with
        | nil=>simp at hb2
        | cons t r=>
        simp only [Option.some.injEq,Prod.mk.injEq] at hb2
        obtain ⟨rfl,rfl⟩:=hb2
        obtain ⟨ak,ck,hkc,hkr⟩:=HS1.out.k
        have hkr0:=hkr
        obtain ⟨b',off',cap',cs0,he,hb',hcap,_,hcl,hC⟩:=hkr.at (j:=0) (by simp)
        simp only [Value.slice.injEq] at he
        obtain ⟨rfl,-,rfl⟩:=he
        have hC':TrC A1 (wr.alloc (.cells #[.string tn,.bool lst,.int .u8 85,.int .i64 num,.string nm,.slice aa args.length ac,.slice ta thn.length tc,.slice ea els.length ec] 112)) cs0 t:=hC
        obtain ⟨_,a5,k5,h45⟩:=hC'.c2.c2.form
        have g2:=hcl 2 (by decide)
        have g3:=hcl 3 (by decide)
        have g4:=hcl 4 (by decide)
        rw [show cs0 2=.bool t.res.list from hC'.c2.c0] at g2
        rw [show cs0 3=.int .i64 t.res.n from hC'.c2.c1] at g3
        rw [show cs0 4=.slice a5 t.res.l.length k5 from h45] at g4
        simp only [Nat.zero_mul,Nat.add_zero] at g2 g3 g4
        have hvt:VlAt A1 (wr.alloc (.cells #[.string tn,.bool lst,.int .u8 85,.int .i64 num,.string nm,.slice aa args.length ac,.slice ta thn.length tc,.slice ea els.length ec] 112)) (.agg #[.bool t.res.list,.int .i64 t.res.n,.slice a5 t.res.l.length k5]) t.res:=⟨a5,k5,rfl,hC'.c2.ok,by rw [← h45];exact hC'.c2.c2⟩
        have hsn:tn.size≤maxLen:=hok.1
        have hbd:Below (wr.alloc (.cells #[.string tn,.bool lst,.int .u8 85,.int .i64 num,.string nm,.slice aa args.length ac,.slice ta thn.length tc,.slice ea els.length ec] 112)).heap.size (wr.alloc (.cells #[.string tn,.bool lst,.int .u8 85,.int .i64 num,.string nm,.slice aa args.length ac,.slice ta thn.length tc,.slice ea els.length ec] 112)) (wr.alloc (.cells #[.string tn,.bool lst,.int .u8 85,.int .i64 num,.string nm,.slice aa args.length ac,.slice ta thn.length tc,.slice ea els.length ec] 112)).drew.drew:=bel_drew (bel_drew (Below.refl _ _))
        obtain ⟨m5,hm5,he5⟩:=(HS1.out.below hbd).env
        obtain ⟨w6,hrun,hm6,hg6⟩:=hm5.store MVm hsn (.agg #[.bool t.res.list,.int .i64 t.res.n,.slice a5 t.res.l.length k5]) (by unfold maxLen;omega)
        have hKlt:=blk_lt hkc
        have hkc6:=(hg6.block K hKlt (fun e=>HS1.out.mK (by simpa using e.symm))).trans hkc
        have kc:=cell_blk hkc 0 rfl
        have kc6:=cell_blk hkc6 0 rfl
        have kf6:=unfrozen hkc6
        have HST6:Hid (Stays A1 A1 (wr.alloc (.cells #[.string tn,.bool lst,.int .u8 85,.int .i64 num,.string nm,.slice aa args.length ac,.slice ta thn.length tc,.slice ea els.length ec] 112)) w6):=Lib.hid ⟨hg6.size,fun b hb a=>⟨hg6.block b hb (fun e=>HS1.out.nM (by rw [← show b=mb by simpa using e];exact a)),a⟩⟩
        have HTL:=Lib.hid (rows_tail hkr0 (by simp))
        have HCAP:=Lib.hid hcap
        have HKC:Hid (∀ (a:Option Addr) (n c:Nat),n=r.length→RowsAt TrE A1 w6 (.slice a r.length c) r→KE A w V X K mb N l vals cs (k+1) (w6.setCell ⟨K,0,none⟩ (.slice a n c))):=Lib.hid (fun a n c h1 h2=>ke_call (N:=N) hlt HX2.out (HS1.out.below hbd) (by omega) HK1.out (HB.out.trans (hbd.mono HB.out.size)) (hvt.stays (Stays.of_below hbd)) he5 hm6 hg6 HU1.out HN1.out h1 h2)
        have i0:(0:Int) < ((t :: r).length:Int):=by rw [List.length_cons];omega
        have i0n:0 < (t :: r).length:=by simp
        clear hcap hkr hkr0 hcl hC hC' h45 hvt hm5 he5 hm6 hg6 hkc hkc6 hKlt
        go_wp2
        go_region
        all_goals
         go_wp2
         go_region
        all_goals
         go_wp2
         refine ⟨⟨k+1,by go_num,HKC.out _ _ _ rfl ?_⟩,by simp [intOf];omega⟩
         have hcap:=HCAP.out
         rw [List.length_cons] at hcap
         split
         · exact rows_none (by omega)
         · exact (HTL.out.stays HST6.out:RowsAt TrE A1 w6 (.slice (some ⟨b',off'+6,none⟩) ((t :: r).length - 1) (ck - 1)) (t :: r).tail)
      ·
       have d83:(op == 83)=false:=by simpa using h83
       have d85:(op == 85)=false:=by simpa using h85
       rw [if_neg h83,if_neg h85] at hb2
       cases hr:resultB apI op num lst args v1 with
       | none=>rw [hr] at hb2;simp at hb2
       | some x=>
       rw [hr] at hb2
       simp only [Option.map_some,Option.some.injEq,Prod.mk.injEq] at hb2
       obtain ⟨rfl,rfl⟩:=hb2
       have hg8:op=80∨op=81∧args.length=1∨op=82∧(8≤num∧num≤23)∧args.length=2∨op=86∨op=87∧args.length=2∨(op=88∨op=89∨op=90)∧args.length=1:=by have:=HFORM.out;omega
       have HRES:Hid (∀ w1,Below (wr.alloc (.cells #[.string tn,.bool lst,.int .u8 op,.int .i64 num,.string nm,.slice aa args.length ac,.slice ta thn.length tc,.slice ea els.length ec] 112)).heap.size (wr.alloc (.cells #[.string tn,.bool lst,.int .u8 op,.int .i64 num,.string nm,.slice aa args.length ac,.slice ta thn.length tc,.slice ea els.length ec] 112)) w1→Calls Tryd.prog 43 #[.agg #[.string tn,.bool lst,.int .u8 op,.int .i64 num,.string nm,.slice aa args.length ac,.slice ta thn.length tc,.slice ea els.length ec],.map (some mb)] w1 (RsPost x A1 w1)):=Lib.hid (fun w1 h1=>result_any tn nm lst op num aa ta ea ac thn.length tc els.length ec args mb _ v1 A1 w1 x hr hok.2.2.1 hg8 (HL1.out.mono (by omega)) (HSA.out.stays (Stays.of_below h1)) (HS1.out.below h1).env)
       have hsn:tn.size≤maxLen:=hok.1
       clear hr h83 h85 hg8
       go_wp2
       clear y0 y1 y2 y3 y4 y5 y6 y7
       generalize (wr.alloc (.cells #[.string tn,.bool lst,.int .u8 op,.int .i64 num,.string nm,.slice aa args.length ac,.slice ta thn.length tc,.slice ea els.length ec] 112))=W1 at *
       go_region
       go_upto_region 3 with fail
       go_region_law (first
        | ((try go_simp);(try go_at_call 43);(with_reducible refine (HRES.out _ (by (repeat (with_reducible first|exact Below.refl _ _|refine bel_drew ?_|refine bel_alloc ?_|(apply bel_step;focus assumption))))).mono ?_);rintro e w5 ⟨vv,rfl,hv5,hb5⟩;have HV5:=Lib.hid (vl_newu hv5 (W:=W1) (by (repeat (with_reducible first|exact Below.refl _ _|refine bel_drew ?_|refine bel_alloc ?_|(apply bel_step;focus assumption)))) HS1.out.alt);obtain ⟨a5,k5,rfl,hn5,hr5⟩:=hv5;have hb15:Below W1.heap.size W1 w5:=(by (repeat (with_reducible first|exact Below.refl _ _|refine bel_drew ?_|refine bel_alloc ?_|(apply bel_step;focus assumption))));have HB5:=Lib.hid hb15;obtain ⟨q0,q1,q2,q3,q4,q5,q6,q7⟩:=cells8 (blk_below hb15 HBOX.out);have v5:=cell_blk (HS1.out.below hb15).v 0 rfl;obtain ⟨m5,hm5,he5⟩:=(HS1.out.below hb15).env;obtain ⟨w6,hrun,hm6,hg6⟩:=hm5.store MVm hsn (.agg #[.bool x.list,.int .i64 x.n,.slice a5 x.l.length k5]) (by unfold maxLen;omega);have HKE:=Lib.hid (ke_res (N:=N) hlt HX2.out HS1.out (by omega) HK1.out HB.out HB5.out HV5.out he5 hm6 hg6 HU1.out HN1.out);clear hb5 hb15 hm5 he5 hm6 hg6 hr5 HV5)
        )
       all_goals
        go_wp2
        exact ⟨⟨k+1,by go_num,HKE.out⟩,by simp [intOf];omega⟩
  · obtain rfl:k=l.length:=by omega
    have hlt':¬ (l.length:Int) < (l.length:Int):=by omega
    rw [List.take_length] at hx1 hs1
    have h2:=hx1.symm.trans HEX.out
    simp only [Option.some.injEq,Prod.mk.injEq] at h2
    obtain ⟨rfl,rfl⟩:=h2
    have HS1:=Lib.hid (And.intro hs1 (And.intro hk1 (And.intro hu1 hn1)))
    clear hs1 hk1 hu1 hn1
    go_wp2
    (try simp only [Exit.inBlock,Exit.then])
    refine bodyPost_end (results_none rfl _ _ _) rfl ?_
    exact ⟨A1,rfl,HS1.out.1,HS1.out.2.1,HS1.out.2.2.1,HS1.out.2.2.2⟩
theorem exec_any:∀ m,XEx m
 | 0=>fun _ _ _ _ _ _ _ _ _ _ _ _ _ _ _ _ h=>absurd h (Nat.not_lt_zero _)
 | m+1=>exec_step m (exec_any m)
end Go.Proofs.YtjhimhlebbamoaaDoor
