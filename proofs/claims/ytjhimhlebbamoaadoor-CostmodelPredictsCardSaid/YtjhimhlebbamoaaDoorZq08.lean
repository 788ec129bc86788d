/- Contracts and plain lemmas (ElemD, Up, Ari, GrA): no statement of the seat is proved here. -/
import Derived.Test.YtjhimhlebbamoaaDoorZq02
import Derived.Test.YtjhimhlebbamoaaDoorZq01
/- Rows of whatever elements:rows that stay,rows of the call's own,append. No function of the program is walked here. -/
set_option linter.unusedSimpArgs false
set_option linter.unusedVariables false
set_option linter.unusedSectionVars false
set_option maxRecDepth 100000
set_option maxHeartbeats 3200000
namespace Go.Proofs.YtjhimhlebbamoaaDoor
open Go.RowKit
theorem at_append_lt {α:Type} [Inhabited α] {l m:List α} {j:Nat} (h:j < l.length):at' (l ++ m) j=at' l j:=by simp [at',List.getD_eq_getElem?_getD,List.getElem?_append_left h]
theorem at_append_ge {α:Type} [Inhabited α] {l m:List α} {j:Nat} (h:l.length≤j):at' (l ++ m) j=at' m (j - l.length):=by simp [at',List.getD_eq_getElem?_getD,List.getElem?_append_right h]
structure Elem (α:Type) where
 size:Nat
 C:(Nat→Prop)→World→(Nat→Value)→α→Prop
 stays:∀ {A A':Nat→Prop} {w w':World},Stays A A' w w'→∀ {c:Nat→Value} {x:α},C A w c x→C A' w' c x
 congr:∀ {A:Nat→Prop} {w:World} {c d:Nat→Value} {x:α},C A w c x→(∀ i,i < size→d i=c i)→C A w d x
 one:∀ {A:Nat→Prop} {w:World} {c:Nat→Value} {x:α},C A w c x→∀ i,i < size→(c i).oneCell'=true
variable {α:Type} [Inhabited α]
def RowsAt (E:Elem α) (A:Nat→Prop) (w:World) (v:Value) (l:List α):Prop:=∃ cs,RowAt A w E.size v l.length cs∧∀ j,j < l.length→E.C A w (cs j) (at' l j)
theorem RowsAt.stays {E:Elem α} {A A':Nat→Prop} {w w':World} (hs:Stays A A' w w') {v:Value} {l:List α} (h:RowsAt E A w v l):RowsAt E A' w' v l:=by
 obtain ⟨cs,h1,h2⟩:=h;exact ⟨cs,h1.stays hs,fun j hj=>E.stays hs (h2 j hj)⟩
theorem RowsAt.form {E:Elem α} {A:Nat→Prop} {w:World} {v:Value} {l:List α} (h:RowsAt E A w v l):l.length≤maxLen∧∃ a c,v=.slice a l.length c:=by
 obtain ⟨cs,h,_⟩:=h;exact ⟨h.1,h.form⟩
theorem RowsAt.nil (E:Elem α) (A:Nat→Prop) (w:World):RowsAt E A w (.slice none 0 0) []:=⟨fun _ _=>undef,RowAt.empty _ _ _,fun j hj=>by simp at hj⟩
theorem RowsAt.at {E:Elem α} {A:Nat→Prop} {w:World} {v:Value} {l:List α} (h:RowsAt E A w v l) {j:Nat} (hj:j < l.length):
 ∃ b off cap cs,v=.slice (some ⟨b,off,none⟩) l.length cap∧b < w.heap.size∧l.length≤cap∧A b∧(∀ i,i < E.size→w.cell? ⟨b,off+j * E.size+i,none⟩=some (cs i))∧E.C A w cs (at' l j):=by
 obtain ⟨cs,h,hf⟩:=h
 obtain ⟨b,off,cap,rfl,h1,h2,h3,h4⟩:=h.at hj
 exact ⟨b,off,cap,cs j,rfl,h1,h2,h3,h4,hf j hj⟩
def RowsOwn (E:Elem α) (e:Nat) (D:Nat→Prop) (base:Nat) (w:World) (v:Value) (l:List α):Prop:=∃ xs,w.ownsRow base e E.size v l.length xs∧∀ j,j < l.length→E.C (fun k=>D k∧v.ownBlock≠some k) w (fun i=>vat xs (j * E.size+i)) (at' l j)
theorem RowsOwn.nil (E:Elem α) (e:Nat) (D:Nat→Prop) (base:Nat) (w:World):RowsOwn E e D base w (.slice none 0 0) []:=⟨[],World.ownsRow_nil _ _ _ _,fun j hj=>by simp at hj⟩
theorem RowsOwn.form {E:Elem α} {e:Nat} {D:Nat→Prop} {base:Nat} {w:World} {v:Value} {l:List α} (h:RowsOwn E e D base w v l):∃ a c,v=.slice a l.length c:=by obtain ⟨xs,h,_⟩:=h;exact row_form h
theorem RowsOwn.lt {E:Elem α} {e:Nat} {D:Nat→Prop} {base:Nat} {w:World} {v:Value} {l:List α} (h:RowsOwn E e D base w v l) {k:Nat} (he:v.ownBlock=some k):base≤k∧k < w.heap.size:=by obtain ⟨xs,h,_⟩:=h;exact h.lt k he
theorem RowsOwn.below {E:Elem α} {e:Nat} {D:Nat→Prop} {base:Nat} {w w':World} {v:Value} {l:List α} (h:RowsOwn E e D base w v l) (hb:Below w.heap.size w w'):RowsOwn E e D base w' v l:=by
 obtain ⟨xs,h1,h2⟩:=h;exact ⟨xs,row_below h1 hb,fun j hj=>E.stays (Stays.of_below hb) (h2 j hj)⟩
theorem RowsOwn.keeps {E:Elem α} {e:Nat} {D:Nat→Prop} {base:Nat} {w w':World} {v:Value} {l:List α} {S:Nat→Prop} (h:RowsOwn E e D base w v l) (hk:Keeps w w' S) (h1:∀ k,v.ownBlock=some k→¬ S k) (h2:∀ k,k < w.heap.size→D k→¬ S k):RowsOwn E e D base w' v l:=by
 obtain ⟨xs,hx,hf⟩:=h
 exact ⟨xs,row_keeps hx hk h1,fun j hj=>E.stays (hk.stays fun k a hlt=>h2 k hlt a.1) (hf j hj)⟩
theorem RowsOwn.mono {E:Elem α} {e:Nat} {D D':Nat→Prop} {base:Nat} {w:World} {v:Value} {l:List α} (h:RowsOwn E e D base w v l) (hd:∀ k,D k→D' k):RowsOwn E e D' base w v l:=by
 obtain ⟨xs,hx,hf⟩:=h
 exact ⟨xs,hx,fun j hj=>E.stays ⟨Nat.le_refl _,fun b _ a=>⟨rfl,hd b a.1,a.2⟩⟩ (hf j hj)⟩
theorem RowsOwn.shut {E:Elem α} {e:Nat} {D:Nat→Prop} {base:Nat} {w:World} {v:Value} {l:List α} {A:Nat→Prop} (h:RowsOwn E e D base w v l) (hA:∀ k,D k→A k) (hv:∀ k,v.ownBlock=some k→A k) (hl:l.length≤maxLen):RowsAt E A w v l:=by
 obtain ⟨xs,hx,hf⟩:=h
 have hs:Stays (fun k=>D k∧v.ownBlock≠some k) A w w:=⟨Nat.le_refl _,fun b hb a=>⟨rfl,hA b a.1⟩⟩
 refine ⟨fun j i=>vat xs (j * E.size+i),⟨hl,?_⟩,fun j hj=>E.stays hs (hf j hj)⟩
 obtain ⟨h0,⟨rfl,h1⟩|⟨g,cap,cur,rfl,hg,hh,hn,hm,hc,ht⟩⟩:=hx
 · exact ⟨none,0,by rw [h1],by omega,fun _=>rfl,fun h=>by omega⟩
 · have hgl:g < w.heap.size:=by rw [Array.getElem?_eq_some_iff] at hh;exact hh.1
   refine ⟨_,cap,rfl,hn,nofun,fun hp=>⟨g,0,rfl,hgl,hv g rfl,fun j hj i hi=>?_⟩⟩
   have hlt:j * E.size+i < l.length * E.size:=by
    calc j * E.size+i < j * E.size+E.size:=by omega
     _=(j+1) * E.size:=by rw [Nat.add_mul,Nat.one_mul]
     _≤l.length * E.size:=Nat.mul_le_mul_right _ hj
   rw [Nat.zero_add]
   simp only [World.cell?,hh,vat,List.getD_eq_getElem?_getD]
   have hx2:xs[j * E.size+i]?=cur[j * E.size+i]?:=by rw [← ht,List.getElem?_take,if_pos (by omega)];simp
   rw [← hx2,List.getElem?_eq_getElem (by omega)];rfl
theorem RowsAt.src {E:Elem α} (hsz:0 < E.size) {A:Nat→Prop} {w:World} {u:Value} {m:List α} (h:RowsAt E A w u m):
 ∃ news:List Value,news.length=m.length * E.size∧(u=.slice none 0 0∧m.length=0∧news=[]∨∃ ad c,u=.slice (some ad) m.length c∧∀ j x,news[j]?=some x→w.cell? (ad.add j)=some x)∧(∀ x ∈ news,x.oneCell'=true)∧∀ j,j < m.length→E.C A w (fun i=>vat news (j * E.size+i)) (at' m j):=by
 obtain ⟨cs,⟨h0,a,cap,rfl,h1,h2,h3⟩,hf⟩:=h
 have hdiv:∀ j,j < m.length * E.size→j / E.size < m.length∧j % E.size < E.size:=fun j hj=>⟨(Nat.div_lt_iff_lt_mul hsz).2 hj,Nat.mod_lt _ hsz⟩
 refine ⟨(List.range (m.length * E.size)).map (fun j=>cs (j / E.size) (j % E.size)),by simp,?_,?_,?_⟩
 · cases a with
   | none=>
     have hc:=h2 rfl
     have hm:m.length=0:=by omega
     exact .inl ⟨by rw [hc,hm],hm,by simp [hm]⟩
   | some ad=>
     refine .inr ⟨ad,cap,rfl,fun j x hj=>?_⟩
     have hjl:j < m.length * E.size:=by
      rcases Nat.lt_or_ge j (m.length * E.size) with h|h
      · exact h
      · rw [List.getElem?_eq_none (by simpa using h)] at hj;simp at hj
     have hd:=hdiv j hjl
     obtain ⟨b,off,he,hb,hA,hc⟩:=h3 (Nat.lt_of_le_of_lt (Nat.zero_le _) hd.1)
     simp only [Option.some.injEq] at he
     subst he
     rw [List.getElem?_map,List.getElem?_range hjl] at hj
     simp only [Option.map_some,Option.some.injEq] at hj
     subst hj
     have e0:(⟨b,off,none⟩:Addr).add j=⟨b,off+j,none⟩:=by
      simp only [Addr.add];split
      · subst_vars;rfl
      · rfl
     have e1:off+j / E.size * E.size+j % E.size=off+j:=by
      rw [Nat.add_assoc,Nat.mul_comm,Nat.div_add_mod]
     rw [e0,← hc (j / E.size) hd.1 (j % E.size) hd.2,e1]
 · intro x hx
   simp only [List.mem_map,List.mem_range] at hx
   obtain ⟨j,hj,rfl⟩:=hx
   exact E.one (hf _ (hdiv j hj).1) _ (hdiv j hj).2
 · intro j hj
   refine E.congr (hf j hj) fun i hi=>?_
   have hlt:j * E.size+i < m.length * E.size:=by
    calc j * E.size+i < j * E.size+E.size:=by omega
     _=(j+1) * E.size:=by rw [Nat.add_mul,Nat.one_mul]
     _≤m.length * E.size:=Nat.mul_le_mul_right _ hj
   simp only [vat,List.getD_eq_getElem?_getD]
   rw [List.getElem?_map,List.getElem?_range hlt]
   have a1:(j * E.size+i) / E.size=j:=by rw [Nat.mul_comm,Nat.mul_add_div hsz,Nat.div_eq_of_lt hi,Nat.add_zero]
   have a2:(j * E.size+i) % E.size=i:=by rw [Nat.mul_comm,Nat.mul_add_mod,Nat.mod_eq_of_lt hi]
   simp [a1,a2]
theorem wpl_rows {E:Elem α} {t e bytes:Nat} {z:Value} (R:RowT Tryd.prog t e z E.size bytes) (hzs:z.cells.size=E.size) (hsz:0 < E.size) {ops:Array Oper} {rest:List Oper} {o:Oper} {a:Act} {Q:Exit→Act→World→Prop} (hgd:o.guard=none) (s x:Operand) (ho:o.op=.call { callee:=.builtin .append,args:=#[s,x],argTypes:=#[t,t] })
 {base:Nat} {w:World} {v u:Value} {l m:List α} {D D':Nat→Prop} (hs:a.eval s=v) (hx:a.eval x=u) (hown:RowsOwn E e D base w v l) (hu:RowsAt E D' w u m) (hD:∀ b,b < w.heap.size→D' b→D b∧v.ownBlock≠some b)
 (hl:l.length+m.length≤maxLen) (hby:(l.length+m.length) * bytes≤140737488355328) (hbase:base≤w.heap.size)
 (h:∀ a' c' w1,RowsOwn E e D base w1 (.slice a' (l.length+m.length) c') (l ++ m)→w.grownBy w1 v.ownBlock→NewOr w v (.slice a' (l.length+m.length) c')→wpList Tryd.prog ops Q rest (a.put o.dst (.slice a' (l.length+m.length) c')) w1):
 wpList Tryd.prog ops Q (o :: rest) a w:=by
 obtain ⟨xs,hrow,hf⟩:=hown
 obtain ⟨news,n1,n2,n3,n4⟩:=hu.src hsz
 refine wpl_append R hzs hsz hgd s x ho hs hx hrow n2 n1 n3 hl hby hbase ?_
 intro v' w1 h1 h2 h3
 obtain ⟨a',c',rfl⟩:=row_form h1
 refine h a' c' w1 ⟨xs ++ news,by rw [List.length_append];exact h1,fun j hj=>?_⟩ h2 h3
 have key:∀ b,b < w.heap.size→v.ownBlock≠some b→w1.heap[b]?=w.heap[b]?∧(Value.slice a' (l.length+m.length) c').ownBlock≠some b:=fun b hb hne=>by
  refine ⟨h2.block b hb (fun e=>hne e.symm),fun e=>?_⟩
  rcases h3 b e with e|e
  · exact hne e
  · omega
 have hst1:Stays (fun k=>D k∧v.ownBlock≠some k) (fun k=>D k∧(Value.slice a' (l.length+m.length) c').ownBlock≠some k) w w1:=⟨h2.size,fun b hb hne=>⟨(key b hb hne.2).1,hne.1,(key b hb hne.2).2⟩⟩
 have hst2:Stays D' (fun k=>D k∧(Value.slice a' (l.length+m.length) c').ownBlock≠some k) w w1:=⟨h2.size,fun b hb hd=>⟨(key b hb (hD b hb hd).2).1,(hD b hb hd).1,(key b hb (hD b hb hd).2).2⟩⟩
 have hxl:=hrow.1
 have hmul:∀ p q i,p < q→i < E.size→p * E.size+i < q * E.size:=fun p q i hp hi=>by
  calc p * E.size+i < p * E.size+E.size:=by omega
   _=(p+1) * E.size:=by rw [Nat.add_mul,Nat.one_mul]
   _≤q * E.size:=Nat.mul_le_mul_right _ hp
 by_cases hjl:j < l.length
 · rw [at_append_lt hjl]
   refine E.congr (E.stays hst1 (hf j hjl)) fun i hi=>?_
   simp only [vat,List.getD_eq_getElem?_getD]
   rw [List.getElem?_append_left (by rw [hxl];exact hmul _ _ _ hjl hi)]
 · have hjm:j - l.length < m.length:=by rw [List.length_append] at hj;omega
   rw [at_append_ge (by omega)]
   refine E.congr (E.stays hst2 (n4 _ hjm)) fun i hi=>?_
   simp only [vat,List.getD_eq_getElem?_getD]
   have e1:l.length * E.size≤j * E.size:=Nat.mul_le_mul_right _ (by omega)
   rw [List.getElem?_append_right (by omega),show j * E.size+i - xs.length=(j - l.length) * E.size+i by rw [hxl,Nat.sub_mul];omega]
theorem rows_1 {E:Elem α} {A:Nat→Prop} {w:World} {g:Nat} {cs:Array Value} {e:Nat} {x:α} (h:w.heap[g]?=some (.cells cs e (0,0))) (hA:A g) (hs:cs.size=E.size) (hc:E.C A w (fun i=>cs.getD i undef) x):RowsAt E A w (.slice (some ⟨g,0,none⟩) 1 1) [x]:=by
 have hgl:g < w.heap.size:=by rw [Array.getElem?_eq_some_iff] at h;exact h.1
 refine ⟨fun j i=>cs.getD i undef,⟨by unfold maxLen;simp,_,_,rfl,Nat.le_refl _,nofun,fun _=>⟨g,0,rfl,hgl,hA,fun j hj i hi=>?_⟩⟩,fun j hj=>?_⟩
 · obtain rfl:j=0:=by simp at hj;exact hj
   simp only [World.cell?,h,Nat.zero_mul,Nat.zero_add]
   rw [Array.getElem?_eq_getElem (by omega),Array.getD_eq_getD_getElem?,Array.getElem?_eq_getElem (by omega)];rfl
 · obtain rfl:j=0:=by simp at hj;exact hj
   exact hc
def StrE:Elem ByteArray where
 size:=1
 C:=fun _ _ c x=>c 0=.string x∧x.size≤maxLen
 stays:=fun _ _ _ h=>h
 congr:=fun h e=>⟨(e 0 (by omega)).trans h.1,h.2⟩
 one:=fun h i hi=>by obtain rfl:i=0:=by omega
                     rw [h.1];rfl
theorem strs_rows {A:Nat→Prop} {w:World} {v:Value} {l:List ByteArray}:StrsAt A w v l ↔ RowsAt StrE A w v l:=Iff.rfl
end Go.Proofs.YtjhimhlebbamoaaDoor
/- Words:data from a block on. -/
namespace Go.Proofs.YtjhimhlebbamoaaDoor
open Go.RowKit
def NewB (A:Nat→Prop) (w:World) (k:Nat):Prop:=A k∨w.heap.size≤k
theorem stays_newB {A:Nat→Prop} {w w':World} (h:Below w.heap.size w w'):Stays A (NewB A w) w w':=⟨h.size,fun b hb a=>⟨h.block b hb,.inl a⟩⟩
def Up (B:Nat) (k:Nat):Prop:=B≤k
/- a block that stays -/
theorem blk_new {w:World} {x:Obj} {g:Nat} (h:g=w.heap.size):(w.alloc x).heap[g]?=some x:=by subst h;exact heap_alloc_new w x
theorem blk_alloc {w:World} {x y:Obj} {g:Nat} (h:w.heap[g]?=some y):(w.alloc x).heap[g]?=some y:=by
 have hg:g < w.heap.size:=by rw [Array.getElem?_eq_some_iff] at h;exact h.1
 rw [Below.heap_alloc _ _ _ hg];exact h
theorem blk_drew {w:World} {y:Obj} {g:Nat} (h:w.heap[g]?=some y):w.drew.heap[g]?=some y:=h
theorem blk_below {w w':World} {y:Obj} {g:Nat} (hb:Below w.heap.size w w') (h:w.heap[g]?=some y):w'.heap[g]?=some y:=by
 have hg:g < w.heap.size:=by rw [Array.getElem?_eq_some_iff] at h;exact h.1
 rw [hb.block g hg];exact h
/- a world that is later -/
theorem bel_alloc {w w':World} {x:Obj} (h:Below w.heap.size w w'):Below w.heap.size w (w'.alloc x):=h.alloc h.size x
theorem bel_drew {w w':World} (h:Below w.heap.size w w'):Below w.heap.size w w'.drew:=below_drewN h 1
theorem bel_step {w w1 w2:World} (h:Below w1.heap.size w1 w2) (h0:Below w.heap.size w w1):Below w.heap.size w w2:=h0.trans (h.mono h0.size)
theorem stays_upup {B B':Nat} {w:World} (h:B≤B'):Stays (Up B') (Up B) w w:=⟨Nat.le_refl _,fun b _ a=>⟨rfl,Nat.le_trans h a⟩⟩
theorem at_old (w:World) (x y:Obj):((w.alloc x).alloc y).heap[w.heap.size]?=some x:=by
 rw [Below.heap_alloc _ _ _ (by simp)];exact at_new0 w x
theorem blk_set {w:World} {g o b:Nat} {y:Obj} {x:Value} (h:w.heap[b]?=some y) (hne:b≠g):(w.setCell ⟨g,o,none⟩ x).heap[b]?=some y:=by
 have hb:b < w.heap.size:=by rw [Array.getElem?_eq_some_iff] at h;exact h.1
 rw [(keeps_set w g o x).block b hb hne];exact h
theorem cells3 {w:World} {b e:Nat} {v0 v1 v2:Value} (h:w.heap[b]?=some (.cells #[v0,v1,v2] e (0,0))):w.cell? ⟨b,0,none⟩=some v0∧w.cell? ⟨b,1,none⟩=some v1∧w.cell? ⟨b,2,none⟩=some v2:=
 ⟨cell_blk h 0 rfl,cell_blk h 1 rfl,cell_blk h 2 rfl⟩
theorem cells4 {w:World} {b e:Nat} {v0 v1 v2 v3:Value} (h:w.heap[b]?=some (.cells #[v0,v1,v2,v3] e (0,0))):
 w.cell? ⟨b,0,none⟩=some v0∧w.cell? ⟨b,1,none⟩=some v1∧w.cell? ⟨b,2,none⟩=some v2∧w.cell? ⟨b,3,none⟩=some v3:=
 ⟨cell_blk h 0 rfl,cell_blk h 1 rfl,cell_blk h 2 rfl,cell_blk h 3 rfl⟩
theorem cells6 {w:World} {b e:Nat} {v0 v1 v2 v3 v4 v5:Value} (h:w.heap[b]?=some (.cells #[v0,v1,v2,v3,v4,v5] e (0,0))):
 w.cell? ⟨b,0,none⟩=some v0∧w.cell? ⟨b,1,none⟩=some v1∧w.cell? ⟨b,2,none⟩=some v2∧w.cell? ⟨b,3,none⟩=some v3∧w.cell? ⟨b,4,none⟩=some v4∧w.cell? ⟨b,5,none⟩=some v5:=
 ⟨cell_blk h 0 rfl,cell_blk h 1 rfl,cell_blk h 2 rfl,cell_blk h 3 rfl,cell_blk h 4 rfl,cell_blk h 5 rfl⟩
theorem set3 {w:World} {b e:Nat} {v0 v1 v2:Value} (h:w.heap[b]?=some (.cells #[v0,v1,v2] e (0,0))) (x0 x1 x2:Value):
 (((w.setCell ⟨b,0,none⟩ x0).setCell ⟨b,1,none⟩ x1).setCell ⟨b,2,none⟩ x2).heap[b]?=some (.cells #[x0,x1,x2] e (0,0)):=by
 have h3:=heap_setCell_same _ b 2 _ _ x2 (heap_setCell_same _ b 1 _ _ x1 (heap_setCell_same w b 0 _ _ x0 h))
 simpa only [List.setIfInBounds_toArray,List.set_cons_zero,List.set_cons_succ] using h3
theorem keeps_set3 (w:World) (g:Nat) (x0 x1 x2:Value):Keeps w (((w.setCell ⟨g,0,none⟩ x0).setCell ⟨g,1,none⟩ x1).setCell ⟨g,2,none⟩ x2) (fun k=>k=g):=((keeps_set w g 0 x0).same (keeps_set _ g 1 x1)).same (keeps_set _ g 2 x2)
theorem bel_sets3 {w0 w:World} {g:Nat} {x0 x1 x2:Value} (h:Below w0.heap.size w0 w) (hg:w0.heap.size≤g):Below w0.heap.size w0 (((w.setCell ⟨g,0,none⟩ x0).setCell ⟨g,1,none⟩ x1).setCell ⟨g,2,none⟩ x2):=((h.setCell hg _).setCell hg _).setCell hg _
theorem stays_keep {A:Nat→Prop} {w w':World} {g:Nat} (h:Keeps w w' (fun k=>k=g)) (hA:∀ k,A k→k < w.heap.size→k≠g):Stays A A w w':=⟨h.size,fun b hb a=>⟨h.block b hb (hA b a hb),a⟩⟩
theorem results_cell_row2 {P:Program} {fn:Func} {p q:Tmp} {ty:TypeId} (h:fn.results=#[.cell p ty,.tmp q]) (tmps:Array Value) (w:World) (g:Nat) (t:TypeId) (cs:Array Value) (fr:Nat × Nat) (d:TypeDesc) (v2:Value)
 (hp:tmps.getD p undef=.pointer (some ⟨g,0,none⟩)) (hg:w.heap[g]?=some (.cells cs t fr)) (hq:tmps.getD q undef=v2)
 (hu:P.underlying ty=some d) (hd:(match d with|.struct _|.array _ _=>true|_=>false)=true) (hi:(P.info? ty).map (·.size)=some cs.size):
 (results fn tmps).run P w=.ok (.tuple #[.agg cs,v2]) w:=by
 have hp':tmps[p]?.getD undef=.pointer (some ⟨g,0,none⟩):=by simpa using hp
 have hq':tmps[q]?.getD undef=v2:=by simpa using hq
 simp [results,h,hp',hq',asAddr,run_loadVar_row w g t ty cs fr d hg hu hd hi]
end Go.Proofs.YtjhimhlebbamoaaDoor
/- Walks of package arith:Apply,divide,number. -/
namespace Go.Proofs.YtjhimhlebbamoaaDoor
open Go.RowKit
def apI (op x y:Int):Int × Int:=
 if op=8 then (wrap64 (x+y),0) else if op=9 then (wrap64 (x - y),0) else if op=10 then (wrap64 (x * y),0)
 else if op=11 then (if y=0 then (0,11) else (wrap64 (x.tdiv y),0)) else if op=12 then (if y=0 then (0,11) else (x.tmod y,0))
 else if op=13 then (bits .and .i64 x y,0) else if op=14 then (bits .or .i64 x y,0) else if op=15 then (bits .xor .i64 x y,0)
 else if op=16 then (if x=y then 1 else 0,0) else if op=17 then (if x=y then 0 else 1,0)
 else if op=18 then (if x < y then 1 else 0,0) else if op=19 then (if x≤y then 1 else 0,0)
 else if op=20 then (if y < x then 1 else 0,0) else if op=21 then (if y≤x then 1 else 0,0)
 else if op=22 then (if x≠0∧y≠0 then 1 else 0,0) else if op=23 then (if x≠0∨y≠0 then 1 else 0,0) else (0,7)
def ApPost (op x y:Int) (w:World) (e:Ending) (w':World):Prop:=e=.returned (.tuple #[.int .i64 (apI op x y).1,.int .i64 (apI op x y).2])∧w=w'
theorem number_A (b:Bool) (w:World):Calls Tryd.prog 73 #[.bool b] w fun e w'=>e=.returned (.int .i64 (if b then 1 else 0))∧w=w':=by
 cases b
 all_goals
  go_enter Tryd.func73,Tryd.ntmps73
  go_wp2
  go_ret
  exact ⟨rfl,rfl⟩
theorem divide_A (op x y:Int) (w:World) (h:op=11∨op=12):Calls Tryd.prog 72 #[.int .u8 op,.int .i64 x,.int .i64 y] w (ApPost op x y w):=by
 by_cases h0:y=0
 · subst h0
   have HR:Hid (apI op x 0=(0,11)):=Lib.hid (by rcases h with rfl|rfl <;> simp [apI])
   have d:((0:Int) == 0)=true:=rfl
   clear h
   go_enter Tryd.func72,Tryd.ntmps72
   go_wp2
   go_ret2
   refine ⟨?_,rfl⟩
   rw [HR.out];rfl
 · have d:(y == 0)=false:=by simp [h0]
   rcases h with rfl|rfl
   · have HR:Hid (apI 11 x y=(wrap64 (x.tdiv y),0)):=Lib.hid (by simp [apI,h0])
     go_enter Tryd.func72,Tryd.ntmps72
     go_wp2
     go_ret2
     refine ⟨?_,rfl⟩
     rw [HR.out];rfl
   · have HR:Hid (apI 12 x y=(x.tmod y,0)):=Lib.hid (by simp [apI,h0])
     go_enter Tryd.func72,Tryd.ntmps72
     go_wp2
     go_ret2
     refine ⟨?_,rfl⟩
     rw [HR.out];rfl
theorem apply_plain (k x y:Int) (w:World) (hk:k=8∨k=9∨k=10∨k=13∨k=14∨k=15):Calls Tryd.prog 55 #[.int .u8 k,.int .i64 x,.int .i64 y] w (ApPost k x y w):=by
 rcases hk with rfl|rfl|rfl|rfl|rfl|rfl
 all_goals
  go_enter Tryd.func55,Tryd.ntmps55
  go_wp2
  go_ret2
  refine ⟨?_,rfl⟩
  simp [apI]
theorem apply_div (k x y:Int) (w:World) (hk:k=11∨k=12):Calls Tryd.prog 55 #[.int .u8 k,.int .i64 x,.int .i64 y] w (ApPost k x y w):=by
 have HD:=Lib.hid (divide_A k x y w hk)
 rcases hk with rfl|rfl
 all_goals
  go_enter Tryd.func55,Tryd.ntmps55
  go_wp2_with (go_at_call 72;refine HD.out.mono ?_;rintro e w' ⟨rfl,rfl⟩)
  go_ret2
  exact ⟨rfl,rfl⟩
theorem apply_bit (k x y:Int) (b:Bool) (w:World) (hk:16≤k∧k≤23) (hb:apI k x y=(if b then 1 else 0,0))
 (h16:k=16→(x == y)=b) (h17:k=17→(x != y)=b) (h18:k=18→decide (x < y)=b) (h19:k=19→decide (x≤y)=b) (h20:k=20→decide (y < x)=b) (h21:k=21→decide (y≤x)=b) (h22:k=22→((x != 0) && (y != 0))=b) (h23:k=23→((x != 0) || (y != 0))=b):
 Calls Tryd.prog 55 #[.int .u8 k,.int .i64 x,.int .i64 y] w (ApPost k x y w):=by
 have HB:=Lib.hid hb
 have HN:=Lib.hid (fun b w=>number_A b w)
 clear hb
 obtain ⟨h0,h1⟩:=hk
 have hkk:k=16∨k=17∨k=18∨k=19∨k=20∨k=21∨k=22∨k=23:=by omega
 clear h0 h1
 rcases hkk with rfl|rfl|rfl|rfl|rfl|rfl|rfl|rfl
 · have d:=h16 rfl
   clear h16 h17 h18 h19 h20 h21 h22 h23
   cases b
   all_goals
    go_enter Tryd.func55,Tryd.ntmps55
    go_wp2_with (go_at_call 73;refine (HN.out _ _).mono ?_;rintro e w' ⟨rfl,rfl⟩)
    go_ret2
    refine ⟨?_,rfl⟩
    rw [HB.out];rfl
 · have d:=h17 rfl
   clear h16 h17 h18 h19 h20 h21 h22 h23
   cases b
   all_goals
    go_enter Tryd.func55,Tryd.ntmps55
    go_wp2_with (go_at_call 73;refine (HN.out _ _).mono ?_;rintro e w' ⟨rfl,rfl⟩)
    go_ret2
    refine ⟨?_,rfl⟩
    rw [HB.out];rfl
 · have d:=h18 rfl
   clear h16 h17 h18 h19 h20 h21 h22 h23
   cases b
   all_goals
    go_enter Tryd.func55,Tryd.ntmps55
    go_wp2_with (go_at_call 73;refine (HN.out _ _).mono ?_;rintro e w' ⟨rfl,rfl⟩)
    go_ret2
    refine ⟨?_,rfl⟩
    rw [HB.out];rfl
 · have d:=h19 rfl
   clear h16 h17 h18 h19 h20 h21 h22 h23
   cases b
   all_goals
    go_enter Tryd.func55,Tryd.ntmps55
    go_wp2_with (go_at_call 73;refine (HN.out _ _).mono ?_;rintro e w' ⟨rfl,rfl⟩)
    go_ret2
    refine ⟨?_,rfl⟩
    rw [HB.out];rfl
 · have d:=h20 rfl
   clear h16 h17 h18 h19 h20 h21 h22 h23
   cases b
   all_goals
    go_enter Tryd.func55,Tryd.ntmps55
    go_wp2_with (go_at_call 73;refine (HN.out _ _).mono ?_;rintro e w' ⟨rfl,rfl⟩)
    go_ret2
    refine ⟨?_,rfl⟩
    rw [HB.out];rfl
 · have d:=h21 rfl
   clear h16 h17 h18 h19 h20 h21 h22 h23
   cases b
   all_goals
    go_enter Tryd.func55,Tryd.ntmps55
    go_wp2_with (go_at_call 73;refine (HN.out _ _).mono ?_;rintro e w' ⟨rfl,rfl⟩)
    go_ret2
    refine ⟨?_,rfl⟩
    rw [HB.out];rfl
 · have d:=h22 rfl
   clear h16 h17 h18 h19 h20 h21 h22 h23
   cases hx:(x != 0) <;> cases hy:(y != 0)
   all_goals
    rw [hx,hy] at d
    simp only [Bool.and_true,Bool.and_false] at d
    subst d
    go_enter Tryd.func55,Tryd.ntmps55
    go_wp2_with (go_at_call 73;refine (HN.out _ _).mono ?_;rintro e w' ⟨rfl,rfl⟩)
    go_ret2
    refine ⟨?_,rfl⟩
    rw [HB.out];rfl
 · have d:=h23 rfl
   clear h16 h17 h18 h19 h20 h21 h22 h23
   cases hx:(x != 0) <;> cases hy:(y != 0)
   all_goals
    rw [hx,hy] at d
    simp only [Bool.or_true,Bool.or_false] at d
    subst d
    go_enter Tryd.func55,Tryd.ntmps55
    go_wp2_with (go_at_call 73;refine (HN.out _ _).mono ?_;rintro e w' ⟨rfl,rfl⟩)
    go_ret2
    refine ⟨?_,rfl⟩
    rw [HB.out];rfl
theorem apply_A (k x y:Int) (w:World) (hk:8≤k∧k≤23):Calls Tryd.prog 55 #[.int .u8 k,.int .i64 x,.int .i64 y] w (ApPost k x y w):=by
 by_cases h1:k=8∨k=9∨k=10∨k=13∨k=14∨k=15
 · exact apply_plain k x y w h1
 by_cases h2:k=11∨k=12
 · exact apply_div k x y w h2
 have h3:k=16∨k=17∨k=18∨k=19∨k=20∨k=21∨k=22∨k=23:=by omega
 rcases h3 with rfl|rfl|rfl|rfl|rfl|rfl|rfl|rfl
 · exact apply_bit 16 x y (x == y) w (by omega) (by by_cases h:x=y <;> simp [apI,h]) (fun _=>rfl) (by omega) (by omega) (by omega) (by omega) (by omega) (by omega) (by omega)
 · exact apply_bit 17 x y (x != y) w (by omega) (by by_cases h:x=y <;> simp [apI,h]) (by omega) (fun _=>rfl) (by omega) (by omega) (by omega) (by omega) (by omega) (by omega)
 · exact apply_bit 18 x y (decide (x < y)) w (by omega) (by by_cases h:x < y <;> simp [apI,h]) (by omega) (by omega) (fun _=>rfl) (by omega) (by omega) (by omega) (by omega) (by omega)
 · exact apply_bit 19 x y (decide (x≤y)) w (by omega) (by by_cases h:x≤y <;> simp [apI,h]) (by omega) (by omega) (by omega) (fun _=>rfl) (by omega) (by omega) (by omega) (by omega)
 · exact apply_bit 20 x y (decide (y < x)) w (by omega) (by by_cases h:y < x <;> simp [apI,h]) (by omega) (by omega) (by omega) (by omega) (fun _=>rfl) (by omega) (by omega) (by omega)
 · exact apply_bit 21 x y (decide (y≤x)) w (by omega) (by by_cases h:y≤x <;> simp [apI,h]) (by omega) (by omega) (by omega) (by omega) (by omega) (fun _=>rfl) (by omega) (by omega)
 · exact apply_bit 22 x y ((x != 0) && (y != 0)) w (by omega) (by by_cases h:x=0 <;> by_cases h':y=0 <;> simp [apI,h,h']) (by omega) (by omega) (by omega) (by omega) (by omega) (by omega) (fun _=>rfl) (by omega)
 · exact apply_bit 23 x y ((x != 0) || (y != 0)) w (by omega) (by by_cases h:x=0 <;> by_cases h':y=0 <;> simp [apI,h,h']) (by omega) (by omega) (by omega) (by omega) (by omega) (by omega) (by omega) (fun _=>rfl)
end Go.Proofs.YtjhimhlebbamoaaDoor
/- Walks of package backsteplaw05:small,great,Great:what passes is small. -/
namespace Go.Proofs.YtjhimhlebbamoaaDoor
open Go.RowKit
def SmPost (n:Nd) (g:Nat) (L:Int) (w:World) (e:Ending) (w':World):Prop:=
 ∃ (b:Bool) (L':Int),e=.returned (.bool b)∧w'.heap[g]?=some (.cells #[.int .i64 L'] 3 (0,0))∧Keeps w w' (fun k=>k=g)∧L'≤L∧(b=true→0≤L'∧L'=L - sizeN n)
def GrPost (n:Nd) (w:World) (e:Ending) (w':World):Prop:=∃ b:Bool,e=.returned (.bool b)∧(b=false→sizeN n≤200)∧Below w.heap.size w w'
theorem small_upto (m:Nat):∀ (n:Nd) (v:Value) (A:Nat→Prop) (w:World) (g:Nat) (L D:Int),sizeN n≤m→NdAt A w v n→¬ A g→w.heap[g]?=some (.cells #[.int .i64 L] 3 (0,0))→0≤L∧L≤200→0≤D∧D≤100→
 Calls Tryd.prog 71 #[v,.int .i64 D,.pointer (some ⟨g,0,none⟩)] w (SmPost n g L w):=by
 induction m with
 | zero=>intro n v A w g L D hm;have:=size_pos n;omega
 | succ m ih=>
   intro n v A w g L D hm hv hAg hg hL hD
   have IH:=Lib.hid ih
   clear ih
   obtain ⟨hok,hlen,ka,kc,rfl,hk⟩:=hv.open
   have HS:Hid (∀ j,j < n.kids.length→sizeN (at' n.kids j)≤m):=Lib.hid (fun j hj=>by have:=size_kid n j hj;omega)
   have HZ:=Lib.hid (sizeN_eq n)
   clear hm
   unfold maxLen at hlen
   have hgl:g < w.heap.size:=by rw [Array.getElem?_eq_some_iff] at hg;exact hg.1
   have hA:Below w.heap.size w (w.alloc (.cells #[.int .u8 n.kind,.int .i64 n.num,.string n.name,.slice ka n.kids.length kc] 66)):=bel_alloc (Below.refl _ _)
   have hg1:=blk_below hA hg
   have e1:=cell_blk hg1 0 rfl
   have f1:=unfrozen hg1
   have hg2:=heap_setCell_same _ g 0 _ _ (.int .i64 (L - 1)) hg1
   simp only [List.setIfInBounds_toArray,List.set_cons_zero] at hg2
   have hn2:=blk_set (o:=0) (x:=.int .i64 (L - 1)) (at_new0 w (.cells #[.int .u8 n.kind,.int .i64 n.num,.string n.name,.slice ka n.kids.length kc] 66)) (g:=g) (by omega)
   obtain ⟨n0,n1,n2,n3⟩:=cells4 hn2
   have hK:=(Keeps.of_below (fun k=>k=g) hA).same (keeps_set _ g 0 (.int .i64 (L - 1)))
   have HK:=Lib.hid (hk.stays (hK.stays (fun k a _ e=>hAg (e ▸ a))))
   have HG2:=Lib.hid hg2
   have HKK:=Lib.hid hK
   have hwr:IntKind.i64.wrap (L - 1)=L - 1:=by rw [IntKind.wrap_i64];omega
   have HAG:=Lib.hid hAg
   clear hv hk hg hn2 hg1 hg2 hK hgl
   go_enter Tryd.func71,Tryd.ntmps71
   by_cases c1:L - 1 < 0
   · go_wp2
     go_ret
     exact ⟨false,_,rfl,HG2.out,HKK.out,by omega,fun h=>by cases h⟩
   by_cases c2:D=0
   · subst c2
     go_wp2
     go_ret
     exact ⟨false,_,rfl,HG2.out,HKK.out,by omega,fun h=>by cases h⟩
   have c2':(D == 0)=false:=by simpa using c2
   by_cases c3:(40:Int) < n.name.size
   · go_wp2
     go_ret
     exact ⟨false,_,rfl,HG2.out,HKK.out,by omega,fun h=>by cases h⟩
   have hwd:IntKind.i64.wrap (D - 1)=D - 1:=by rw [IntKind.wrap_i64];omega
   go_wp2
   generalize ((w.alloc (.cells #[.int .u8 n.kind,.int .i64 n.num,.string n.name,.slice ka n.kids.length kc] 66)).setCell ⟨g,0,none⟩ (.int .i64 (L - 1)))=W at *
   go_loopw [31] (fun i wr=>∃ k:Nat,k≤n.kids.length∧i=.int .i64 k∧∃ Lk:Int,wr.heap[g]?=some (.cells #[.int .i64 Lk] 3 (0,0))∧Keeps W wr (fun k=>k=g)∧0≤Lk∧Lk=L - 1 - sizeL (n.kids.take k)) (fun i _=>n.kids.length - (intOf i).toNat)
   case atStart=>exact ⟨0,Nat.zero_le _,rfl,L - 1,HG2.out,Keeps.refl _ _,by omega,by simp [sizeL]⟩
   case round=>
    obtain ⟨k,hkk,rfl,Lk,hgk,hkp,h0,h1⟩:=hrel
    have HKP:=Lib.hid hkp
    have hz:=hkp.size
    have hKW:=HKK.out.size
    by_cases hlt:k < n.kids.length
    · obtain ⟨b,off,cap,ka',kc',he,hb,_,_,q0,q1,q2,q3,hnd⟩:=(HK.out.stays (hkp.stays (fun k a _ e=>HAG.out (e ▸ a)))).at hlt
      simp only [Value.slice.injEq] at he
      obtain ⟨rfl,-,rfl⟩:=he
      have hB:Below wr.heap.size wr (wr.alloc (.cells #[.int .u8 (at' n.kids k).kind,.int .i64 (at' n.kids k).num,.string (at' n.kids k).name,.slice ka' (at' n.kids k).kids.length kc'] 66)):=bel_alloc (Below.refl _ _)
      obtain ⟨kk0,kk1,kk2,kk3⟩:=cells4 (at_new0 wr (.cells #[.int .u8 (at' n.kids k).kind,.int .i64 (at' n.kids k).num,.string (at' n.kids k).name,.slice ka' (at' n.kids k).kids.length kc'] 66))
      have HT:=Lib.hid (sizeL_take n.kids k hlt)
      have HC:=Lib.hid (IH.out (at' n.kids k) _ A _ g Lk (D - 1) (HS.out k hlt) (hnd.stays (Stays.of_below hB)) HAG.out (blk_below hB hgk) ⟨h0,by omega⟩ ⟨by omega,by omega⟩)
      have HB:=Lib.hid hB
      clear hnd hB hkp hgk
      go_wp2_with fail
      refine HC.out.mono ?_
      rintro e w5 ⟨b5,L5,rfl,hg5,hk5,h5,h6⟩
      have HK5:=Lib.hid ((HKP.out.same (Keeps.of_below _ HB.out)).same hk5)
      have HG5:=Lib.hid hg5
      clear hg5 hk5 kk0 kk1 kk2 kk3 HC
      cases b5 with
      | false=>
        go_wp2
        go_ret
        exact ⟨false,L5,rfl,HG5.out,HKK.out.same HK5.out,by omega,fun h=>by cases h⟩
      | true=>
        obtain ⟨h7,h8⟩:=h6 rfl
        go_wp2
        go_roundw
        case rel=>exact ⟨k+1,by omega,by go_num,L5,HG5.out,HK5.out,h7,by rw [h8,h1,HT.out];omega⟩
        case measure=>simp [intOf];omega
    · obtain rfl:k=n.kids.length:=by omega
      have hlt':¬ (n.kids.length:Int) < (n.kids.length:Int):=by omega
      rw [List.take_length] at h1
      have HGK:=Lib.hid hgk
      go_wp2
      go_ret
      exact ⟨true,Lk,rfl,HGK.out,HKK.out.same HKP.out,by omega,fun _=>⟨h0,by rw [HZ.out,h1];push_cast;omega⟩⟩
theorem tgreat_any (n:Nd) (v:Value) (A:Nat→Prop) (w:World) (hv:NdAt A w v n):
 Calls Tryd.prog 54 #[v] w (GrPost n w):=by
 obtain ⟨hok,hlen,ka,kc,rfl,hk⟩:=hv.open
 have hA:Below w.heap.size w ((w.alloc (.cells #[.int .u8 n.kind,.int .i64 n.num,.string n.name,.slice ka n.kids.length kc] 66)).alloc (.cells #[.int .i64 200] 3)):=bel_alloc (bel_alloc (Below.refl _ _))
 have hv2:NdAt (fun k=>k < w.heap.size) w (.agg #[.int .u8 n.kind,.int .i64 n.num,.string n.name,.slice ka n.kids.length kc]) n:=hv.stays ⟨Nat.le_refl _,fun b hb _=>⟨rfl,hb⟩⟩
 have HC:=Lib.hid (small_upto _ n _ _ _ (w.heap.size+1) 200 24 (Nat.le_refl _) (hv2.stays (Stays.of_below hA)) (fun h=>by omega) (at_new w _ _) ⟨by omega,by omega⟩ ⟨by omega,by omega⟩)
 have HB:=Lib.hid hA
 obtain ⟨n0,n1,n2,n3⟩:=cells4 (at_old w (.cells #[.int .u8 n.kind,.int .i64 n.num,.string n.name,.slice ka n.kids.length kc] 66) (.cells #[.int .i64 200] 3))
 clear hv hk hA hv2
 go_enter Tryd.func54,Tryd.ntmps54
 go_wp2_with fail
 refine HC.out.mono ?_
 rintro e w5 ⟨b5,L5,rfl,hg5,hk5,h5,h6⟩
 have HK5:=Lib.hid (HB.out.trans (hk5.below (B:=w.heap.size) (fun k e=>by omega) HB.out.size))
 clear hg5 hk5 HC
 go_wp2
 go_ret
 exact ⟨!b5,rfl,fun h=>by
  obtain ⟨h7,h8⟩:=h6 (by simpa using h)
  omega,HK5.out⟩
theorem pgreat_any (n:Nd) (a0 a1:Value) (k0 k1 k2 k3:Value) (A:Nat→Prop) (w:World) (h0:a0=.slice none 0 0) (h1:a1=.slice none 0 0) (hv:NdAt A w (.agg #[k0,k1,k2,k3]) n):
 Calls Tryd.prog 39 #[.agg #[a0,a1,k0,k1,k2,k3]] w fun e w'=>∃ x:Int,e=.returned (.int .i64 x)∧(x=0∨x=1)∧(x=0→sizeN n≤200)∧Below w.heap.size w w':=by
 subst h0
 subst h1
 obtain ⟨hok,hlen,ka,kc,he,hk⟩:=hv.open
 simp only [Value.agg.injEq] at he
 obtain ⟨rfl,rfl,rfl,rfl⟩:=he
 have hA:Below w.heap.size w (w.alloc (.cells #[.slice none 0 0,.slice none 0 0,.int .u8 n.kind,.int .i64 n.num,.string n.name,.slice ka n.kids.length kc] 106)):=bel_alloc (Below.refl _ _)
 have HC:=Lib.hid (tgreat_any n _ A _ (hv.stays (Stays.of_below hA)))
 have HB:=Lib.hid hA
 have hP:=at_new0 w (.cells #[.slice none 0 0,.slice none 0 0,.int .u8 n.kind,.int .i64 n.num,.string n.name,.slice ka n.kids.length kc] 106)
 obtain ⟨n0,n1,n2,n3,n4,n5⟩:=cells6 hP
 have HP:=Lib.hid hP
 clear hv hk hA hP
 go_enter Tryd.func39,Tryd.ntmps39
 go_wp2_with fail
 refine HC.out.mono ?_
 rintro e w5 ⟨b5,rfl,h5,hb5⟩
 obtain ⟨m0,m1,m2,m3,m4,m5⟩:=cells6 (blk_below hb5 HP.out)
 have HB5:=Lib.hid (HB.out.trans (hb5.mono HB.out.size))
 clear hb5 n0 n1 n2 n3 n4 n5 HC
 cases b5 with
 | true=>
   go_wp2
   go_ret
   exact ⟨1,rfl,.inr rfl,fun h=>by omega,HB5.out⟩
 | false=>
   have H5:Hid (sizeN n≤200):=Lib.hid (h5 rfl)
   clear h5
   go_wp2
   go_loopw [27] (fun i wr=>i=.int .i64 0∧wr=w5) (fun i _=>0)
   case atStart=>exact ⟨rfl,rfl⟩
   case round=>
    obtain ⟨rfl,rfl⟩:=hrel
    go_wp2
    go_loopw [39] (fun i wr2=>i=.int .i64 0∧wr2=wr) (fun i _=>0)
    case atStart=>exact ⟨rfl,rfl⟩
    case round=>
     obtain ⟨rfl,rfl⟩:=hrel
     go_wp2
     go_ret
     exact ⟨0,rfl,.inl rfl,fun _=>H5.out,HB5.out⟩
end Go.Proofs.YtjhimhlebbamoaaDoor
