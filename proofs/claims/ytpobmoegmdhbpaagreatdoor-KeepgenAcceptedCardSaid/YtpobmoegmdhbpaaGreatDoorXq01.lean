/- Contracts and plain lemmas (Lib, Dat, PFun, Smap, Open, DatO, FunA, FunB, FunC, FunD, Keep, FunE, FunF, FunG): no statement of the seat is proved here. -/
import Derived.Test.YtpobmoegmdhbpaaGreatDoorRows
import Derived.WalkKit
import Derived.Lib.Hide
import Derived.Laws.AppendOwnNone
import Derived.BigQuiet
import Derived.Deep.QuietTactic
import Derived.Maps.Own
import Derived.Maps.OwnSet
import Derived.Maps.OwnOps
import Derived.ProofKit
import Derived.OpenShut
import Derived.ShutString
import Derived.ChangeOld
import Derived.SizedLaws
import Derived.Deep.Slices
import Derived.Outline
import Derived.Lib.ConvBytes
/- Slices of integers as lists,and what keeps them:no function of the program is walked here. -/
set_option linter.unusedSimpArgs false
set_option linter.unusedVariables false
set_option linter.unusedSectionVars false
set_option maxRecDepth 100000
set_option maxHeartbeats 3200000
namespace Go.Proofs.YtpobmoegmdhbpaaGreatDoor
open Go.RowKit
def Fits (l:List Int):Prop:=∀ x ∈ l,-9223372036854775808≤x∧x≤9223372036854775807
def nth (l:List Int) (j:Nat):Int:=l[j]?.getD 0
def IntsAt (w:World) (v:Value) (l:List Int):Prop:=
 l.length * 8≤140737488351232∧Fits l∧∃ a cap,v=.slice a l.length cap∧(a=none→cap=0)∧
  (0 < l.length→∃ b off,a=some ⟨b,off,none⟩∧b < w.heap.size∧∀ j,j < l.length→w.cell? ⟨b,off+j,none⟩=some (.int .i64 (nth l j)))
theorem IntsAt.below {w w':World} {v:Value} {l:List Int} (h:IntsAt w v l) (hb:Below w.heap.size w w'):IntsAt w' v l:=by
 obtain ⟨h1,h2,a,cap,rfl,hn,h3⟩:=h
 refine ⟨h1,h2,a,cap,rfl,hn,fun hl=>?_⟩
 obtain ⟨b,off,rfl,hlt,hc⟩:=h3 hl
 exact ⟨b,off,rfl,Nat.lt_of_lt_of_le hlt hb.size,fun j hj=>(hb.cell (p:=⟨b,off+j,none⟩) hlt).trans (hc j hj)⟩
theorem IntsAt.form {w:World} {v:Value} {l:List Int} (h:IntsAt w v l):∃ a c,v=.slice a l.length c:=by
 obtain ⟨_,_,a,c,h,_⟩:=h
 exact ⟨a,c,h⟩
def Own (w:World) (base e:Nat) (v:Value) (l:List Int):Prop:=
 l.length * 8≤140737488351232∧Fits l∧w.ownsRow base e 1 v l.length (l.map (Value.int .i64))
theorem Own.ints {w:World} {base e:Nat} {v:Value} {l:List Int} (h:Own w base e v l):IntsAt w v l:=by
 obtain ⟨h1,h2,h3⟩:=h
 refine ⟨h1,h2,?_⟩
 have h3':=h3
 obtain ⟨_,⟨rfl,hn⟩|⟨g,cap,cur,rfl,hg,hh,hn,hm,hs,ht⟩⟩:=h3
 · exact ⟨none,0,by rw [hn],fun _=>rfl,fun h=>absurd h (by omega)⟩
 · refine ⟨_,cap,rfl,nofun,fun _=>⟨g,0,rfl,?_,fun j hj=>?_⟩⟩
   · exact (h3'.lt g rfl).2
   · rw [Nat.zero_add,h3'.cellAt j (by omega)]
     simp [nth,List.getElem?_eq_getElem hj]
theorem znQ (w:World) (base e:Nat) (l:List Int) (h:l.length * 8≤140737488351232) (hf:Fits l) (hb:base≤w.heap.size):
 Own (w.alloc (.cells (l.map (Value.int .i64)).toArray e)) base e (.slice (some ⟨w.heap.size,0,none⟩) l.length l.length) l:=by
 refine ⟨h,hf,by simp,.inr ⟨w.heap.size,l.length,(l.map (Value.int .i64)).toArray,rfl,hb,?_,Nat.le_refl _,by unfold maxLen;omega,by simp,?_⟩⟩
 · show (w.heap.push _)[w.heap.size]?=_
   simp
 · rw [List.take_of_length_le (by simp)]
theorem Own.form {w:World} {base e:Nat} {v:Value} {l:List Int} (h:Own w base e v l):∃ a c,v=.slice a l.length c:=by
 obtain ⟨_,_,a,c,h,_⟩:=h.ints
 exact ⟨a,c,h⟩
theorem Own.below {w w':World} {base e:Nat} {v:Value} {l:List Int} (h:Own w base e v l) (hb:Below w.heap.size w w'):Own w' base e v l:=by
 obtain ⟨h1,h2,h3⟩:=h
 refine ⟨h1,h2,?_⟩
 obtain ⟨h0,⟨rfl,hn⟩|⟨g,cap,cur,rfl,hg,hh,hn,hm,hs,ht⟩⟩:=h3
 · exact ⟨h0,.inl ⟨rfl,hn⟩⟩
 · refine ⟨h0,.inr ⟨g,cap,cur,rfl,hg,?_,hn,hm,hs,ht⟩⟩
   rw [hb.block g ?_];exact hh
   rw [Array.getElem?_eq_some_iff] at hh;exact hh.1
theorem Own.nil (w:World) (base e:Nat):Own w base e (.slice none 0 0) []:=⟨by simp,fun _ h=>by simp at h,World.ownsRow_nil _ _ _ _⟩
theorem Fits.append {l m:List Int} (h:Fits l) (h':Fits m):Fits (l ++ m):=fun x hx=>by
 rcases List.mem_append.1 hx with hx|hx
 · exact h x hx
 · exact h' x hx
theorem zmt {w w1:World} {base e:Nat} {v v':Value} {l:List Int} {x:Int} (h:Own w base e v l) (hx:-9223372036854775808≤x∧x≤9223372036854775807)
 (hl:(l.length+1) * 8≤140737488351232)
 (h1:w1.ownsRow base e 1 v' (l.length+1) (l.map (Value.int .i64) ++ [.int .i64 x])):Own w1 base e v' (l ++ [x]):=by
 refine ⟨by simpa using hl,h.2.1.append (fun y hy=>by simp at hy;subst hy;exact hx),?_⟩
 simpa using h1
structure RowT (P:Program) (t e:TypeId) (z:Value) (size bytes:Nat):Prop where
 und:P.underlying t=some (.slice e)
 inf:(P.info? e).map (fun i=>(i.zero,i.size,i.bytes))=some (some z,size,bytes)
theorem zal {B:Nat} {a w:World} (h:Below B a w) (n:Nat):Below B a (w.drewN n):=⟨h.os,h.tape,h.output,h.size,h.block⟩
theorem zeU {w w1:World} {o:Obj} {row:Option Nat} (h:(w.alloc o).grownBy w1 row):w.grownBy w1 row:=
 ⟨h.os,h.tape,h.output,by have:=h.size;simp at this;omega,fun k hk hne=>by
   have hk':(w.alloc o).heap[k]?=w.heap[k]?:=Below.heap_alloc _ _ _ hk
   rw [← hk'];exact h.block k (by simp;omega) hne⟩
def NewOr (w:World) (v v':Value):Prop:=∀ k,v'.ownBlock=some k→v.ownBlock=some k∨w.heap.size≤k
theorem zbt {P:Program} (w:World) {t ty e:TypeId} {z:Value} {size bytes:Nat} (R:RowT P t e z size bytes) (hzs:z.cells.size=size) (hsz:0 < size) (base:Nat)
 (v:Value) (n:Nat) (xs:List Value) (hown:w.ownsRow base e size v n xs)
 (a:Addr) (m c:Nat) (news:List Value) (hl:news.length=m * size) (hnews:∀ j u,news[j]?=some u→w.cell? (a.add j)=some u) (h1:∀ u ∈ news,u.oneCell'=true)
 (h63:n+m≤maxLen) (hbytes:(n+m) * bytes≤140737488355328) (hbase:base≤w.heap.size):
 ∃ v' w',(Builtin.append_ #[t,t] ty #[v,.slice (some a) m c]).run P w=.ok v' w'∧w'.ownsRow base e size v' (n+m) (xs ++ news)∧w.grownBy w' v.ownBlock∧NewOr w v v':=by
 obtain ⟨i,hi,hz,hsize,hby⟩:=info_parts R.inf
 obtain ⟨v',w',hr,h2,h3,_⟩:=run_append_own (P:=P) w base t ty e i z size bytes R.und hi hz hsize hby hzs hsz v n xs hown a m c news hl hnews h1 h63 hbytes hbase
 refine ⟨v',w',hr,h2,h3,?_⟩
 rcases hown.2 with ⟨rfl,rfl⟩|⟨g,cap,cur,rfl,hbg,hg,hnc,hcm,hcs,htake⟩
 · obtain rfl:xs=[]:=List.eq_nil_of_length_eq_zero (by simpa using hown.1)
   obtain ⟨v2,w2,hr2,ho2,_,_⟩:=run_append_own (P:=P) w w.heap.size t ty e i z size bytes R.und hi hz hsize hby hzs hsz (.slice none 0 0) 0 [] (World.ownsRow_nil _ _ _ _) a m c news hl hnews h1 h63 hbytes (Nat.le_refl _)
   rw [hr] at hr2
   obtain ⟨rfl,rfl⟩:v'=v2∧w'=w2:=by simpa using hr2
   exact fun k hk=>.inr (ho2.lt k hk).1
 · by_cases hroom:n+m≤cap
   · obtain ⟨w2,hr2,_,_⟩:=run_append_fits (P:=P) w base t ty e i size R.und hi hsize g n cap xs hown a m c news hl hnews h1 hroom
     rw [hr] at hr2
     obtain ⟨rfl,rfl⟩:v'=.slice (some ⟨g,0,none⟩) (n+m) cap∧w'=w2:=by simpa using hr2
     exact fun k hk=>.inl hk
   · subst hsize hby
     have hr2:=run_append_grow (P:=P) w t ty e i z R.und hi hz ⟨g,0,none⟩ n cap xs hown.1 (hown.cells (g:=g) rfl) a m c news hl hnews (by omega) (by simp only [maxLen] at h63;omega) (growslice_fits (by omega) hbytes)
     rw [hr] at hr2
     simp only [Result.ok.injEq] at hr2
     rw [hr2.1]
     intro k hk
     simp only [Value.ownBlock,Option.some.injEq] at hk
     exact .inr (by omega)
theorem zbk {P:Program} {t e:TypeId} {z:Value} {size bytes:Nat} (R:RowT P t e z size bytes) (hzs:z.cells.size=size) (hsz:0 < size) {w:World} {ops:Array Oper} {rest:List Oper} {o:Oper} {a:Act} {Q:Exit→Act→World→Prop} (hgd:o.guard=none) (s x:Operand)
 (ho:o.op=.call { callee:=.builtin .append,args:=#[s,x],argTypes:=#[t,t] })
 {base:Nat} {v u:Value} {n m:Nat} {xs news:List Value} (hs:a.eval s=v) (hx:a.eval x=u) (hown:w.ownsRow base e size v n xs)
 (hu:u=.slice none 0 0∧m=0∧news=[]∨∃ ad c,u=.slice (some ad) m c∧∀ j u,news[j]?=some u→w.cell? (ad.add j)=some u) (hl:news.length=m * size) (h1:∀ u ∈ news,u.oneCell'=true)
 (h63:n+m≤maxLen) (hbytes:(n+m) * bytes≤140737488355328) (hbase:base≤w.heap.size)
 (h:∀ v' w1,w1.ownsRow base e size v' (n+m) (xs ++ news)→w.grownBy w1 v.ownBlock→NewOr w v v'→wpList P ops Q rest (a.put o.dst v') w1):
 wpList P ops Q (o :: rest) a w:=by
 rcases hu with ⟨rfl,rfl,rfl⟩|⟨ad,c,rfl,hnews⟩
 · obtain ⟨i,hi,hz,hsize,hby⟩:=info_parts R.inf
   refine wpList_append_own_none hgd s x t ho base e i size R.und hi v n xs hs hown hx (h v w ?_ (World.grownBy.refl _ _) (fun k hk=>.inl hk))
   simpa using hown
 · refine wpList_plain hgd fun K hK=>?_
   obtain ⟨v',w',hr,h2,h3,h4⟩:=zbt (P:=P) w (ty:=o.type) R hzs hsz base v n xs hown ad m c news hl hnews h1 h63 hbytes hbase
   unfold Oper.wp execOp
   simp only [ho,resolve,invoke,builtin,Sem.run_bind,Sem.run_pure,Result.andThen_ok,List.map_toArray,List.map_cons,List.map_nil,hs,hx,hr]
   exact hK _ _ (h v' w' h2 h3 h4)
theorem IntsAt.src {w:World} {u:Value} {l:List Int} (h:IntsAt w u l):
 u=.slice none 0 0∧l.length=0∧l.map (Value.int .i64)=[]∨∃ ad c,u=.slice (some ad) l.length c∧∀ j u,(l.map (Value.int .i64))[j]?=some u→w.cell? (ad.add j)=some u:=by
 obtain ⟨_,_,a,cap,rfl,hn,hc⟩:=h
 by_cases h0:0 < l.length
 · obtain ⟨b,off,rfl,_,hc⟩:=hc h0
   refine .inr ⟨_,_,rfl,fun j u hj=>?_⟩
   have hj':j < l.length:=by
    rw [List.getElem?_eq_some_iff] at hj;simpa using hj.1
   have:=hc j hj'
   simp only [List.getElem?_map,List.getElem?_eq_getElem hj',Option.map_some,Option.some.injEq] at hj
   rw [← hj,Addr.add]
   simp only [nth,List.getElem?_eq_getElem hj',Option.getD_some] at this
   split
   · next h=>subst h;exact this
   · exact this
 · obtain rfl:l=[]:=List.eq_nil_of_length_eq_zero (by omega)
   cases a with
   | none=>exact .inl ⟨by rw [hn rfl];rfl,rfl,rfl⟩
   | some ad=>exact .inr ⟨ad,cap,rfl,fun j u hj=>by simp at hj⟩
theorem zhQ {P:Program} {t e:TypeId} (R:RowT P t e (.int .i64 0) 1 8) {w:World} {ops:Array Oper} {rest:List Oper} {o:Oper} {a:Act} {Q:Exit→Act→World→Prop} (hgd:o.guard=none) (s x:Operand)
 (ho:o.op=.call { callee:=.builtin .append,args:=#[s,x],argTypes:=#[t,t] })
 {base:Nat} {v u:Value} {l m:List Int} (hs:a.eval s=v) (hx:a.eval x=u)
 (hown:Own w base e v l) (hu:IntsAt w u m) (hl:(l.length+m.length) * 8≤140737488351232) (hbase:base≤w.heap.size)
 (h:∀ v' w1,Own w1 base e v' (l ++ m)→w.grownBy w1 v.ownBlock→NewOr w v v'→wpList P ops Q rest (a.put o.dst v') w1):
 wpList P ops Q (o :: rest) a w:=by
 refine zbk R rfl (by decide) hgd s x ho hs hx hown.2.2 hu.src (by simp) ?_ (by unfold maxLen;omega) (by omega) hbase ?_
 · intro u hu;simp at hu;obtain ⟨_,_,rfl⟩:=hu;rfl
 · intro v' w1 h1 h2 h3
   exact h v' w1 ⟨by simpa using hl,hown.2.1.append hu.2.1,by simpa using h1⟩ h2 h3
theorem Own.base_le {w:World} {base e:Nat} {v:Value} {l:List Int} (h:Own w base e v l):∀ k,v.ownBlock=some k→base≤k:=fun k hk=>(h.2.2.lt k hk).1
def Lies (w:World) (v:Value):Prop:=∀ k,v.ownBlock=some k→k < w.heap.size
def Sep (u v:Value):Prop:=∀ k,u.ownBlock=some k→v.ownBlock=some k→False
theorem zlZ {w:World} {base e size:Nat} {v:Value} {n:Nat} {xs:List Value} (h:w.ownsRow base e size v n xs):Lies w v:=fun k hk=>(h.lt k hk).2
theorem Own.lies {w:World} {base e:Nat} {v:Value} {l:List Int} (h:Own w base e v l):Lies w v:=zlZ h.2.2
theorem zaM {w w':World} {base e size:Nat} {v:Value} {n:Nat} {xs:List Value} (h:w.ownsRow base e size v n xs) (hb:Below w.heap.size w w'):w'.ownsRow base e size v n xs:=by
 obtain ⟨h0,⟨rfl,hn⟩|⟨g,cap,cur,rfl,hg,hh,hn,hm,hs,ht⟩⟩:=h
 · exact ⟨h0,.inl ⟨rfl,hn⟩⟩
 · refine ⟨h0,.inr ⟨g,cap,cur,rfl,hg,?_,hn,hm,hs,ht⟩⟩
   rw [hb.block g ?_];exact hh
   rw [Array.getElem?_eq_some_iff] at hh;exact hh.1
def vat (vs:List Value) (j:Nat):Value:=vs.getD j undef
theorem zgu {P:Program} {t e:TypeId} {z:Value} {bytes:Nat} (R:RowT P t e z 1 bytes) (hz:z.cells.size=1) {wr:World} {ops:Array Oper} {rest:List Oper} {o:Oper} {a:Act} {Q:Exit→Act→World→Prop} (hgd:o.guard=none) (s x:Operand)
 (ho:o.op=.call { callee:=.builtin .append,args:=#[s,x],argTypes:=#[t,t] })
 {base:Nat} {v u:Value} {xs:List Value} (hs:a.eval s=v) (hx:a.eval x=.slice (some ⟨wr.heap.size,0,none⟩) 1 1)
 (hown:wr.ownsRow base e 1 v xs.length xs) (hu:u.oneCell'=true) (hl:(xs.length+1) * bytes≤140737488355328) (hl2:xs.length+1≤maxLen) (hbase:base≤wr.heap.size)
 (h:∀ v' w1,w1.ownsRow base e 1 v' (xs.length+1) (xs ++ [u])→wr.grownBy w1 v.ownBlock→NewOr wr v v'→wpList P ops Q rest (a.put o.dst v') w1):
 wpList P ops Q (o :: rest) a (wr.alloc (.cells #[u] e)):=by
 refine zbk R hz (by decide) hgd s x ho (base:=base) (v:=v) (m:=1) (news:=[u]) hs rfl (hown.alloc _) ?_ rfl ?_ hl2 hl ?_ ?_
 · refine .inr ⟨_,_,hx,?_⟩
   intro j u hj
   match j,hj with
   | 0,hj=>simp at hj;subst hj;simp [Addr.add]
 · intro u' hu';simp at hu';subst hu';exact hu
 · simp;omega
 · intro v' w1 h1 h2 h3
   exact h v' w1 h1 (zeU h2) (fun k hk=>(h3 k hk).imp id (fun h=>by simp at h;omega))
end Go.Proofs.YtpobmoegmdhbpaaGreatDoor
/- Trees,parameters,functions and values in the heap:no function of the program is walked here. -/
namespace Go.Proofs.YtpobmoegmdhbpaaGreatDoor
open Go.RowKit
def In64 (x:Int):Prop:= -9223372036854775808≤x∧x≤9223372036854775807
inductive Nd where
 | mk (kind num:Int) (name:ByteArray) (kids:List Nd)
instance:Inhabited Nd:=⟨.mk 0 0 ByteArray.empty []⟩
def Nd.kind:Nd→Int|.mk k _ _ _=>k
def Nd.num:Nd→Int|.mk _ n _ _=>n
def Nd.name:Nd→ByteArray|.mk _ _ s _=>s
def Nd.kids:Nd→List Nd|.mk _ _ _ l=>l
theorem Nd.eta (n:Nd):Nd.mk n.kind n.num n.name n.kids=n:=by cases n;rfl
structure Par where
 name:ByteArray
 list:Bool
instance:Inhabited Par:=⟨⟨ByteArray.empty,false⟩⟩
structure Fn where
 name:ByteArray
 params:List Par
 list:Bool
 body:Nd
instance:Inhabited Fn:=⟨⟨ByteArray.empty,[],false,default⟩⟩
structure Vl where
 list:Bool
 n:Int
 l:List Int
instance:Inhabited Vl:=⟨⟨false,0,[]⟩⟩
def at' {α:Type} [Inhabited α] (l:List α) (j:Nat):α:=l.getD j default
theorem zax {α:Type} [Inhabited α] {l:List α} {j:Nat} (h:j < l.length):at' l j=l[j]:=by
 rw [at',List.getD_eq_getElem?_getD,List.getElem?_eq_getElem h];rfl
theorem zaT {α:Type} [Inhabited α] {l:List α} {j:Nat} (h:j < l.length):at' l j ∈ l:=by
 rw [zax h];exact List.getElem_mem h
def RowAt (A:Nat→Prop) (w:World) (size:Nat) (v:Value) (n:Nat) (cs:Nat→Nat→Value):Prop:=
 n≤maxLen∧∃ a cap,v=.slice a n cap∧n≤cap∧(a=none→cap=0)∧
  (0 < n→∃ b off,a=some ⟨b,off,none⟩∧b < w.heap.size∧A b∧∀ j,j < n→∀ i,i < size→w.cell? ⟨b,off+j * size+i,none⟩=some (cs j i))
structure Stays (A A':Nat→Prop) (w w':World):Prop where
 size:w.heap.size≤w'.heap.size
 block:∀ b,b < w.heap.size→A b→w'.heap[b]?=w.heap[b]?∧A' b
theorem Stays.of_below {A:Nat→Prop} {w w':World} (h:Below w.heap.size w w'):Stays A A w w':=⟨h.size,fun b hb ha=>⟨h.block b hb,ha⟩⟩
theorem RowAt.stays {A A':Nat→Prop} {w w':World} {size n:Nat} {v:Value} {cs:Nat→Nat→Value} (h:RowAt A w size v n cs) (hs:Stays A A' w w'):RowAt A' w' size v n cs:=by
 obtain ⟨h0,a,cap,rfl,h1,h2,h3⟩:=h
 refine ⟨h0,a,cap,rfl,h1,h2,fun hn=>?_⟩
 obtain ⟨b,off,rfl,hb,hA,hc⟩:=h3 hn
 obtain ⟨e,hA'⟩:=hs.block b hb hA
 refine ⟨b,off,rfl,Nat.lt_of_lt_of_le hb hs.size,hA',fun j hj i hi=>?_⟩
 rw [← hc j hj i hi]
 simp only [World.cell?,e]
theorem RowAt.form {A:Nat→Prop} {w:World} {size n:Nat} {v:Value} {cs:Nat→Nat→Value} (h:RowAt A w size v n cs):∃ a c,v=.slice a n c:=by
 obtain ⟨_,a,c,h,_⟩:=h;exact ⟨a,c,h⟩
theorem RowAt.empty {A:Nat→Prop} (w:World) (size:Nat) (cs:Nat→Nat→Value):RowAt A w size (.slice none 0 0) 0 cs:=⟨Nat.zero_le _,none,0,rfl,Nat.le_refl _,fun _=>rfl,fun h=>absurd h (by omega)⟩
theorem RowAt.at {A:Nat→Prop} {w:World} {size n:Nat} {v:Value} {cs:Nat→Nat→Value} (h:RowAt A w size v n cs) {j:Nat} (hj:j < n):
 ∃ b off cap,v=.slice (some ⟨b,off,none⟩) n cap∧b < w.heap.size∧n≤cap∧A b∧∀ i,i < size→w.cell? ⟨b,off+j * size+i,none⟩=some (cs j i):=by
 obtain ⟨h0,a,cap,rfl,h1,h2,h3⟩:=h
 obtain ⟨b,off,rfl,hb,hA,hc⟩:=h3 (by omega)
 exact ⟨b,off,cap,rfl,hb,h1,hA,fun i hi=>hc j hj i hi⟩
def Nd.Ok1 (n:Nd):Prop:=(0≤n.kind∧n.kind≤255)∧In64 n.num∧n.name.size≤maxLen
inductive KidsAt (A:Nat→Prop) (w:World):Value→List Nd→Prop
 | mk (v:Value) (kids:List Nd) (cs:Nat→Nat→Value) (h:RowAt A w 4 v kids.length cs)
    (hf:∀ j,j < kids.length→cs j 0=.int .u8 (at' kids j).kind∧cs j 1=.int .i64 (at' kids j).num∧cs j 2=.string (at' kids j).name∧(at' kids j).Ok1)
    (hk:∀ j,j < kids.length→KidsAt A w (cs j 3) (at' kids j).kids):KidsAt A w v kids
theorem KidsAt.stays {A A':Nat→Prop} {w w':World} (hs:Stays A A' w w') {v:Value} {kids:List Nd} (h:KidsAt A w v kids):KidsAt A' w' v kids:=by
 induction h with
 | mk v kids cs h hf hk ih=>exact .mk v kids cs (h.stays hs) hf ih
def NdAt (A:Nat→Prop) (w:World) (v:Value) (n:Nd):Prop:=n.Ok1∧∃ kv,v=.agg #[.int .u8 n.kind,.int .i64 n.num,.string n.name,kv]∧KidsAt A w kv n.kids
theorem NdAt.stays {A A':Nat→Prop} {w w':World} (hs:Stays A A' w w') {v:Value} {n:Nd} (h:NdAt A w v n):NdAt A' w' v n:=by
 obtain ⟨h1,kv,rfl,h2⟩:=h;exact ⟨h1,kv,rfl,h2.stays hs⟩
theorem KidsAt.form {A:Nat→Prop} {w:World} {v:Value} {kids:List Nd} (h:KidsAt A w v kids):kids.length≤maxLen∧∃ a c,v=.slice a kids.length c:=by
 cases h with
 | mk _ _ cs h hf hk=>exact ⟨h.1,h.form⟩
theorem KidsAt.at {A:Nat→Prop} {w:World} {v:Value} {kids:List Nd} (h:KidsAt A w v kids) {j:Nat} (hj:j < kids.length):
 ∃ b off cap ka kc,v=.slice (some ⟨b,off,none⟩) kids.length cap∧b < w.heap.size∧kids.length≤cap∧A b∧w.cell? ⟨b,off+j * 4,none⟩=some (.int .u8 (at' kids j).kind)∧w.cell? ⟨b,off+j * 4+1,none⟩=some (.int .i64 (at' kids j).num)∧
   w.cell? ⟨b,off+j * 4+2,none⟩=some (.string (at' kids j).name)∧w.cell? ⟨b,off+j * 4+3,none⟩=some (.slice ka (at' kids j).kids.length kc)∧NdAt A w (.agg #[.int .u8 (at' kids j).kind,.int .i64 (at' kids j).num,.string (at' kids j).name,.slice ka (at' kids j).kids.length kc]) (at' kids j):=by
 cases h with
 | mk _ _ cs h hf hk=>
   obtain ⟨b,off,cap,rfl,h1,h2,h3,h4⟩:=h.at hj
   obtain ⟨e0,e1,e2,e3⟩:=hf j hj
   have hk':=hk j hj
   obtain ⟨_,ka,kc,e4⟩:=hk'.form
   have h43:=h4 3 (by omega)
   rw [e4] at h43 hk'
   refine ⟨b,off,cap,ka,kc,rfl,h1,h2,h3,?_,?_,?_,h43,⟨e3,_,rfl,hk'⟩⟩
   · rw [← e0];exact h4 0 (by omega)
   · rw [← e1];exact h4 1 (by omega)
   · rw [← e2];exact h4 2 (by omega)
theorem NdAt.open {A:Nat→Prop} {w:World} {v:Value} {n:Nd} (h:NdAt A w v n):n.Ok1∧n.kids.length≤maxLen∧∃ ka kc,v=.agg #[.int .u8 n.kind,.int .i64 n.num,.string n.name,.slice ka n.kids.length kc]∧KidsAt A w (.slice ka n.kids.length kc) n.kids:=by
 obtain ⟨h1,kv,rfl,h2⟩:=h
 obtain ⟨h3,ka,kc,rfl⟩:=h2.form
 exact ⟨h1,h3,ka,kc,rfl,h2⟩
theorem KidsAt.nil {A:Nat→Prop} (w:World):KidsAt A w (.slice none 0 0) []:=.mk _ [] (fun _ _=>undef) (RowAt.empty _ _ _) (fun j hj=>by simp at hj) (fun j hj=>by simp at hj)
def ParsAt (A:Nat→Prop) (w:World) (v:Value) (l:List Par):Prop:=
 ∃ cs,RowAt A w 2 v l.length cs∧∀ j,j < l.length→cs j 0=.string (at' l j).name∧cs j 1=.bool (at' l j).list∧(at' l j).name.size≤maxLen
theorem ParsAt.stays {A A':Nat→Prop} {w w':World} (hs:Stays A A' w w') {v:Value} {l:List Par} (h:ParsAt A w v l):ParsAt A' w' v l:=by
 obtain ⟨cs,h1,h2⟩:=h;exact ⟨cs,h1.stays hs,h2⟩
theorem ParsAt.form {A:Nat→Prop} {w:World} {v:Value} {l:List Par} (h:ParsAt A w v l):l.length≤maxLen∧∃ a c,v=.slice a l.length c:=by
 obtain ⟨cs,h,_⟩:=h;exact ⟨h.1,h.form⟩
theorem ParsAt.at {A:Nat→Prop} {w:World} {v:Value} {l:List Par} (h:ParsAt A w v l) {j:Nat} (hj:j < l.length):
 ∃ b off cap,v=.slice (some ⟨b,off,none⟩) l.length cap∧b < w.heap.size∧l.length≤cap∧A b∧w.cell? ⟨b,off+j * 2,none⟩=some (.string (at' l j).name)∧w.cell? ⟨b,off+j * 2+1,none⟩=some (.bool (at' l j).list)∧(at' l j).name.size≤maxLen:=by
 obtain ⟨cs,h,hf⟩:=h
 obtain ⟨b,off,cap,rfl,h1,h2,h3,h4⟩:=h.at hj
 obtain ⟨e0,e1,e2⟩:=hf j hj
 exact ⟨b,off,cap,rfl,h1,h2,h3,by rw [← e0];exact h4 0 (by omega),by rw [← e1];exact h4 1 (by omega),e2⟩
def FnsAt (A:Nat→Prop) (w:World) (v:Value) (l:List Fn):Prop:=
 ∃ cs,RowAt A w 7 v l.length cs∧∀ j,j < l.length→cs j 0=.string (at' l j).name∧(at' l j).name.size≤maxLen∧ParsAt A w (cs j 1) (at' l j).params∧cs j 2=.bool (at' l j).list∧
   cs j 3=.int .u8 (at' l j).body.kind∧cs j 4=.int .i64 (at' l j).body.num∧cs j 5=.string (at' l j).body.name∧(at' l j).body.Ok1∧KidsAt A w (cs j 6) (at' l j).body.kids
theorem FnsAt.stays {A A':Nat→Prop} {w w':World} (hs:Stays A A' w w') {v:Value} {l:List Fn} (h:FnsAt A w v l):FnsAt A' w' v l:=by
 obtain ⟨cs,h1,h2⟩:=h
 refine ⟨cs,h1.stays hs,fun j hj=>?_⟩
 obtain ⟨e0,e1,e2,e3,e4,e5,e6,e7,e8⟩:=h2 j hj
 exact ⟨e0,e1,e2.stays hs,e3,e4,e5,e6,e7,e8.stays hs⟩
theorem FnsAt.form {A:Nat→Prop} {w:World} {v:Value} {l:List Fn} (h:FnsAt A w v l):l.length≤maxLen∧∃ a c,v=.slice a l.length c:=by
 obtain ⟨cs,h,_⟩:=h;exact ⟨h.1,h.form⟩
theorem FnsAt.at {A:Nat→Prop} {w:World} {v:Value} {l:List Fn} (h:FnsAt A w v l) {j:Nat} (hj:j < l.length):
 ∃ b off cap pa pc ka kc,v=.slice (some ⟨b,off,none⟩) l.length cap∧b < w.heap.size∧l.length≤cap∧A b∧w.cell? ⟨b,off+j * 7,none⟩=some (.string (at' l j).name)∧w.cell? ⟨b,off+j * 7+1,none⟩=some (.slice pa (at' l j).params.length pc)∧
   w.cell? ⟨b,off+j * 7+2,none⟩=some (.bool (at' l j).list)∧w.cell? ⟨b,off+j * 7+3,none⟩=some (.int .u8 (at' l j).body.kind)∧w.cell? ⟨b,off+j * 7+4,none⟩=some (.int .i64 (at' l j).body.num)∧
   w.cell? ⟨b,off+j * 7+5,none⟩=some (.string (at' l j).body.name)∧w.cell? ⟨b,off+j * 7+6,none⟩=some (.slice ka (at' l j).body.kids.length kc)∧(at' l j).name.size≤maxLen∧ParsAt A w (.slice pa (at' l j).params.length pc) (at' l j).params∧
   NdAt A w (.agg #[.int .u8 (at' l j).body.kind,.int .i64 (at' l j).body.num,.string (at' l j).body.name,.slice ka (at' l j).body.kids.length kc]) (at' l j).body:=by
 obtain ⟨cs,h,hf⟩:=h
 obtain ⟨b,off,cap,rfl,h1,h2,h3,h4⟩:=h.at hj
 obtain ⟨e0,e1,e2,e3,e4,e5,e6,e7,e8⟩:=hf j hj
 obtain ⟨_,pa,pc,f1⟩:=e2.form
 obtain ⟨_,ka,kc,f2⟩:=e8.form
 have g1:=h4 1 (by omega)
 have g2:=h4 6 (by omega)
 rw [f1] at g1 e2
 rw [f2] at g2 e8
 exact ⟨b,off,cap,pa,pc,ka,kc,rfl,h1,h2,h3,by rw [← e0];exact h4 0 (by omega),g1,by rw [← e3];exact h4 2 (by omega),by rw [← e4];exact h4 3 (by omega),by rw [← e5];exact h4 4 (by omega),by rw [← e6];exact h4 5 (by omega),g2,e1,e2,⟨e7,_,rfl,e8⟩⟩
def StrsAt (A:Nat→Prop) (w:World) (v:Value) (l:List ByteArray):Prop:=
 ∃ cs,RowAt A w 1 v l.length cs∧∀ j,j < l.length→cs j 0=.string (at' l j)∧(at' l j).size≤maxLen
theorem StrsAt.stays {A A':Nat→Prop} {w w':World} (hs:Stays A A' w w') {v:Value} {l:List ByteArray} (h:StrsAt A w v l):StrsAt A' w' v l:=by
 obtain ⟨cs,h1,h2⟩:=h;exact ⟨cs,h1.stays hs,h2⟩
theorem StrsAt.form {A:Nat→Prop} {w:World} {v:Value} {l:List ByteArray} (h:StrsAt A w v l):l.length≤maxLen∧∃ a c,v=.slice a l.length c:=by
 obtain ⟨cs,h,_⟩:=h;exact ⟨h.1,h.form⟩
theorem StrsAt.at {A:Nat→Prop} {w:World} {v:Value} {l:List ByteArray} (h:StrsAt A w v l) {j:Nat} (hj:j < l.length):
 ∃ b off cap,v=.slice (some ⟨b,off,none⟩) l.length cap∧b < w.heap.size∧l.length≤cap∧A b∧w.cell? ⟨b,off+j,none⟩=some (.string (at' l j))∧(at' l j).size≤maxLen:=by
 obtain ⟨cs,h,hf⟩:=h
 obtain ⟨b,off,cap,rfl,h1,h2,h3,h4⟩:=h.at hj
 obtain ⟨e0,e1⟩:=hf j hj
 exact ⟨b,off,cap,rfl,h1,h2,h3,by rw [← e0];simpa using h4 0 (by omega),e1⟩
end Go.Proofs.YtpobmoegmdhbpaaGreatDoor
/- Functions,their validity and their types,as plain definitions:no program in sight. -/
namespace Go.Proofs.YtpobmoegmdhbpaaGreatDoor
def bstr (l:List UInt8):ByteArray:=⟨l.toArray⟩
def keywords:List ByteArray:=[bstr [105,110,116],bstr [97,114,114,97,121],bstr [115,116,97,99,107],bstr [112,114,111,99],bstr [109,97,105,110],bstr [112,117,115,104],bstr [112,111,112],
 bstr [114,101,97,100],bstr [117,110,114,101,97,100],bstr [119,114,105,116,101],bstr [117,110,119,114,105,116,101],bstr [99,97,108,108],bstr [117,110,99,97,108,108],bstr [105,102],bstr [101,108,115,101],bstr [102,105],
 bstr [102,114,111,109],bstr [108,111,111,112],bstr [117,110,116,105,108],bstr [108,111,99,97,108],bstr [100,101,108,111,99,97,108],bstr [116,111,112],bstr [115,105,122,101]]
def reserved:List ByteArray:=[bstr [108,99,111,112,121],bstr [108,115,112,105,108,108],bstr [111,117,116],bstr [103]]
def inB (l:List ByteArray) (s:ByteArray):Bool:=l.any fun x=>decide (x=s)
def keyB (s:ByteArray):Bool:=inB keywords s
def lowerB (s:ByteArray):Bool:=s.data.toList.all fun c=>decide (97≤c) && decide (c≤122)
def nameB (s:ByteArray):Bool:=decide (1≤s.size) && (decide (s.size≤12) && (!keyB s && (lowerB s && !inB reserved s)))
def formB (k num:Int) (name:ByteArray) (kids:Nat):Bool:=
 if k=80 then decide (0≤num) && (decide (name.size=0) && decide (kids=0))
 else if k=81 then decide (num=0) && decide (kids=0)
 else if k=82 then decide (8≤num) && (decide (num≤23) && (decide (name.size=0) && decide (kids=2)))
 else if k=84 then decide (num=0) && (nameB name && decide (kids=2))
 else if k=85 then decide (num=0)
 else if num≠0∨name.size≠0 then false
 else if k=86 then decide (kids=0)
 else if k=88∨k=89∨k=90 then decide (kids=1)
 else if k=87 then decide (kids=2)
 else if k=83 then decide (kids=3)
 else false
mutual
def formedN:Nd→Bool
 | .mk k num name kids=>formB k num name kids.length && formedL kids
def formedL:List Nd→Bool
 | []=>true
 | n :: r=>formedN n && formedL r
end
mutual
def sizeN:Nd→Nat
 | .mk _ _ _ kids=>sizeL kids+1
def sizeL:List Nd→Nat
 | []=>0
 | n :: r=>sizeN n+sizeL r
end
mutual
def depthN:Nd→Nat
 | .mk _ _ _ kids=>depthL kids+1
def depthL:List Nd→Nat
 | []=>0
 | n :: r=>max (depthN n) (depthL r)
end
def findFrom (name:ByteArray):List Fn→Int→Int
 | [],_=> -1
 | f :: r,j=>if f.name=name then j else findFrom name r (j+1)
def findF (lib:List Fn) (name:ByteArray):Int:=findFrom name lib 0
def fnAt (lib:List Fn) (i:Int):Fn:=at' lib i.toNat
abbrev Vis:=ByteArray→Option Bool
def Vis.put (v:Vis) (s:ByteArray) (b:Bool):Vis:=fun y=>if y=s then some b else v y
def reachE (lib:List Fn) (vis:Vis) (k:Int) (name:ByteArray) (kids:Nat):Int:=
 if k=81 then (if (vis name).isSome then 0 else 6)
 else if k=84 then (if (vis name).isSome then 22 else 0)
 else if k=85 then (if findF lib name < 0 then 6 else if kids≠(fnAt lib (findF lib name)).params.length then 7 else 0)
 else 0
def wantT (lib:List Fn) (k:Int) (name:ByteArray) (types:List Bool):List Bool × Bool:=
 if k=82 then ([false,false],false)
 else if k=83 then ([false,types.getD 1 false,types.getD 1 false],types.getD 1 false)
 else if k=84 then (types,types.getD 1 false)
 else if k=85 then ((fnAt lib (findF lib name)).params.map Par.list,(fnAt lib (findF lib name)).list)
 else if k=86 then ([],true)
 else if k=87 then ([false,true],true)
 else if k=88∨k=90 then ([true],false)
 else if k=89 then ([true],true)
 else ([],false)
def resultT (lib:List Fn) (k:Int) (name:ByteArray) (types:List Bool):Bool × Int:=
 if types=(wantT lib k name types).1 then ((wantT lib k name types).2,0) else (false,7)
mutual
def checkN (lib:List Fn):Nd→Vis→Bool × Int
 | .mk k num name kids,vis=>
   if reachE lib vis k name kids.length≠0 then (false,reachE lib vis k name kids.length)
   else
    let r:=checkL lib (decide (k=84)) name kids 0 [] vis
    if r.2≠0 then (false,r.2)
    else if k=81 then ((vis name).getD false,0)
    else resultT lib k name r.1
def checkL (lib:List Fn) (bound:Bool) (name:ByteArray):List Nd→Nat→List Bool→Vis→List Bool × Int
 | [],_,types,_=>(types,0)
 | n :: r,j,types,vis=>
   let c:=checkN lib n (if bound∧j=1 then vis.put name (types.getD 0 false) else vis)
   if c.2≠0 then ([],c.2) else checkL lib bound name r (j+1) (types ++ [c.1]) vis
end
def parsE (l:List Par):Int:=
 if 8 < l.length then 5 else if l.all (fun p=>nameB p.name) then (if (l.map Par.name).Nodup then 0 else 22) else 3
def parsV (l:List Par):Vis:=l.foldl (fun v p=>v.put p.name p.list) (fun _=>none)
def fnE (lib:List Fn) (i:Nat):Int:=
 let f:=at' lib i
 if 30≤i then 5 else if !nameB f.name then 3 else if findF lib f.name < i then 22
 else if parsE f.params≠0 then parsE f.params
 else if !formedN f.body then 3 else if 80 < depthN f.body then 19 else if 2000 < sizeN f.body then 5
 else if (checkN lib f.body (parsV f.params)).2≠0 then (checkN lib f.body (parsV f.params)).2
 else if (checkN lib f.body (parsV f.params)).1≠f.list then 7 else 0
def validFrom (lib:List Fn):Nat→Nat→Int × Int
 | 0,_=>(-1,0)
 | n+1,i=>if fnE lib i≠0 then (i,fnE lib i) else validFrom lib n (i+1)
def validE (lib:List Fn):Int × Int:=validFrom lib lib.length 0
end Go.Proofs.YtpobmoegmdhbpaaGreatDoor
/- Maps of the call's own with strings as keys and any elements. -/
namespace Go.Proofs.YtpobmoegmdhbpaaGreatDoor
open Go.RowKit Go.Maps
structure SmapT (P:Program) (t kt et:TypeId) (z:Value):Prop where
 und:P.underlying t=some (.map kt et)
 key:P.underlying kt=some .string
 zero:∀ w,(zeroValue et).run P w=.ok z w
def idR (v:Value):Option (DataW Value × List MemPlace):=some (.held v,[])
def SMap (P:Program) (kt:TypeId) (w:World) (b:Nat) (m:ByteArray→Option Value) (size:Nat):Prop:=
 ∃ D:DataW Value,w.ownsMap P kt idR b size D∧Maps.size D=size∧
   ∀ s:ByteArray,s.size≤maxLen→has D (.string s.data.toList)=(m s).isSome∧∀ z,D.atKey (.string s.data.toList) (.held z)=.held ((m s).getD z)
theorem zfk {P:Program} {kt:TypeId} {w:World} {b n:Nat} {D:DataW Value} (h:w.ownsMap P kt idR b n D):w.ownsMap P kt idR b (Maps.size D) D:=by
 obtain ⟨es,clock,hb,F,hs,rfl⟩:=h
 refine ⟨es,clock,hb,F,?_,rfl⟩
 rw [size_eq,length_sorted];simp
theorem SMap.made (P:Program) (kt:TypeId) (w:World):SMap P kt (w.alloc (.map #[] 0)) w.heap.size (fun _=>none) 0:=
 ⟨.map [],World.ownsMap_made _ _ _ _,rfl,fun x _=>⟨rfl,fun _=>rfl⟩⟩
theorem SMap.lt {P:Program} {kt:TypeId} {w:World} {b size:Nat} {m:ByteArray→Option Value} (h:SMap P kt w b m size):b < w.heap.size:=by
 obtain ⟨D,h,_⟩:=h;exact h.lt
theorem SMap.same {P:Program} {kt:TypeId} {w w':World} {b size:Nat} {m:ByteArray→Option Value} (h:SMap P kt w b m size) (he:w'.heap[b]?=w.heap[b]?):SMap P kt w' b m size:=by
 obtain ⟨D,⟨es,clock,hb,F,hs,hD⟩,h2⟩:=h
 exact ⟨D,⟨es,clock,he.trans hb,F,hs,hD⟩,h2⟩
theorem SMap.below {P:Program} {kt:TypeId} {w w':World} {b size:Nat} {m:ByteArray→Option Value} (h:SMap P kt w b m size) (hb:Below w.heap.size w w'):SMap P kt w' b m size:=h.same (hb.block b h.lt)
theorem SMap.ext {P:Program} {kt:TypeId} {w:World} {b size:Nat} {m m':ByteArray→Option Value} (h:SMap P kt w b m size) (he:∀ s,m s=m' s):SMap P kt w b m' size:=by
 obtain rfl:m=m':=funext he;exact h
theorem skey {P:Program} {kt:TypeId} (hk:P.underlying kt=some .string) {s:ByteArray} (hs:s.size≤maxLen):keyOf P kt (.string s)=some (.string s.data.toList):=WideMaps.keyOf_string_mk hk hs
theorem SMap.find {P:Program} {t kt et:TypeId} {z:Value} (M:SmapT P t kt et z) {w:World} {b size:Nat} {m:ByteArray→Option Value} (h:SMap P kt w b m size) {s:ByteArray} (hs:s.size≤maxLen) (c:Bool):
 (Instr.lookup t (.map (some b)) (.string s) c).run P w=.ok (if c then .tuple #[(m s).getD z,.bool (m s).isSome] else (m s).getD z) w:=by
 obtain ⟨D,⟨es,clock,hb,F,_,rfl⟩,_,h3⟩:=h
 obtain ⟨_,h4⟩:=h3 s hs
 rcases Maps.fit_look c (string_keyed M.key) M.und (M.zero w) hb F (skey M.key hs) with ⟨hrun,_,hat⟩|⟨e0,y,_,_,hrun,hRv,hat,_⟩
 · have hn:m s=none:=by
    cases e:m s with
    | none=>rfl
    | some v=>
      have a1:=h4 (.bool true)
      have a2:=h4 (.bool false)
      rw [hat,e] at a1 a2
      simp only [Option.getD_some,DataW.held.injEq] at a1 a2
      rw [← a2] at a1;simp at a1
   rw [hrun,hn];rfl
 · have hy:y=(.held e0.val,[]):=by simp only [idR,Option.some.injEq] at hRv;exact hRv.symm
   have hn:m s=some e0.val:=by
    cases e:m s with
    | none=>
      have a1:=h4 (.bool true)
      have a2:=h4 (.bool false)
      rw [hat,e,hy] at a1 a2
      simp only [Option.getD_none,DataW.held.injEq] at a1 a2
      rw [a2] at a1;simp at a1
    | some v=>
      have a1:=h4 (.bool true)
      rw [hat,e,hy] at a1
      simp only [Option.getD_some,DataW.held.injEq] at a1
      rw [a1]
   rw [hrun,hn];rfl
theorem SMap.len {P:Program} {t kt et:TypeId} {z:Value} (M:SmapT P t kt et z) {w:World} {b size:Nat} {m:ByteArray→Option Value} (h:SMap P kt w b m size) (ty:TypeId):
 (Builtin.len_ #[t] ty #[.map (some b)]).run P w=.ok (.int .i64 size) w:=by
 obtain ⟨D,h1,h2,_⟩:=h
 rw [h1.len M.und ty,h2]
theorem zhS {s x:ByteArray} (h:s.data.toList=x.data.toList):s=x:=by
 cases s;cases x;simp only at h;congr 1;exact Array.toList_inj.1 h
theorem SMap.put {P:Program} {t kt et:TypeId} {z:Value} (M:SmapT P t kt et z) {w:World} {b size:Nat} {m:ByteArray→Option Value} (h:SMap P kt w b m size) {s:ByteArray} (hs:s.size≤maxLen) (v:Value) (hn:size < maxLen):
 ∃ w',(Instr.mapUpdate t (.map (some b)) (.string s) v).run P w=.ok () w'∧SMap P kt w' b (fun y=>if y=s then some v else m y) (if (m s).isSome then size else size+1)∧w.grownBy w' (some b):=by
 obtain ⟨D,h1,h2,h3⟩:=h
 obtain ⟨w',hrun,h4,h5⟩:=h1.update (string_keyed M.key) M.und hn (skey M.key hs) (val:=v) (d:=.held v) (ps:=[]) rfl
 have ht:=h1.tidy (string_keyed M.key)
 have hsz:Maps.size (D.put (.string s.data.toList) (.held v))=if (m s).isSome then size else size+1:=by
  rw [size_put ht,(h3 s hs).1,h2]
 refine ⟨w',hrun,⟨_,by rw [← hsz];exact zfk h4,hsz,fun y hy=>?_⟩,h5⟩
 by_cases e:y=s
 · subst e
   have hk:WideAt.IsKeyLit (.string y.data.toList):=by simp [WideAt.IsKeyLit]
   exact ⟨by rw [has_put_same ht.isMap hk];simp,fun z=>by rw [atKey_put_same ht.isMap hk];simp⟩
 · have hne:(Lit.string y.data.toList)≠.string s.data.toList:=by simp only [ne_eq,Lit.string.injEq];exact fun h=>e (zhS h)
   exact ⟨by rw [has_put_other hne,(h3 y hy).1];simp [e],fun z=>by rw [atKey_put_other hne,(h3 y hy).2];simp [e]⟩
theorem SMap.drop {P:Program} {t kt et:TypeId} {z:Value} (M:SmapT P t kt et z) {w:World} {b size:Nat} {m:ByteArray→Option Value} (h:SMap P kt w b m size) {s:ByteArray} (hs:s.size≤maxLen) (ty:TypeId):
 ∃ w',(Builtin.delete_ #[t,kt] ty #[.map (some b),.string s]).run P w=.ok (.tuple #[]) w'∧SMap P kt w' b (fun y=>if y=s then none else m y) (if (m s).isSome then size - 1 else size)∧w.grownBy w' (some b):=by
 obtain ⟨D,h1,h2,h3⟩:=h
 obtain ⟨w',hrun,h4,h5⟩:=h1.drop (string_keyed M.key) M.und (skey M.key hs) ty
 have ht:=h1.tidy (string_keyed M.key)
 have hsz:Maps.size (D.del (.string s.data.toList))=if (m s).isSome then size - 1 else size:=by
  have:=size_del (k:=.string s.data.toList) ht
  rw [(h3 s hs).1,h2] at this
  split <;> simp_all <;> omega
 refine ⟨w',hrun,⟨_,by rw [← hsz];exact zfk h4,hsz,fun y hy=>?_⟩,h5.grown⟩
 by_cases e:y=s
 · subst e
   exact ⟨by rw [has_del_same];simp,fun z=>by rw [atKey_del_same];simp⟩
 · have hne:(Lit.string y.data.toList)≠.string s.data.toList:=by simp only [ne_eq,Lit.string.injEq];exact fun h=>e (zhS h)
   exact ⟨by rw [has_del_other hne,(h3 y hy).1];simp [e],fun z=>by rw [atKey_del_other hne,(h3 y hy).2];simp [e]⟩
theorem znM {P:Program} {t kt et:TypeId} {z:Value} (M:SmapT P t kt et z) {w:World} {ops:Array Oper} {rest:List Oper} {o:Oper} {a:Act} {Q:Exit→Act→World→Prop} (hg:o.guard=none) (x y v:Operand) (hop:o.op=Op.mapUpdate t x y v)
 {b size:Nat} {m:ByteArray→Option Value} {s:ByteArray} {u:Value} (hx:a.eval x=.map (some b)) (hy:a.eval y=.string s) (hv:a.eval v=u) (h:SMap P kt w b m size) (hs:s.size≤maxLen) (hn:size < maxLen)
 (hK:∀ w',SMap P kt w' b (fun y=>if y=s then some u else m y) (if (m s).isSome then size else size+1)→w.grownBy w' (some b)→wpList P ops Q rest (a.put o.dst undef) w'):
 wpList P ops Q (o :: rest) a w:=by
 refine wpList_plain hg fun K' hK'=>?_
 obtain ⟨w',hrun,r1,r2⟩:=h.put M hs u hn
 unfold Oper.wp
 simp [execOp,hop,hx,hy,hv,hrun,Result.andThen]
 exact hK' _ _ (hK w' r1 r2)
def SMapLe (P:Program) (kt:TypeId) (w:World) (b:Nat) (m:ByteArray→Option Value) (N:Nat):Prop:=∃ size,size≤N∧SMap P kt w b m size
theorem SMapLe.made (P:Program) (kt:TypeId) (w:World):SMapLe P kt (w.alloc (.map #[] 0)) w.heap.size (fun _=>none) 0:=⟨0,Nat.le_refl _,SMap.made P kt w⟩
theorem SMapLe.lt {P:Program} {kt:TypeId} {w:World} {b N:Nat} {m:ByteArray→Option Value} (h:SMapLe P kt w b m N):b < w.heap.size:=by obtain ⟨_,_,h⟩:=h;exact h.lt
theorem SMapLe.same {P:Program} {kt:TypeId} {w w':World} {b N:Nat} {m:ByteArray→Option Value} (h:SMapLe P kt w b m N) (he:w'.heap[b]?=w.heap[b]?):SMapLe P kt w' b m N:=by obtain ⟨n,hn,h⟩:=h;exact ⟨n,hn,h.same he⟩
theorem SMapLe.below {P:Program} {kt:TypeId} {w w':World} {b N:Nat} {m:ByteArray→Option Value} (h:SMapLe P kt w b m N) (hb:Below w.heap.size w w'):SMapLe P kt w' b m N:=h.same (hb.block b h.lt)
theorem SMapLe.kept {P:Program} {kt:TypeId} {w w':World} {b N:Nat} {m:ByteArray→Option Value} {row:Option Nat} (h:SMapLe P kt w b m N) (hg:w.grownBy w' row) (hne:some b≠row):SMapLe P kt w' b m N:=h.same (hg.block b h.lt hne)
theorem SMapLe.mono {P:Program} {kt:TypeId} {w:World} {b N N':Nat} {m:ByteArray→Option Value} (h:SMapLe P kt w b m N) (hN:N≤N'):SMapLe P kt w b m N':=by obtain ⟨n,hn,h⟩:=h;exact ⟨n,by omega,h⟩
theorem SMapLe.ext {P:Program} {kt:TypeId} {w:World} {b N:Nat} {m m':ByteArray→Option Value} (h:SMapLe P kt w b m N) (he:∀ s,m s=m' s):SMapLe P kt w b m' N:=by obtain ⟨n,hn,h⟩:=h;exact ⟨n,hn,h.ext he⟩
theorem SMapLe.find {P:Program} {t kt et:TypeId} {z:Value} (M:SmapT P t kt et z) {w:World} {b N:Nat} {m:ByteArray→Option Value} (h:SMapLe P kt w b m N) {s:ByteArray} (hs:s.size≤maxLen) (c:Bool):
 (Instr.lookup t (.map (some b)) (.string s) c).run P w=.ok (if c then .tuple #[(m s).getD z,.bool (m s).isSome] else (m s).getD z) w:=by obtain ⟨_,_,h⟩:=h;exact h.find M hs c
theorem SMapLe.drop {P:Program} {t kt et:TypeId} {z:Value} (M:SmapT P t kt et z) {w:World} {b N:Nat} {m:ByteArray→Option Value} (h:SMapLe P kt w b m N) {s:ByteArray} (hs:s.size≤maxLen) (ty:TypeId):
 ∃ w',(Builtin.delete_ #[t,kt] ty #[.map (some b),.string s]).run P w=.ok (.tuple #[]) w'∧SMapLe P kt w' b (fun y=>if y=s then none else m y) N∧w.grownBy w' (some b):=by
 obtain ⟨n,hn,h⟩:=h
 obtain ⟨w',h1,h2,h3⟩:=h.drop M hs ty
 exact ⟨w',h1,⟨_,by split <;> omega,h2⟩,h3⟩
theorem zeJ {P:Program} {t kt et:TypeId} {z:Value} (M:SmapT P t kt et z) {w:World} {ops:Array Oper} {rest:List Oper} {o:Oper} {a:Act} {Q:Exit→Act→World→Prop} (hg:o.guard=none) (x y v:Operand) (hop:o.op=Op.insert t x y v∨o.op=Op.mapUpdate t x y v)
 {b N:Nat} {m:ByteArray→Option Value} {s:ByteArray} {u:Value} (hx:a.eval x=.map (some b)) (hy:a.eval y=.string s) (hv:a.eval v=u) (h:SMapLe P kt w b m N) (hs:s.size≤maxLen) (hn:N < maxLen)
 (hK:∀ w',SMapLe P kt w' b (fun y=>if y=s then some u else m y) (N+1)→w.grownBy w' (some b)→wpList P ops Q rest (a.put o.dst undef) w'):
 wpList P ops Q (o :: rest) a w:=by
 refine wpList_plain hg fun K' hK'=>?_
 obtain ⟨n,hnN,h⟩:=h
 obtain ⟨w',hrun,r1,r2⟩:=h.put M hs u (by omega)
 unfold Oper.wp
 rcases hop with hop|hop
 all_goals
  simp [execOp,hop,hx,hy,hv,hrun,Result.andThen]
  exact hK' _ _ (hK w' ⟨_,by split <;> omega,r1⟩ r2)
theorem zbJ {P:Program} {t kt et:TypeId} {z:Value} (M:SmapT P t kt et z) {w:World} {ops:Array Oper} {rest:List Oper} {o:Oper} {a:Act} {Q:Exit→Act→World→Prop} (hg:o.guard=none) (x y:Operand) (c:Bool) (hop:o.op=Op.lookup t x y c)
 {b N:Nat} {m:ByteArray→Option Value} {s:ByteArray} (hx:a.eval x=.map (some b)) (hy:a.eval y=.string s) (h:SMapLe P kt w b m N) (hs:s.size≤maxLen) {r:Value} (hr:(if c then .tuple #[(m s).getD z,.bool (m s).isSome] else (m s).getD z)=r)
 (hK:wpList P ops Q rest (a.put o.dst r) w):
 wpList P ops Q (o :: rest) a w:=by
 refine wpList_plain hg fun K' hK'=>?_
 have hrun:=h.find M hs c
 rw [hr] at hrun
 unfold Oper.wp
 simp [execOp,hop,hx,hy,hrun,Result.andThen]
 exact hK' _ _ hK
theorem ziG {P:Program} {t kt et:TypeId} {z:Value} (M:SmapT P t kt et z) {w:World} {ops:Array Oper} {rest:List Oper} {o:Oper} {a:Act} {Q:Exit→Act→World→Prop} (hg:o.guard=none) (x y:Operand)
 (hop:o.op=.call { callee:=.builtin .delete,args:=#[x,y],argTypes:=#[t,kt] })
 {b N:Nat} {m:ByteArray→Option Value} {s:ByteArray} (hx:a.eval x=.map (some b)) (hy:a.eval y=.string s) (h:SMapLe P kt w b m N) (hs:s.size≤maxLen)
 (hK:∀ w',SMapLe P kt w' b (fun y=>if y=s then none else m y) N→w.grownBy w' (some b)→wpList P ops Q rest (a.put o.dst (.tuple #[])) w'):
 wpList P ops Q (o :: rest) a w:=by
 refine wpList_plain hg fun K' hK'=>?_
 obtain ⟨w',hrun,r1,r2⟩:=h.drop M hs o.type
 unfold Oper.wp execOp
 simp only [hop,resolve,invoke,builtin,Sem.run_bind,Sem.run_pure,Result.andThen_ok,List.map_toArray,List.map_cons,List.map_nil,hx,hy,hrun]
 exact hK' _ _ (hK w' r1 r2)
end Go.Proofs.YtpobmoegmdhbpaaGreatDoor
/- What an argument reads as,in this text's own words. -/
namespace Go.Proofs.YtpobmoegmdhbpaaGreatDoor
open Go.ChangeShapes Go.WideShapes Go.ChangeAt Go.RowKit
open Go.ChangeMaps (open_string shut_string)
set_option maxRecDepth 100000
theorem own:ownKnob Tryz.prog.godebug=none:=by kernel_rfl
theorem laidOut:laidOutB Tryz.prog=true:=by kernel_rfl
theorem rangeI64 {x:Int} (h:(Lit.int .i64 x).wf=true):-9223372036854775808≤x∧x≤9223372036854775807:=by
 simpa [Lit.wf,IntKind.min,IntKind.max,IntKind.signed,IntKind.bits] using h
theorem rangeU8 {x:Int} (h:(Lit.int .u8 x).wf=true):0≤x∧x≤255:=by
 simpa [Lit.wf,IntKind.min,IntKind.max,IntKind.signed,IntKind.bits] using h
end Go.Proofs.YtpobmoegmdhbpaaGreatDoor
/- What arguments read as:libraries,names and values. -/
namespace Go.Proofs.YtpobmoegmdhbpaaGreatDoor
open Go.ChangeShapes Go.WideShapes Go.ChangeAt Go.RowKit
set_option maxRecDepth 100000
def Any:Nat→Prop:=fun _=>True
section
variable {H:Type} {enc:TypeId × Value→H} {P:Program} {W:World} {spare:Nat→Bool} {held:Bool}
theorem openRow {t e:TypeId} {size fuel:Nat} {cs:List Value} {x:DataW H × List MemPlace} (ht:P.underlying t=some (.slice e)) (hsz:P.cellsOf e=size) (hpos:0 < size) (h:DataW.trod enc P W 0 spare held fuel t cs=some x):
 ∃ v len csF,cs=[v]∧RowAt Any W size v len csF∧∀ j,j < len→∃ m y,m < fuel∧DataW.trod enc P W 0 spare held m e ((List.range size).map (csF j))=some y:=by
 rcases DataW.trod_slice ht h with ⟨rfl,_⟩|⟨a,len,cap,elems,rest,n,rfl,rfl,_,hb,hl,hm,hlen,hel,_,_⟩
 · exact ⟨_,0,fun _ _=>undef,rfl,RowAt.empty _ _ _,fun j hj=>absurd hj (by omega)⟩
 · have hi:∀ i,i < len→∃ q:List Value,W.cells? 0 (a.add (i * size)) size=some q∧∃ y,DataW.trod enc P W 0 spare held n e q=some y:=by
    intro i hi
    have key:=hel i hi
    rw [hsz,List.getElem?_eq_getElem (by omega)] at key
    obtain ⟨cs',h1,h2⟩:=Option.bind_eq_some_iff.1 key
    exact ⟨cs',h1,_,h2⟩
   obtain ⟨q,hq⟩:=Go.Deep.choose_lt hi
   have hc:∀ j,j < len→∀ i,i < size→W.cell? (a.add (j * size+i))=some ((q j).getD i undef):=by
    intro j hj i hi
    obtain ⟨_,hlen',hcell⟩:=World.cells?_some (hq j hj).1
    have:=hcell i hi
    rw [Go.Deep.add_add] at this
    rw [this,List.getD_eq_getElem?_getD,List.getElem?_eq_getElem (by omega)];rfl
   refine ⟨_,len,fun j i=>(q j).getD i undef,rfl,⟨by omega,some a,cap,rfl,hl,nofun,fun hp=>?_⟩,fun j hj=>?_⟩
   · have h0:=hc 0 hp 0 hpos
     obtain ⟨b,off,u⟩:=a
     have hspot:u=none:=by simpa [Addr.add] using World.cell?_spot h0
     subst hspot
     refine ⟨b,off,rfl,?_,trivial,fun j hj i hi=>?_⟩
     · apply Classical.byContradiction
       intro hn
       have e:W.heap[b]?=none:=by rw [Array.getElem?_eq_none_iff];omega
       simp [World.cell?,e,Addr.add] at h0
     · rw [← hc j hj i hi,Go.WideShapes.add_plain,Nat.add_assoc]
   · obtain ⟨y,hy⟩:=(hq j hj).2
     obtain ⟨_,hlen',_⟩:=World.cells?_some (hq j hj).1
     refine ⟨n,y,by omega,?_⟩
     have e:(List.range size).map (fun i=>(q j).getD i undef)=q j:=by
      apply List.ext_getElem
      · simp [hlen']
      · intro i h1 h2
        simp [List.getD_eq_getElem?_getD,h2]
     rw [e];exact hy
end
section
variable {H:Type} {enc:TypeId × Value→H} {W:World} {spare:Nat→Bool} {held:Bool}
theorem ziS {k:Int} (h:(Lit.int .u8 k).wf=true):0≤k∧k≤255:=rangeU8 h
theorem openKids:∀ (fuel:Nat) (cs:List Value) (x:DataW H × List MemPlace),DataW.trod enc Tryz.prog W 0 spare held fuel 32 cs=some x→∃ v kids,cs=[v]∧KidsAt Any W v kids:=by
 intro fuel
 induction fuel using Nat.strongRecOn with
 | _ fuel ih=>
   intro cs x h
   obtain ⟨v,len,csF,rfl,hrow,hel⟩:=openRow (size:=4) Tryz.underlying32 (by kernel_rfl) (by decide) h
   have each:∀ j,j < len→∃ n:Nd,csF j 0=.int .u8 n.kind∧csF j 1=.int .i64 n.num∧csF j 2=.string n.name∧n.Ok1∧KidsAt Any W (csF j 3) n.kids:=by
    intro j hj
    obtain ⟨m,y,hm,hy⟩:=hel j hj
    obtain ⟨xs,n,rfl,hxy,hl,hxl,hf⟩:=DataW.trod_struct Tryz.underlying34 hy
    have g0:=hf 0 _ rfl
    have g1:=hf 1 _ rfl
    have g2:=hf 2 _ rfl
    have g3:=hf 3 _ rfl
    have c0:Tryz.prog.cellsOf 5=1:=by kernel_rfl
    have c1:Tryz.prog.cellsOf 3=1:=by kernel_rfl
    have c2:Tryz.prog.cellsOf 9=1:=by kernel_rfl
    have c3:Tryz.prog.cellsOf 32=1:=by kernel_rfl
    have hr:(List.range 4).map (csF j)=[csF j 0,csF j 1,csF j 2,csF j 3]:=rfl
    rw [hr] at g0 g1 g2 g3
    match xs,hxl with
    | [y0,y1,y2,y3],_=>
      simp [c0,c1,c2,c3] at g0 g1 g2 g3
      obtain ⟨k,e0,_,w0⟩:=DataW.trod_int Tryz.underlying5 g0
      obtain ⟨i,e1,_,w1⟩:=DataW.trod_int Tryz.underlying3 g1
      obtain ⟨s,e2,_,w2⟩:=DataW.trod_string Tryz.underlying9 g2
      obtain ⟨kv,kids,e3,hk⟩:=ih n (by omega) _ _ g3
      simp only [List.cons.injEq,and_true] at e0 e1 e2 e3
      refine ⟨.mk k i s kids,e0,e1,e2,⟨ziS w0,rangeI64 w1,w2⟩,?_⟩
      rw [e3];exact hk
   obtain ⟨q,hq⟩:=Go.Deep.choose_lt each
   refine ⟨v,(List.range len).map q,rfl,?_⟩
   have hlen:((List.range len).map q).length=len:=by simp
   have hat:∀ j,j < len→at' ((List.range len).map q) j=q j:=fun j hj=>by rw [zax (by simpa using hj)];simp
   refine .mk v _ csF (by rw [hlen];exact hrow) (fun j hj=>?_) (fun j hj=>?_)
   · rw [hlen] at hj
     rw [hat j hj]
     exact ⟨(hq j hj).1,(hq j hj).2.1,(hq j hj).2.2.1,(hq j hj).2.2.2.1⟩
   · rw [hlen] at hj
     rw [hat j hj]
     exact (hq j hj).2.2.2.2
theorem openPars {fuel:Nat} {cs:List Value} {x:DataW H × List MemPlace} (h:DataW.trod enc Tryz.prog W 0 spare held fuel 41 cs=some x):∃ v l,cs=[v]∧ParsAt Any W v l:=by
 obtain ⟨v,len,csF,rfl,hrow,hel⟩:=openRow (size:=2) Tryz.underlying41 (by kernel_rfl) (by decide) h
 have each:∀ j,j < len→∃ p:Par,csF j 0=.string p.name∧csF j 1=.bool p.list∧p.name.size≤maxLen:=by
  intro j hj
  obtain ⟨m,y,hm,hy⟩:=hel j hj
  obtain ⟨xs,n,rfl,hxy,hl,hxl,hf⟩:=DataW.trod_struct Tryz.underlying97 hy
  have g0:=hf 0 _ rfl
  have g1:=hf 1 _ rfl
  have c0:Tryz.prog.cellsOf 9=1:=by kernel_rfl
  have c1:Tryz.prog.cellsOf 4=1:=by kernel_rfl
  have hr:(List.range 2).map (csF j)=[csF j 0,csF j 1]:=rfl
  rw [hr] at g0 g1
  match xs,hxl with
  | [y0,y1],_=>
    simp [c0,c1] at g0 g1
    obtain ⟨s,e0,_,w0⟩:=DataW.trod_string Tryz.underlying9 g0
    obtain ⟨b,e1,_⟩:=DataW.trod_bool Tryz.underlying4 g1
    simp only [List.cons.injEq,and_true] at e0 e1
    exact ⟨⟨s,b⟩,e0,e1,w0⟩
 obtain ⟨q,hq⟩:=Go.Deep.choose_lt each
 have hlen:((List.range len).map q).length=len:=by simp
 have hat:∀ j,j < len→at' ((List.range len).map q) j=q j:=fun j hj=>by rw [zax (by simpa using hj)];simp
 refine ⟨v,(List.range len).map q,rfl,csF,by rw [hlen];exact hrow,fun j hj=>?_⟩
 rw [hlen] at hj
 rw [hat j hj]
 exact hq j hj
theorem openFns {fuel:Nat} {cs:List Value} {x:DataW H × List MemPlace} (h:DataW.trod enc Tryz.prog W 0 spare held fuel 22 cs=some x):∃ v l,cs=[v]∧FnsAt Any W v l:=by
 obtain ⟨v,len,csF,rfl,hrow,hel⟩:=openRow (size:=7) Tryz.underlying22 (by kernel_rfl) (by decide) h
 have each:∀ j,j < len→∃ f:Fn,csF j 0=.string f.name∧f.name.size≤maxLen∧ParsAt Any W (csF j 1) f.params∧csF j 2=.bool f.list∧
  csF j 3=.int .u8 f.body.kind∧csF j 4=.int .i64 f.body.num∧csF j 5=.string f.body.name∧f.body.Ok1∧KidsAt Any W (csF j 6) f.body.kids:=by
  intro j hj
  obtain ⟨m,y,hm,hy⟩:=hel j hj
  obtain ⟨xs,n,rfl,hxy,hl,hxl,hf⟩:=DataW.trod_struct Tryz.underlying94 hy
  have g0:=hf 0 _ rfl
  have g1:=hf 1 _ rfl
  have g2:=hf 2 _ rfl
  have g3:=hf 3 _ rfl
  have c0:Tryz.prog.cellsOf 9=1:=by kernel_rfl
  have c1:Tryz.prog.cellsOf 41=1:=by kernel_rfl
  have c2:Tryz.prog.cellsOf 4=1:=by kernel_rfl
  have c3:Tryz.prog.cellsOf 34=4:=by kernel_rfl
  have hr:(List.range 7).map (csF j)=[csF j 0,csF j 1,csF j 2,csF j 3,csF j 4,csF j 5,csF j 6]:=rfl
  rw [hr] at g0 g1 g2 g3
  match xs,hxl with
  | [y0,y1,y2,y3],_=>
    simp [c0,c1,c2,c3] at g0 g1 g2 g3
    obtain ⟨s,e0,_,w0⟩:=DataW.trod_string Tryz.underlying9 g0
    obtain ⟨pv,ps,e1,hp⟩:=openPars g1
    obtain ⟨b,e2,_⟩:=DataW.trod_bool Tryz.underlying4 g2
    obtain ⟨zs,n',rfl,_,_,hzl,hz⟩:=DataW.trod_struct Tryz.underlying34 g3
    have k0:=hz 0 _ rfl
    have k1:=hz 1 _ rfl
    have k2:=hz 2 _ rfl
    have k3:=hz 3 _ rfl
    have d0:Tryz.prog.cellsOf 5=1:=by kernel_rfl
    have d1:Tryz.prog.cellsOf 3=1:=by kernel_rfl
    have d3:Tryz.prog.cellsOf 32=1:=by kernel_rfl
    match zs,hzl with
    | [z0,z1,z2,z3],_=>
      simp [d0,d1,c0,d3] at k0 k1 k2 k3
      obtain ⟨k,f0,_,v0⟩:=DataW.trod_int Tryz.underlying5 k0
      obtain ⟨i,f1,_,v1⟩:=DataW.trod_int Tryz.underlying3 k1
      obtain ⟨t,f2,_,v2⟩:=DataW.trod_string Tryz.underlying9 k2
      obtain ⟨kv,kids,f3,hk⟩:=openKids _ _ _ k3
      simp only [List.cons.injEq,and_true] at e0 e1 e2 f0 f1 f2 f3
      refine ⟨⟨s,ps,b,.mk k i t kids⟩,e0,w0,by rw [e1];exact hp,e2,f0,f1,f2,⟨ziS v0,rangeI64 v1,v2⟩,by rw [f3];exact hk⟩
 obtain ⟨q,hq⟩:=Go.Deep.choose_lt each
 have hlen:((List.range len).map q).length=len:=by simp
 have hat:∀ j,j < len→at' ((List.range len).map q) j=q j:=fun j hj=>by rw [zax (by simpa using hj)];simp
 refine ⟨v,(List.range len).map q,rfl,csF,by rw [hlen];exact hrow,fun j hj=>?_⟩
 rw [hlen] at hj
 rw [hat j hj]
 exact hq j hj
theorem openStrs {fuel:Nat} {cs:List Value} {x:DataW H × List MemPlace} (h:DataW.trod enc Tryz.prog W 0 spare held fuel 23 cs=some x):∃ v l,cs=[v]∧StrsAt Any W v l:=by
 obtain ⟨v,len,csF,rfl,hrow,hel⟩:=openRow (size:=1) Tryz.underlying23 (by kernel_rfl) (by decide) h
 have each:∀ j,j < len→∃ s:ByteArray,csF j 0=.string s∧s.size≤maxLen:=by
  intro j hj
  obtain ⟨m,y,hm,hy⟩:=hel j hj
  obtain ⟨s,e0,_,w0⟩:=DataW.trod_string Tryz.underlying9 hy
  have hr:(List.range 1).map (csF j)=[csF j 0]:=rfl
  rw [hr] at e0
  simp only [List.cons.injEq,and_true] at e0
  exact ⟨s,e0,w0⟩
 obtain ⟨q,hq⟩:=Go.Deep.choose_lt each
 have hlen:((List.range len).map q).length=len:=by simp
 have hat:∀ j,j < len→at' ((List.range len).map q) j=q j:=fun j hj=>by rw [zax (by simpa using hj)];simp
 refine ⟨v,(List.range len).map q,rfl,csF,by rw [hlen];exact hrow,fun j hj=>?_⟩
 rw [hlen] at hj
 rw [hat j hj]
 exact hq j hj
end
end Go.Proofs.YtpobmoegmdhbpaaGreatDoor
/- Walks:Find,isName,Keyword. -/
namespace Go.Proofs.YtpobmoegmdhbpaaGreatDoor
open Go.RowKit
theorem zdZ {B:Nat} {w wr w1:World} {b:Nat} (hb:Below B w wr) (hg:wr.grownBy w1 (some b)) (hB:B≤wr.heap.size) (hbb:B≤b):Below B w w1:=
 hb.grown hg hB (fun k hk=>by simp at hk;omega)
theorem toList_inj {a b:ByteArray} (h:a.toList=b.toList):a=b:=by
 rw [ByteArray.toList_eq,ByteArray.toList_eq] at h;exact zhS h
theorem zgj (name:ByteArray):∀ (lib:List Fn) (k:Nat) (j:Int),k < lib.length→(∀ i,i < k→(at' lib i).name≠name)→(at' lib k).name=name→findFrom name lib j=j+k
 | f :: r,0,j,_,_,h=>by
   have e:(at' (f :: r) 0)=f:=rfl
   rw [e] at h
   simp [findFrom,h]
 | f :: r,k+1,j,hk,hn,h=>by
   have e0:(at' (f :: r) 0)=f:=rfl
   have e1:∀ i,at' (f :: r) (i+1)=at' r i:=fun i=>by simp [at']
   have h0:f.name≠name:=by have:=hn 0 (by omega);rwa [e0] at this
   rw [findFrom,if_neg h0,zgj name r k (j+1) (by simpa using hk) (fun i hi=>by have:=hn (i+1) (by omega);rwa [e1] at this) (by rwa [e1] at h)]
   omega
theorem zhb (name:ByteArray):∀ (lib:List Fn) (j:Int),(∀ i,i < lib.length→(at' lib i).name≠name)→findFrom name lib j= -1
 | [],j,_=>rfl
 | f :: r,j,h=>by
   have e0:(at' (f :: r) 0)=f:=rfl
   have e1:∀ i,at' (f :: r) (i+1)=at' r i:=fun i=>by simp [at']
   have h0:f.name≠name:=by have:=h 0 (by simp);rwa [e0] at this
   rw [findFrom,if_neg h0,zhb name r (j+1) (fun i hi=>by have:=h (i+1) (by simpa using hi);rwa [e1] at this)]
theorem zdt (v:Value) (lib:List Fn) (name:ByteArray) (A:Nat→Prop) (w:World) (hv:FnsAt A w v lib):
 Calls Tryz.prog 89 #[v,.string name] w fun e w'=>e=.returned (.int .i64 (findF lib name))∧Below w.heap.size w w':=by
 obtain ⟨hlen,a,cap,rfl⟩:=hv.form
 unfold maxLen at hlen
 go_enter Tryz.func89,Tryz.ntmps89
 go_wp2
 go_loopw [9] (fun i wr=>∃ k:Nat,k≤lib.length∧i=.int .i64 k∧(∀ j,j < k→(at' lib j).name≠name)∧Below w.heap.size w wr) (fun i _=>lib.length - (intOf i).toNat)
 case atStart=>exact ⟨0,Nat.zero_le _,rfl,fun j hj=>absurd hj (by omega),Below.refl _ _⟩
 case round=>
  obtain ⟨k,hk,rfl,hno,hbl⟩:=hrel
  have HN:=Lib.hid hno
  clear hno
  have hz:=hbl.size
  by_cases hlt:k < lib.length
  · obtain ⟨b,off,cap',pa,pc,ka,kc,he,hb,_,_,c0,c1,c2,c3,c4,c5,c6,hs,hp,hn⟩:=(hv.stays (Stays.of_below hbl)).at hlt
    simp only [Value.slice.injEq] at he
    obtain ⟨rfl,-,rfl⟩:=he
    clear hp hn
    by_cases heq:(at' lib k).name=name
    · have HF:=Lib.hid (show findF lib name=k from by rw [findF,zgj name lib k 0 hlt (fun j hj=>HN.out j hj) heq];omega)
      have he:((at' lib k).name.toList == name.toList)=true:=by rw [heq];simp
      clear heq
      go_wp2
      go_ret
      rw [HF.out]
      exact ⟨rfl,hbl.alloc hz _⟩
    · have he:((at' lib k).name.toList == name.toList)=false:=beq_eq_false_iff_ne.2 (fun h=>heq (toList_inj h))
      have HQ:=Lib.hid heq
      clear heq
      go_wp2
      go_roundw
      case rel=>exact ⟨k+1,by omega,by go_num,fun j hj=>(by
       by_cases e:j=k
       · rw [e];exact HQ.out
       · exact HN.out j (by omega)),hbl.alloc hz _⟩
      case measure=>simp [intOf];omega
  · go_wp2
    go_ret
    rw [show findF lib name= -1 from zhb name lib 0 (fun j hj=>HN.out j (by omega))]
    exact ⟨rfl,hbl⟩
theorem MB:SmapT Tryz.prog 240 9 4 (.bool false):=⟨Tryz.underlying240,Tryz.underlying9,fun w=>by kernel_rfl⟩
def setM:List ByteArray→ByteArray→Option Value
 | []=>fun _=>none
 | k :: r=>fun y=>if y=k then some (.bool true) else setM r y
theorem znH (l:List ByteArray) (s:ByteArray):(setM l s).getD (.bool false)=.bool (inB l s):=by
 induction l with
 | nil=>rfl
 | cons k r ih=>
   simp only [setM,inB,List.any_cons] at ih ⊢
   by_cases h:s=k
   · subst h;simp
   · have h':¬ k=s:=fun e=>h e.symm
     rw [if_neg h,ih]
     simp [h']
theorem zib (l:List ByteArray) (s:ByteArray):inB l.reverse s=inB l s:=by simp [inB]
theorem zha {s:ByteArray} (h:¬ (2≤s.size∧s.size≤7)):keyB s=false:=by
 rw [keyB,inB,List.any_eq_false]
 intro x hx
 simp only [decide_eq_true_eq]
 intro e
 subst e
 have:keywords.all (fun k=>decide (2≤k.size∧k.size≤7))=true:=by decide +kernel
 have:=List.all_eq_true.1 this _ hx
 simp only [decide_eq_true_eq] at this
 exact h this
theorem zkO (s:ByteArray) (h:decide (s.size≤100)=true):s.size≤maxLen:=by simp at h;unfold maxLen;omega
theorem zcV (s:ByteArray) (w:World) (hs:s.size≤maxLen):
 Calls Tryz.prog 124 #[.string s] w fun e w'=>e=.returned (.bool (keyB s))∧Below w.heap.size w w':=by
 have hs':=hs
 unfold maxLen at hs'
 by_cases h1:s.size < 2
 · have HK:=Lib.hid (zha (s:=s) (by omega))
   have d1:decide ((s.size:Int) < 2)=true:=by simp;omega
   go_enter Tryz.func124,Tryz.ntmps124
   go_wp2
   go_ret
   rw [HK.out]
   exact ⟨rfl,Below.refl _ _⟩
 · by_cases h2:7 < s.size
   · have HK:=Lib.hid (zha (s:=s) (by omega))
     have d1:decide ((s.size:Int) < 2)=false:=by simp;omega
     have d2:decide (7 < (s.size:Int))=true:=by simp;omega
     go_enter Tryz.func124,Tryz.ntmps124
     go_wp2
     go_ret
     rw [HK.out]
     exact ⟨rfl,Below.refl _ _⟩
   · have d1:decide ((s.size:Int) < 2)=false:=by simp;omega
     have d2:decide (7 < (s.size:Int))=false:=by simp;omega
     have hm:=SMapLe.made Tryz.prog 9 w
     have hb:Below w.heap.size w (w.alloc (.map #[] 0)):=(Below.refl _ _).alloc (Nat.le_refl _) _
     have hmm:=@run_makeMap Tryz.prog
     go_enter Tryz.func124,Tryz.ntmps124
     go_wp2_with (first
      | (refine zeJ MB rfl (.tmp 12) _ _ (.inl rfl) rfl rfl rfl hm (zkO _ (by decide)) (by unfold maxLen;omega) ?_;clear hm;intro w1 hm hg;replace hb:=zdZ hb hg hb.size (Nat.le_refl _);clear hg)
      | (refine zbJ MB rfl (.tmp 14) (.tmp 15) false rfl rfl rfl hm hs (r:=.bool (keyB s)) ?_ ?_;exact (znH keywords.reverse s).trans (by rw [zib];rfl)))
     go_ret
     exact ⟨rfl,hb⟩
end Go.Proofs.YtpobmoegmdhbpaaGreatDoor
/- Walks:slices.Contains at names,isName. -/
namespace Go.Proofs.YtpobmoegmdhbpaaGreatDoor
open Go.RowKit
def idxS (l:List ByteArray) (s:ByteArray):Int:=match l.findIdx? (fun x=>decide (x=s)) with|some i=>i|none=> -1
theorem zlq {l:List ByteArray} {s:ByteArray} {k:Nat} (hk:k < l.length) (h:at' l k=s) (hn:∀ j,j < k→at' l j≠s):idxS l s=k:=by
 have e:l.findIdx? (fun x=>decide (x=s))=some k:=by
  rw [List.findIdx?_eq_some_iff_getElem]
  refine ⟨hk,by rw [zax hk] at h;simp [h],fun j hj=>?_⟩
  have:=hn j hj
  rw [zax (by omega)] at this
  simpa using this
 rw [idxS,e]
theorem zkM {l:List ByteArray} {s:ByteArray} (hn:∀ j,j < l.length→at' l j≠s):idxS l s= -1:=by
 have e:l.findIdx? (fun x=>decide (x=s))=none:=by
  rw [List.findIdx?_eq_none_iff]
  intro x hx
  obtain ⟨j,hj,rfl⟩:=List.mem_iff_getElem.1 hx
  have:=hn j hj
  rw [zax hj] at this
  simpa using this
 rw [idxS,e]
theorem znP (l:List ByteArray) (s:ByteArray):decide (0≤idxS l s)=inB l s:=by
 unfold idxS inB
 cases h:l.findIdx? (fun x=>decide (x=s)) with
 | none=>
   rw [List.findIdx?_eq_none_iff] at h
   have:(l.any fun x=>decide (x=s))=false:=by rw [List.any_eq_false];intro x hx;simpa using h x hx
   rw [this];rfl
 | some i=>
   rw [List.findIdx?_eq_some_iff_getElem] at h
   obtain ⟨h1,h2,_⟩:=h
   have:(l.any fun x=>decide (x=s))=true:=by rw [List.any_eq_true];exact ⟨_,List.getElem_mem h1,h2⟩
   rw [this];simp
theorem zjm (v:Value) (l:List ByteArray) (s:ByteArray) (A:Nat→Prop) (w:World) (hv:StrsAt A w v l):
 Calls Tryz.prog 161 #[v,.string s] w fun e w'=>e=.returned (.int .i64 (idxS l s))∧w=w':=by
 obtain ⟨hlen,a,cap,rfl⟩:=hv.form
 unfold maxLen at hlen
 go_enter Tryz.func161,Tryz.ntmps161
 go_wp2
 go_loop [8,5] (fun i _=>∃ k:Nat,k≤l.length∧i=.int .i64 k∧∀ j,j < k→at' l j≠s) (fun i _=>l.length - (intOf i).toNat)
 case atStart=>exact ⟨0,Nat.zero_le _,rfl,fun j hj=>absurd hj (by omega)⟩
 case round=>
  obtain ⟨k,hk,rfl,hno⟩:=hrel
  have HN:=Lib.hid hno
  clear hno
  by_cases hlt:k < l.length
  · obtain ⟨b,off,cap',he,hb,_,_,c0,hs⟩:=hv.at hlt
    simp only [Value.slice.injEq] at he
    obtain ⟨rfl,-,rfl⟩:=he
    by_cases heq:at' l k=s
    · have HF:=Lib.hid (zlq hlt heq HN.out)
      have he:(s.toList == (at' l k).toList)=true:=by rw [heq];simp
      clear heq
      go_wp2
      go_ret
      rw [HF.out]
      exact ⟨rfl,rfl⟩
    · have he:(s.toList == (at' l k).toList)=false:=beq_eq_false_iff_ne.2 (fun h=>heq (toList_inj h.symm))
      have HQ:=Lib.hid heq
      clear heq
      go_wp2
      go_round
      case rel=>exact ⟨k+1,by omega,by go_num,fun j hj=>(by
       by_cases e:j=k
       · rw [e];exact HQ.out
       · exact HN.out j (by omega))⟩
      case measure=>simp [intOf];omega
  · go_wp2
    go_ret
    rw [zkM (fun j hj=>HN.out j (by omega))]
    exact ⟨rfl,rfl⟩
theorem zcb (v:Value) (l:List ByteArray) (s:ByteArray) (A:Nat→Prop) (w:World) (hv:StrsAt A w v l):
 Calls Tryz.prog 108 #[v,.string s] w fun e w'=>e=.returned (.bool (inB l s))∧w=w':=by
 have hd:=Lib.hid (znP l s)
 go_enter Tryz.func108,Tryz.ntmps108
 go_wp2_with fail
 refine (zjm v l s A w hv).mono ?_
 rintro e w1 ⟨rfl,rfl⟩
 go_wp2
 go_ret
 rw [← hd.out]
 exact ⟨rfl,rfl⟩
theorem zmE (A:Nat→Prop) (w:World) (l:List ByteArray) (hl:l.length≤100) (hs:∀ s ∈ l,s.size≤maxLen) (hA:A w.heap.size):
 StrsAt A (w.alloc (.cells (l.map Value.string).toArray 9)) (.slice (some ⟨w.heap.size,0,none⟩) l.length l.length) l:=by
 refine ⟨fun j _=>.string (at' l j),⟨by unfold maxLen;omega,_,_,rfl,Nat.le_refl _,nofun,fun hp=>⟨_,_,rfl,by simp,hA,fun j hj i hi=>?_⟩⟩,fun j hj=>⟨rfl,hs _ (zaT hj)⟩⟩
 obtain rfl:i=0:=by omega
 rw [World.cell?_alloc_at _ _ _ _ rfl]
 simp [zax hj,hj]
def byteAt (s:ByteArray) (j:Nat):Int:=(s.data.toList.getD j 0).toNat
theorem zlN (w:World) (s:ByteArray):∃ c W,(convert 9 257 (.string s)).run Tryz.prog w=.ok (.slice (some ⟨w.heap.size,0,none⟩) s.size c) W∧Below w.heap.size w W∧
 ∀ j,j < s.size→W.cell? ⟨w.heap.size,j,none⟩=some (.int .u8 (byteAt s j)):=
 ⟨_,_,Lib.run_convert_string_bytes w 9 257 5 s Tryz.underlying9 Tryz.underlying257 Tryz.underlying5,
   ⟨rfl,rfl,rfl,by rw [Lib.bytesWorld_size];omega,fun k hk=>Lib.bytesWorld_at_old w _ s k hk⟩,fun j hj=>Lib.bytesWorld_cell w _ s j hj⟩
def lowAt (s:ByteArray) (j:Nat):Prop:=97≤byteAt s j∧byteAt s j≤122
theorem zln {s:ByteArray} (h:∀ j,j < s.size→lowAt s j):lowerB s=true:=by
 rw [lowerB,List.all_eq_true]
 intro x hx
 obtain ⟨j,hj,rfl⟩:=List.mem_iff_getElem.1 hx
 have:=h j (by simpa using hj)
 simp only [lowAt,byteAt,List.getD_eq_getElem?_getD,List.getElem?_eq_getElem hj,Option.getD_some] at this
 simp only [Bool.and_eq_true,decide_eq_true_eq,UInt8.le_iff_toNat_le]
 have e1:(97:UInt8).toNat=97:=rfl
 have e2:(122:UInt8).toNat=122:=rfl
 exact ⟨by have:=this.1;omega,by have:=this.2;omega⟩
theorem zgL {s:ByteArray} {j:Nat} (hj:j < s.size) (h:¬ lowAt s j):lowerB s=false:=by
 rw [lowerB,List.all_eq_false]
 have hj':j < s.data.toList.length:=by simpa using hj
 refine ⟨s.data.toList[j],List.getElem_mem hj',fun hc=>h ?_⟩
 simp only [Bool.and_eq_true,decide_eq_true_eq,UInt8.le_iff_toNat_le] at hc
 simp only [lowAt,byteAt,List.getD_eq_getElem?_getD,List.getElem?_eq_getElem hj',Option.getD_some]
 have e1:(97:UInt8).toNat=97:=rfl
 have e2:(122:UInt8).toNat=122:=rfl
 exact ⟨by have:=hc.1;omega,by have:=hc.2;omega⟩
theorem zdL (s:ByteArray) (w:World) (hs:s.size≤maxLen):
 Calls Tryz.prog 151 #[.string s] w fun e w'=>e=.returned (.bool (nameB s))∧Below w.heap.size w w':=by
 have hs':=hs
 unfold maxLen at hs'
 by_cases h1:s.size < 1
 · have d1:decide ((s.size:Int) < 1)=true:=by simp;omega
   have HN:=Lib.hid (show nameB s=false by simp [nameB];omega)
   go_enter Tryz.func151,Tryz.ntmps151
   go_wp2
   go_ret
   rw [HN.out]
   exact ⟨rfl,Below.refl _ _⟩
 · have d1:decide ((s.size:Int) < 1)=false:=by simp;omega
   by_cases h2:12 < s.size
   · have d2:decide (12 < (s.size:Int))=true:=by simp;omega
     have HN:=Lib.hid (show nameB s=false by simp [nameB];omega)
     go_enter Tryz.func151,Tryz.ntmps151
     go_wp2
     go_ret
     rw [HN.out]
     exact ⟨rfl,Below.refl _ _⟩
   · have d2:decide (12 < (s.size:Int))=false:=by simp;omega
     cases hk:keyB s with
     | true=>
       have HN:=Lib.hid (show nameB s=false by simp [nameB,hk])
       have HK:=Lib.hid hk
       clear hk
       go_enter Tryz.func151,Tryz.ntmps151
       go_wp2_with fail
       refine (zcV s w hs).mono ?_
       rintro e w1 ⟨rfl,hb1⟩
       rw [HK.out]
       go_wp2
       go_ret
       rw [HN.out]
       exact ⟨rfl,hb1⟩
     | false=>
       have HK:=Lib.hid hk
       clear hk
       go_enter Tryz.func151,Tryz.ntmps151
       go_wp2_with fail
       refine (zcV s w hs).mono ?_
       rintro e w1 ⟨rfl,hb1⟩
       rw [HK.out]
       have hz1:=hb1.size
       obtain ⟨c,w2,hcv,hb2,hcell⟩:=zlN w1 s
       have hB2:Below w.heap.size w w2:=hb1.trans (hb2.mono hz1)
       have hz2:=hb2.size
       have HC:=Lib.hid hcell
       clear hb1 hcell
       go_wp2
       clear hcv
       go_loop [20,4] (fun i _=>∃ k:Nat,k≤s.size∧i=.int .i64 k∧∀ j,j < k→lowAt s j) (fun i _=>s.size - (intOf i).toNat)
       case atStart=>exact ⟨0,Nat.zero_le _,rfl,fun j hj=>absurd hj (by omega)⟩
       case round=>
        obtain ⟨k,hk,rfl,hlow⟩:=hrel
        have HL:=Lib.hid hlow
        clear hlow
        by_cases hlt:k < s.size
        · have hc:w2.cell? ⟨w1.heap.size,k,none⟩=some (.int .u8 (byteAt s k)):=HC.out k hlt
          by_cases h97:byteAt s k < 97
          · have HN:=Lib.hid (show nameB s=false by simp [nameB,zgL hlt (fun h=>by have:=h.1;omega)])
            go_wp2
            go_ret
            rw [HN.out]
            exact ⟨rfl,hB2⟩
          · by_cases h122:122 < byteAt s k
            · have HN:=Lib.hid (show nameB s=false by simp [nameB,zgL hlt (fun h=>by have:=h.2;omega)])
              go_wp2
              go_ret
              rw [HN.out]
              exact ⟨rfl,hB2⟩
            · go_wp2
              go_round
              case rel=>exact ⟨k+1,by omega,by go_num,fun j hj=>(by
               by_cases e:j=k
               · rw [e];exact ⟨by omega,by omega⟩
               · exact HL.out j (by omega))⟩
              case measure=>simp [intOf];omega
        · have a1:decide (1≤s.size)=true:=by simp;omega
          have a2:decide (s.size≤12)=true:=by simp;omega
          have HN:=Lib.hid (show nameB s= !inB reserved s by rw [nameB,a1,a2,zln (fun j hj=>HL.out j (by omega)),HK.out];rfl)
          clear a1 a2
          have hA:Below w2.heap.size w2 (w2.alloc (.cells (reserved.map Value.string).toArray 9)):=(Below.refl _ _).alloc (Nat.le_refl _) _
          have hlit:=zmE Any w2 reserved (by decide) (by intro x hx;have:reserved.all (fun k=>decide (k.size≤100))=true:=by decide +kernel
                                                         have:=List.all_eq_true.1 this _ hx;simp at this;unfold maxLen;omega) trivial
          go_wp2_with fail
          refine (zcb _ reserved s Any _ hlit).mono ?_
          rintro e w3 ⟨rfl,rfl⟩
          go_wp2
          go_ret
          rw [HN.out]
          exact ⟨rfl,hB2.trans (hA.mono (by omega))⟩
end Go.Proofs.YtpobmoegmdhbpaaGreatDoor
/- Walks:form,formed,measure. -/
namespace Go.Proofs.YtpobmoegmdhbpaaGreatDoor
open Go.RowKit
theorem zfZ {s:ByteArray} (h:s.size=0):s=ByteArray.empty:=by
 cases s with
 | mk d=>
   have:d=#[]:=Array.eq_empty_of_size_eq_zero h
   subst this;rfl
theorem zkW {s:ByteArray} (h:s.size≠0):s.toList≠[]:=by
 intro e
 apply h
 rw [ByteArray.toList_eq] at e
 have:s.data.toList.length=0:=by rw [e];rfl
 simpa using this
theorem ibeq (m c:Int):(m == c)=decide (m=c):=by rw [Bool.eq_iff_iff];simp
theorem zcC {s:ByteArray} (h:s.size≠0):s.toList.isEmpty=false∧(!s.toList.isEmpty)=true:=by
 have:=zkW h
 cases e:s.toList with
 | nil=>exact absurd e this
 | cons a l=>exact ⟨rfl,rfl⟩
theorem zis (v:Value) (n:Nd) (A:Nat→Prop) (w:World) (hv:NdAt A w v n):
 Calls Tryz.prog 200 #[v] w fun e w'=>e=.returned (.bool (formB n.kind n.num n.name n.kids.length))∧Below w.heap.size w w':=by
 obtain ⟨hok,hlen,ka,kc,rfl,hk⟩:=hv.open
 obtain ⟨k,num,name,kids⟩:=n
 obtain ⟨⟨hk0,hk1⟩,hn64,hs⟩:=hok
 simp only [Nd.kind,Nd.num,Nd.name,Nd.kids] at *
 unfold maxLen at hlen
 clear hv hk
 generalize kids.length=m at *
 have hA:Below w.heap.size w (w.alloc (.cells #[.int .u8 k,.int .i64 num,.string name,.slice ka m kc] 34)):=(Below.refl _ _).alloc (Nat.le_refl _) _
 by_cases h80:k=80
 · subst h80
   by_cases hs0:name.size=0
   · obtain rfl:=zfZ hs0
     clear hs0
     go_enter Tryz.func200,Tryz.ntmps200
     go_wp2
     all_goals
      go_ret
      refine ⟨?_,hA⟩
      first|(simp [formB, *];done)|(simp [formB, *];omega)|(simp [formB,ibeq, *];done)|(simp [formB,ibeq, *];omega)
   · obtain ⟨hs1,hs2⟩:=zcC hs0
     go_enter Tryz.func200,Tryz.ntmps200
     go_wp2
     all_goals
      go_ret
      refine ⟨?_,hA⟩
      first|(simp [formB, *];done)|(simp [formB, *];omega)|(simp [formB,ibeq, *];done)|(simp [formB,ibeq, *];omega)
 · have d80:(k == 80)=false:=by simpa using h80
   by_cases h81:k=81
   · subst h81
     by_cases hnum:num=0
     · subst hnum
       go_enter Tryz.func200,Tryz.ntmps200
       go_wp2
       all_goals
        go_ret
        refine ⟨?_,hA⟩
        first|(simp [formB, *];done)|(simp [formB, *];omega)|(simp [formB,ibeq, *];done)|(simp [formB,ibeq, *];omega)
     · have d0:(num == 0)=false:=by simpa using hnum
       go_enter Tryz.func200,Tryz.ntmps200
       go_wp2
       all_goals
        go_ret
        refine ⟨?_,hA⟩
        first|(simp [formB, *];done)|(simp [formB, *];omega)|(simp [formB,ibeq, *];done)|(simp [formB,ibeq, *];omega)
   · have d81:(k == 81)=false:=by simpa using h81
     by_cases h82:k=82
     · subst h82
       by_cases hs0:name.size=0
       · obtain rfl:=zfZ hs0
         clear hs0
         go_enter Tryz.func200,Tryz.ntmps200
         go_wp2
         all_goals
          go_ret
          refine ⟨?_,hA⟩
          first|(simp [formB, *];done)|(simp [formB, *];omega)|(simp [formB,ibeq, *];done)|(simp [formB,ibeq, *];omega)
       · obtain ⟨hs1,hs2⟩:=zcC hs0
         go_enter Tryz.func200,Tryz.ntmps200
         go_wp2
         all_goals
          go_ret
          refine ⟨?_,hA⟩
          first|(simp [formB, *];done)|(simp [formB, *];omega)|(simp [formB,ibeq, *];done)|(simp [formB,ibeq, *];omega)
     · have d82:(k == 82)=false:=by simpa using h82
       by_cases h84:k=84
       · subst h84
         by_cases hnum:num=0
         · subst hnum
           go_enter Tryz.func200,Tryz.ntmps200
           go_wp2_with fail
           refine (zdL name _ hs).mono ?_
           rintro e w1 ⟨rfl,hb1⟩
           have hB1:Below w.heap.size w w1:=hA.trans (hb1.mono (by simp))
           cases hnm:nameB name
           all_goals
            go_wp2
            go_ret
            refine ⟨?_,hB1⟩
            first|(simp [formB,hnm];done)|(simp [formB,ibeq,hnm];omega)
         · have d0:(num == 0)=false:=by simpa using hnum
           go_enter Tryz.func200,Tryz.ntmps200
           go_wp2
           all_goals
            go_ret
            refine ⟨?_,hA⟩
            first|(simp [formB, *];done)|(simp [formB, *];omega)|(simp [formB,ibeq, *];done)|(simp [formB,ibeq, *];omega)
       · have d84:(k == 84)=false:=by simpa using h84
         by_cases h85:k=85
         · subst h85
           go_enter Tryz.func200,Tryz.ntmps200
           go_wp2
           all_goals
            go_ret
            refine ⟨?_,hA⟩
            first|(simp [formB, *];done)|(simp [formB, *];omega)|(simp [formB,ibeq, *];done)|(simp [formB,ibeq, *];omega)
         · have d85:(k == 85)=false:=by simpa using h85
           by_cases hbad:num≠0∨name.size≠0
           · have hf:formB k num name m=false:=by simp only [formB,if_neg h80,if_neg h81,if_neg h82,if_neg h84,if_neg h85,if_pos hbad]
             have HF:=Lib.hid hf
             clear hf
             by_cases hnum:num=0
             · have hs0:name.size≠0:=by rcases hbad with h|h;exact absurd hnum h;exact h
               subst hnum
               obtain ⟨hs1,hs2⟩:=zcC hs0
               clear hbad
               go_enter Tryz.func200,Tryz.ntmps200
               go_wp2
               go_ret
               rw [HF.out]
               exact ⟨rfl,hA⟩
             · have d0:(num != 0)=true:=by simpa using hnum
               clear hbad
               go_enter Tryz.func200,Tryz.ntmps200
               go_wp2
               go_ret
               rw [HF.out]
               exact ⟨rfl,hA⟩
           · have hnum:num=0:=by apply Classical.byContradiction;intro h;exact hbad (.inl h)
             have hs0:name.size=0:=by apply Classical.byContradiction;intro h;exact hbad (.inr h)
             subst hnum
             obtain rfl:=zfZ hs0
             clear hs0 hbad
             by_cases h86:k=86
             · subst h86
               go_enter Tryz.func200,Tryz.ntmps200
               go_wp2
               all_goals
                go_ret
                refine ⟨?_,hA⟩
                first|(simp [formB, *];done)|(simp [formB, *];omega)|(simp [formB,ibeq, *];done)|(simp [formB,ibeq, *];omega)
             · have d86:(k == 86)=false:=by simpa using h86
               by_cases h88:k=88
               · subst h88
                 go_enter Tryz.func200,Tryz.ntmps200
                 go_wp2
                 all_goals
                  go_ret
                  refine ⟨?_,hA⟩
                  first|(simp [formB, *];done)|(simp [formB, *];omega)|(simp [formB,ibeq, *];done)|(simp [formB,ibeq, *];omega)
               · have d88:(k == 88)=false:=by simpa using h88
                 by_cases h89:k=89
                 · subst h89
                   go_enter Tryz.func200,Tryz.ntmps200
                   go_wp2
                   all_goals
                    go_ret
                    refine ⟨?_,hA⟩
                    first|(simp [formB, *];done)|(simp [formB, *];omega)|(simp [formB,ibeq, *];done)|(simp [formB,ibeq, *];omega)
                 · have d89:(k == 89)=false:=by simpa using h89
                   by_cases h90:k=90
                   · subst h90
                     go_enter Tryz.func200,Tryz.ntmps200
                     go_wp2
                     all_goals
                      go_ret
                      refine ⟨?_,hA⟩
                      first|(simp [formB, *];done)|(simp [formB, *];omega)|(simp [formB,ibeq, *];done)|(simp [formB,ibeq, *];omega)
                   · have d90:(k == 90)=false:=by simpa using h90
                     by_cases h87:k=87
                     · subst h87
                       go_enter Tryz.func200,Tryz.ntmps200
                       go_wp2
                       all_goals
                        go_ret
                        refine ⟨?_,hA⟩
                        first|(simp [formB, *];done)|(simp [formB, *];omega)|(simp [formB,ibeq, *];done)|(simp [formB,ibeq, *];omega)
                     · have d87:(k == 87)=false:=by simpa using h87
                       by_cases h83:k=83
                       · subst h83
                         go_enter Tryz.func200,Tryz.ntmps200
                         go_wp2
                         all_goals
                          go_ret
                          refine ⟨?_,hA⟩
                          first|(simp [formB, *];done)|(simp [formB, *];omega)|(simp [formB,ibeq, *];done)|(simp [formB,ibeq, *];omega)
                       · have d83:(k == 83)=false:=by simpa using h83
                         go_enter Tryz.func200,Tryz.ntmps200
                         go_wp2
                         all_goals
                          go_ret
                          refine ⟨?_,hA⟩
                          first|(simp [formB, *];done)|(simp [formB, *];omega)|(simp [formB,ibeq, *];done)|(simp [formB,ibeq, *];omega)
end Go.Proofs.YtpobmoegmdhbpaaGreatDoor
/- Walks:formed,measure. -/
namespace Go.Proofs.YtpobmoegmdhbpaaGreatDoor
open Go.RowKit
theorem zaH (n:Nd):1≤sizeN n:=by cases n;simp [sizeN]
theorem zkz:∀ (l:List Nd) (j:Nat),j < l.length→sizeN (at' l j)≤sizeL l
 | n :: r,0,_=>by show sizeN n≤_;simp [sizeL]
 | n :: r,j+1,h=>by
   have:=zkz r j (by simpa using h)
   show sizeN (at' r j)≤_
   simp [sizeL];omega
theorem zaC (n:Nd) (j:Nat) (h:j < n.kids.length):sizeN (at' n.kids j) < sizeN n:=by
 obtain ⟨k,num,name,kids⟩:=n
 have:=zkz kids j h
 simp [sizeN,Nd.kids] at *;omega
theorem zch:∀ (l:List Nd),formedL l=true ↔ ∀ j,j < l.length→formedN (at' l j)=true
 | []=>by simp [formedL]
 | n :: r=>by
   rw [formedL,Bool.and_eq_true,zch r]
   constructor
   · rintro ⟨h1,h2⟩ j hj
     match j with
     | 0=>exact h1
     | j+1=>exact h2 j (by simpa using hj)
   · intro h
     exact ⟨h 0 (by simp),fun j hj=>h (j+1) (by simpa using hj)⟩
theorem zbS (n:Nd):formedN n=(formB n.kind n.num n.name n.kids.length && formedL n.kids):=by cases n;rfl
theorem zhL (m:Nat):∀ (n:Nd) (v:Value) (A:Nat→Prop) (w:World),sizeN n≤m→NdAt A w v n→
 Calls Tryz.prog 153 #[v] w fun e w'=>e=.returned (.bool (formedN n))∧Below w.heap.size w w':=by
 induction m with
 | zero=>intro n v A w hm;have:=zaH n;omega
 | succ m ih=>
   intro n v A w hm hv
   have IH:=Lib.hid ih
   clear ih
   obtain ⟨hok,hlen,ka,kc,rfl,hk⟩:=hv.open
   have HS:Hid (∀ j,j < n.kids.length→sizeN (at' n.kids j)≤m):=Lib.hid (fun j hj=>by have:=zaC n j hj;omega)
   have HE:=Lib.hid (zbS n)
   unfold maxLen at hlen
   have hA:Below w.heap.size w (w.alloc (.cells #[.int .u8 n.kind,.int .i64 n.num,.string n.name,.slice ka n.kids.length kc] 34)):=(Below.refl _ _).alloc (Nat.le_refl _) _
   have hvA:=hv.stays (Stays.of_below hA)
   have hkA:=hk.stays (Stays.of_below hA)
   cases hfb:formB n.kind n.num n.name n.kids.length with
   | false=>
     have HF:=Lib.hid hfb
     clear hfb
     go_enter Tryz.func153,Tryz.ntmps153
     go_wp2_with fail
     refine (zis _ n A _ hvA).mono ?_
     rintro e w1 ⟨rfl,hb1⟩
     rw [HF.out]
     go_wp2
     go_ret
     rw [HE.out,HF.out]
     exact ⟨rfl,hA.trans (hb1.mono (by simp))⟩
   | true=>
     have HF:=Lib.hid hfb
     clear hfb
     go_enter Tryz.func153,Tryz.ntmps153
     go_wp2_with fail
     refine (zis _ n A _ hvA).mono ?_
     rintro e w1 ⟨rfl,hb1⟩
     rw [HF.out]
     have hc3:w1.cell? ⟨w.heap.size,3,none⟩=some (.slice ka n.kids.length kc):=(hb1.cell (p:=⟨w.heap.size,3,none⟩) (by simp)).trans (by simp)
     have hB1:Below w.heap.size w w1:=hA.trans (hb1.mono (by simp))
     clear hv hvA hkA hA hb1
     go_wp2
     go_loopw [11] (fun i wr=>∃ k:Nat,k≤n.kids.length∧i=.int .i64 k∧(∀ j,j < k→formedN (at' n.kids j)=true)∧Below w.heap.size w wr) (fun i _=>n.kids.length - (intOf i).toNat)
     case atStart=>exact ⟨0,Nat.zero_le _,rfl,fun j hj=>absurd hj (by omega),hB1⟩
     case round=>
      obtain ⟨k,hkk,rfl,hall,hbl⟩:=hrel
      have HA:=Lib.hid hall
      clear hall
      have hz:=hbl.size
      by_cases hlt:k < n.kids.length
      · obtain ⟨b,off,cap,ka',kc',he,hb,_,_,c0,c1,c2,c3,hnd⟩:=(hk.stays (Stays.of_below hbl)).at hlt
        simp only [Value.slice.injEq] at he
        obtain ⟨rfl,-,rfl⟩:=he
        have hA2:Below wr.heap.size wr (wr.alloc (.cells #[.int .u8 (at' n.kids k).kind,.int .i64 (at' n.kids k).num,.string (at' n.kids k).name,.slice ka' (at' n.kids k).kids.length kc'] 34)):=(Below.refl _ _).alloc (Nat.le_refl _) _
        go_wp2_with fail
        refine (IH.out (at' n.kids k) _ A _ (HS.out k hlt) (hnd.stays (Stays.of_below hA2))).mono ?_
        rintro e w2 ⟨rfl,hb2⟩
        have hB2:Below w.heap.size w w2:=hbl.trans ((hA2.trans (hb2.mono (by simp))).mono hz)
        cases hfk:formedN (at' n.kids k) with
        | false=>
          have HN:=Lib.hid (show formedN n=false by
           rw [HE.out,HF.out,Bool.true_and]
           cases e:formedL n.kids with
           | false=>rfl
           | true=>rw [zch] at e;rw [e k hlt] at hfk;exact absurd hfk (by simp))
          clear hfk
          go_wp2
          go_ret
          rw [HN.out]
          exact ⟨rfl,hB2⟩
        | true=>
          have HK:=Lib.hid hfk
          clear hfk
          go_wp2
          go_roundw
          case rel=>exact ⟨k+1,by omega,by go_num,fun j hj=>(by
           by_cases e:j=k
           · rw [e];exact HK.out
           · exact HA.out j (by omega)),hB2⟩
          case measure=>simp [intOf];omega
      · have HN:=Lib.hid (show formedN n=true by rw [HE.out,HF.out,Bool.true_and,zch];exact fun j hj=>HA.out j (by omega))
        go_wp2
        go_ret
        rw [HN.out]
        exact ⟨rfl,hbl⟩
theorem zjI (n:Nd) (v:Value) (A:Nat→Prop) (w:World) (hv:NdAt A w v n):
 Calls Tryz.prog 153 #[v] w fun e w'=>e=.returned (.bool (formedN n))∧Below w.heap.size w w':=zhL (sizeN n) n v A w (Nat.le_refl _) hv
theorem zbm:∀ (l:List Nd) (k:Nat),k < l.length→sizeL (l.take (k+1))=sizeL (l.take k)+sizeN (at' l k)
 | n :: r,0,_=>by show sizeN n+0=0+sizeN n;omega
 | n :: r,k+1,h=>by
   have:=zbm r k (by simpa using h)
   simp only [List.take_succ_cons,sizeL,this]
   show _=_+sizeN (at' r k)
   omega
theorem zcY:∀ (l:List Nd) (k:Nat),k < l.length→depthL (l.take (k+1))=max (depthL (l.take k)) (depthN (at' l k))
 | n :: r,0,_=>by show max (depthN n) 0=max 0 (depthN n);omega
 | n :: r,k+1,h=>by
   have:=zcY r k (by simpa using h)
   simp only [List.take_succ_cons,depthL,this]
   show _=max _ (depthN (at' r k))
   omega
mutual
theorem zfK:∀ (n:Nd),depthN n≤sizeN n
 | .mk k num name kids=>by have:=zdd kids;simp [depthN,sizeN];omega
theorem zdd:∀ (l:List Nd),depthL l≤sizeL l
 | []=>by simp [depthL]
 | n :: r=>by have:=zfK n;have:=zdd r;simp [depthL,sizeL];omega
end
theorem zaL:∀ (l:List Nd) (k:Nat),sizeL (l.take k)≤sizeL l
 | [],k=>by simp [sizeL]
 | n :: r,0=>by simp [sizeL]
 | n :: r,k+1=>by have:=zaL r k;simp [sizeL];omega
theorem zbd (n:Nd):sizeN n=sizeL n.kids+1:=by cases n;rfl
theorem zds (n:Nd):depthN n=depthL n.kids+1:=by cases n;rfl
theorem zne (a b:Nat):Value.int .i64 (if a < b then (b:Int) else (a:Int))=.int .i64 ((max a b:Nat):Int):=by
 congr 1;split <;> omega
theorem zgz (m:Nat):∀ (n:Nd) (v:Value) (A:Nat→Prop) (w:World),sizeN n≤m→sizeN n≤1000000→NdAt A w v n→
 Calls Tryz.prog 154 #[v] w fun e w'=>e=.returned (.tuple #[.int .i64 (sizeN n),.int .i64 (depthN n)])∧Below w.heap.size w w':=by
 induction m with
 | zero=>intro n v A w hm;have:=zaH n;omega
 | succ m ih=>
   intro n v A w hm hmil hv
   have IH:=Lib.hid ih
   clear ih
   obtain ⟨hok,hlen,ka,kc,rfl,hk⟩:=hv.open
   have HS:Hid (∀ j,j < n.kids.length→sizeN (at' n.kids j)≤m∧sizeN (at' n.kids j)≤1000000):=Lib.hid (fun j hj=>by have:=zaC n j hj;omega)
   have HE:=Lib.hid (zbd n)
   have HD:=Lib.hid (zds n)
   have hsz:sizeL n.kids≤1000000:=by have:=HE.out;omega
   clear hmil hm
   unfold maxLen at hlen
   have hA:Below w.heap.size w (w.alloc (.cells #[.int .u8 n.kind,.int .i64 n.num,.string n.name,.slice ka n.kids.length kc] 34)):=(Below.refl _ _).alloc (Nat.le_refl _) _
   clear hv
   go_enter Tryz.func154,Tryz.ntmps154
   go_wp2
   go_loopw [2,3,11] (fun s d i wr=>∃ k:Nat,k≤n.kids.length∧i=.int .i64 k∧s=.int .i64 (sizeL (n.kids.take k))∧d=.int .i64 (depthL (n.kids.take k))∧Below w.heap.size w wr) (fun _ _ i _=>n.kids.length - (intOf i).toNat)
   case atStart=>exact ⟨0,Nat.zero_le _,rfl,rfl,rfl,hA⟩
   case round=>
    obtain ⟨k,hkk,rfl,rfl,rfl,hbl⟩:=hrel
    have hz:=hbl.size
    have hs1:=zaL n.kids k
    have hd1:=zdd (n.kids.take k)
    by_cases hlt:k < n.kids.length
    · obtain ⟨b,off,cap,ka',kc',he,hb,_,_,c0,c1,c2,c3,hnd⟩:=(hk.stays (Stays.of_below hbl)).at hlt
      simp only [Value.slice.injEq] at he
      obtain ⟨rfl,-,rfl⟩:=he
      have hA2:Below wr.heap.size wr (wr.alloc (.cells #[.int .u8 (at' n.kids k).kind,.int .i64 (at' n.kids k).num,.string (at' n.kids k).name,.slice ka' (at' n.kids k).kids.length kc'] 34)):=(Below.refl _ _).alloc (Nat.le_refl _) _
      have HT:=Lib.hid (zbm n.kids k hlt)
      have HU:=Lib.hid (zcY n.kids k hlt)
      have hsk:=(HS.out k hlt).2
      have hdk:=zfK (at' n.kids k)
      go_wp2_with fail
      refine (IH.out (at' n.kids k) _ A _ (HS.out k hlt).1 hsk (hnd.stays (Stays.of_below hA2))).mono ?_
      rintro e w2 ⟨rfl,hb2⟩
      have hB2:Below w.heap.size w w2:=hbl.trans ((hA2.trans (hb2.mono (by simp))).mono hz)
      go_wp2
      go_roundw
      case rel=>exact ⟨k+1,by omega,by go_num,by rw [HT.out];go_num,by rw [HU.out];exact zne _ _,hB2⟩
      case measure=>simp [intOf];omega
    · obtain rfl:k=n.kids.length:=by omega
      rw [List.take_length] at *
      go_wp2
      go_ret2
      rw [HE.out,HD.out]
      exact ⟨by go_num,hbl⟩
end Go.Proofs.YtpobmoegmdhbpaaGreatDoor
/- What a call leaves alone:all blocks but those of a set. -/
namespace Go.Proofs.YtpobmoegmdhbpaaGreatDoor
open Go.RowKit
structure Keeps (w w':World) (S:Nat→Prop):Prop where
 os:w'.os=w.os
 tape:w'.tape=w.tape
 output:w'.output=w.output
 size:w.heap.size≤w'.heap.size
 block:∀ k,k < w.heap.size→¬ S k→w'.heap[k]?=w.heap[k]?
def Grew (w:World) (S S':Nat→Prop):Prop:=∀ k,S' k→S k∨w.heap.size≤k
theorem Keeps.mono {w w':World} {S T:Nat→Prop} (h:Keeps w w' S) (hs:∀ k,S k→T k):Keeps w w' T:=⟨h.os,h.tape,h.output,h.size,fun k hk hn=>h.block k hk fun e=>hn (hs k e)⟩
theorem Keeps.refl (w:World) (S:Nat→Prop):Keeps w w S:=⟨rfl,rfl,rfl,Nat.le_refl _,fun _ _ _=>rfl⟩
theorem Keeps.trans {w w1 w2:World} {S S':Nat→Prop} (h:Keeps w w1 S) (h':Keeps w1 w2 S') (hg:Grew w S S'):Keeps w w2 S:=
 ⟨h'.os.trans h.os,h'.tape.trans h.tape,h'.output.trans h.output,Nat.le_trans h.size h'.size,fun k hk hn=>(h'.block k (Nat.lt_of_lt_of_le hk h.size) fun e=>by
   rcases hg k e with e|e
   · exact hn e
   · omega).trans (h.block k hk hn)⟩
theorem Keeps.same {w w1 w2:World} {S:Nat→Prop} (h:Keeps w w1 S) (h':Keeps w1 w2 S):Keeps w w2 S:=h.trans h' (fun _ e=>.inl e)
theorem Keeps.of_below {w w':World} (S:Nat→Prop) (h:Below w.heap.size w w'):Keeps w w' S:=⟨h.os,h.tape,h.output,h.size,fun k hk _=>h.block k hk⟩
theorem Keeps.of_grown {w w':World} {S:Nat→Prop} {row:Option Nat} (h:w.grownBy w' row) (hr:∀ k,row=some k→S k∨w.heap.size≤k):Keeps w w' S:=
 ⟨h.os,h.tape,h.output,h.size,fun k hk hn=>h.block k hk fun e=>by
   rcases hr k e.symm with h|h
   · exact hn h
   · omega⟩
theorem Keeps.below {w w':World} {S:Nat→Prop} {B:Nat} (h:Keeps w w' S) (hs:∀ k,S k→B≤k) (hB:B≤w.heap.size):Below B w w':=
 ⟨h.os,h.tape,h.output,h.size,fun k hk=>h.block k (by omega) fun e=>by have:=hs k e;omega⟩
theorem Keeps.cell {w w':World} {S:Nat→Prop} (h:Keeps w w' S) {p:Addr} (hp:p.block < w.heap.size) (hn:¬ S p.block):w'.cell? p=w.cell? p:=by simp only [World.cell?,h.block p.block hp hn]
theorem Keeps.alloc {w w':World} {S:Nat→Prop} (h:Keeps w w' S) (o:Obj):Keeps w (w'.alloc o) S:=h.trans (Keeps.of_below (fun _=>False) ((Below.refl _ _).alloc (Nat.le_refl _) _)) (fun _ e=>e.elim)
theorem Keeps.drew {w w':World} {S:Nat→Prop} (h:Keeps w w' S) (n:Nat):Keeps w (w'.drewN n) S:=⟨h.os,h.tape,h.output,h.size,h.block⟩
theorem Keeps.stays {A:Nat→Prop} {w w':World} {S:Nat→Prop} (h:Keeps w w' S) (hd:∀ k,A k→k < w.heap.size→¬ S k):Stays A A w w':=⟨h.size,fun b hb ha=>⟨h.block b hb (hd b ha hb),ha⟩⟩
theorem Keeps.smap {P:Program} {kt:TypeId} {w w':World} {b N:Nat} {m:ByteArray→Option Value} {S:Nat→Prop} (h:Keeps w w' S) (hm:SMapLe P kt w b m N) (hn:¬ S b):SMapLe P kt w' b m N:=hm.same (h.block b hm.lt hn)
theorem zaD {w w':World} {base e size n:Nat} {v:Value} {xs:List Value} {S:Nat→Prop} (h:w.ownsRow base e size v n xs) (hk:Keeps w w' S) (hs:∀ k,v.ownBlock=some k→¬ S k):w'.ownsRow base e size v n xs:=by
 refine ⟨h.1,?_⟩
 rcases h.2 with ⟨rfl,hn⟩|⟨g,cap,cur,rfl,hbg,hg,hrest⟩
 · exact .inl ⟨rfl,hn⟩
 · refine .inr ⟨g,cap,cur,rfl,hbg,?_,hrest⟩
   have hgl:g < w.heap.size:=by rw [Array.getElem?_eq_some_iff] at hg;exact hg.1
   exact (hk.block g hgl (hs g rfl)).trans hg
theorem zah (w:World) (x:Obj):(w.alloc x).heap[w.heap.size]?=some x:=heap_alloc_new w x
theorem zaw (w:World) (x y:Obj):((w.alloc x).alloc y).heap[w.heap.size+1]?=some y:=by
 have:=heap_alloc_new (w.alloc x) y
 simpa using this
theorem zoo (w:World) (x y z:Obj):(((w.alloc x).alloc y).alloc z).heap[w.heap.size+1]?=some y:=by
 rw [Below.heap_alloc _ _ _ (by simp)];exact zaw w x y
end Go.Proofs.YtpobmoegmdhbpaaGreatDoor
/- Walks:slices.Equal at bools,parameters,reach,result. -/
namespace Go.Proofs.YtpobmoegmdhbpaaGreatDoor
open Go.RowKit
theorem TB:RowT Tryz.prog 260 4 (.bool false) 1 1:=⟨Tryz.underlying260,by kernel_rfl⟩
def BoolsAt (w:World) (v:Value) (l:List Bool):Prop:=
 l.length≤maxLen∧∃ a cap,v=.slice a l.length cap∧(0 < l.length→∃ b off,a=some ⟨b,off,none⟩∧b < w.heap.size∧∀ j,j < l.length→w.cell? ⟨b,off+j,none⟩=some (.bool (at' l j)))
theorem BoolsAt.below {w w':World} {v:Value} {l:List Bool} (h:BoolsAt w v l) (hb:Below w.heap.size w w'):BoolsAt w' v l:=by
 obtain ⟨h1,a,cap,rfl,h3⟩:=h
 refine ⟨h1,a,cap,rfl,fun hl=>?_⟩
 obtain ⟨b,off,rfl,hlt,hc⟩:=h3 hl
 exact ⟨b,off,rfl,Nat.lt_of_lt_of_le hlt hb.size,fun j hj=>(hb.cell (p:=⟨b,off+j,none⟩) hlt).trans (hc j hj)⟩
theorem BoolsAt.form {w:World} {v:Value} {l:List Bool} (h:BoolsAt w v l):∃ a c,v=.slice a l.length c:=by
 obtain ⟨_,a,c,h,_⟩:=h;exact ⟨a,c,h⟩
def RowB (w:World) (base:Nat) (v:Value) (l:List Bool):Prop:=l.length≤100000∧w.ownsRow base 4 1 v l.length (l.map Value.bool)
theorem RowB.bools {w:World} {base:Nat} {v:Value} {l:List Bool} (h:RowB w base v l):BoolsAt w v l:=by
 obtain ⟨h1,h3⟩:=h
 have h3':=h3
 obtain ⟨_,⟨rfl,hn⟩|⟨g,cap,cur,rfl,hg,hh,hn,hm,hs,ht⟩⟩:=h3
 · exact ⟨by unfold maxLen;omega,none,0,by rw [hn],fun h=>absurd h (by omega)⟩
 · refine ⟨by unfold maxLen;omega,_,cap,rfl,fun _=>⟨g,0,rfl,(h3'.lt g rfl).2,fun j hj=>?_⟩⟩
   rw [Nat.zero_add,h3'.cellAt j (by omega)]
   simp [zax hj,hj]
theorem RowB.nil (w:World) (base:Nat):RowB w base (.slice none 0 0) []:=⟨by simp,World.ownsRow_nil _ _ _ _⟩
theorem zcJ {W:World} {g base:Nat} (l:List Bool) (h:l.length≤100) (hb:base≤g) (hh:W.heap[g]?=some (.cells (l.map Value.bool).toArray 4 (0,0))):
 RowB W base (.slice (some ⟨g,0,none⟩) l.length l.length) l:=by
 refine ⟨by omega,by simp,.inr ⟨g,l.length,(l.map Value.bool).toArray,rfl,hb,hh,Nat.le_refl _,by unfold maxLen;omega,by simp,?_⟩⟩
 rw [List.take_of_length_le (by simp)]
theorem zlR (l m:List Bool) (hl:l.length=m.length) (h:∀ j,j < l.length→at' l j=at' m j):l=m:=by
 apply List.ext_getElem hl
 intro i h1 h2
 have:=h i h1
 rwa [zax h1,zax h2] at this
theorem zaW (v u:Value) (l m:List Bool) (w:World) (hv:BoolsAt w v l) (hu:BoolsAt w u m):
 Calls Tryz.prog 238 #[v,u] w fun e w'=>e=.returned (.bool (decide (l=m)))∧Below w.heap.size w w':=by
 obtain ⟨hlen,a,cap,rfl,hcell⟩:=hv
 obtain ⟨hlen',a',cap',rfl,hcell'⟩:=hu
 unfold maxLen at hlen hlen'
 by_cases hne:l.length=m.length
 · have hq:((l.length:Int) != (m.length:Int))=false:=by simp [hne]
   have HN:=Lib.hid hne
   clear hne
   go_enter Tryz.func238,Tryz.ntmps238
   go_wp2
   go_loopw [13,5] (fun i _ wr=>∃ k:Nat,k≤l.length∧i=.int .i64 k∧(∀ j,j < k→at' l j=at' m j)∧Below w.heap.size w wr) (fun i _ _=>l.length - (intOf i).toNat)
   case atStart=>exact ⟨0,Nat.zero_le _,rfl,fun j hj=>absurd hj (by omega),Below.refl _ _⟩
   case round=>
    obtain ⟨k,hk,rfl,hsame,hbl⟩:=hrel
    have HS:=Lib.hid hsame
    clear hsame
    by_cases hlt:k < l.length
    · have hlt':k < m.length:=by have:=HN.out;omega
      obtain ⟨b,off,rfl,hb,hc⟩:=hcell (by omega)
      obtain ⟨b',off',rfl,hb',hc'⟩:=hcell' (by omega)
      have hx:wr.cell? ⟨b,off+k,none⟩=some (.bool (at' l k)):=(hbl.cell (by exact hb)).trans (hc k hlt)
      have hx':wr.cell? ⟨b',off'+k,none⟩=some (.bool (at' m k)):=(hbl.cell (by exact hb')).trans (hc' k hlt')
      clear hc hc' hcell hcell'
      by_cases heq:at' l k=at' m k
      · have he:(!(at' l k == at' m k))=false:=by simp [heq]
        have HE:=Lib.hid heq
        clear heq
        go_wp2
        go_quiet (fail)
        go_wp2
        go_roundw
        case rel=>exact ⟨k+1,by omega,by go_num,fun j hj=>(by
         by_cases e:j=k
         · rw [e];exact HE.out
         · exact HS.out j (by omega)),zal hbl _⟩
        case measure=>simp [intOf];omega
      · have he:(!(at' l k == at' m k))=true:=by simp [heq]
        have HQ:=Lib.hid heq
        clear heq
        go_wp2
        go_quiet (fail)
        go_wp2
        go_ret
        have hd:decide (l=m)=false:=decide_eq_false (fun h=>HQ.out (by rw [h]))
        exact ⟨by rw [hd];rfl,zal hbl _⟩
    · go_wp2
      go_ret
      have hd:decide (l=m)=true:=decide_eq_true (zlR l m HN.out (fun j hj=>HS.out j (by omega)))
      exact ⟨by rw [hd];rfl,hbl⟩
 · have hq:((l.length:Int) != (m.length:Int))=true:=by simp;omega
   go_enter Tryz.func238,Tryz.ntmps238
   go_wp2
   go_ret
   have hd:decide (l=m)=false:=decide_eq_false (fun h=>hne (by rw [h]))
   exact ⟨by rw [hd];rfl,Below.refl _ _⟩
def count:List ByteArray→Nat
 | []=>0
 | x :: r=>if inB r x then count r else count r+1
theorem zfE (l:List ByteArray):count l≤l.length:=by
 induction l with
 | nil=>simp [count]
 | cons x r ih=>rw [count];split <;> simp <;> omega
theorem zlb (l:List ByteArray) (s:ByteArray):inB l s=true ↔ s ∈ l:=by
 rw [inB,List.any_eq_true]
 constructor
 · rintro ⟨x,hx,h⟩;simp at h;exact h ▸ hx
 · intro h;exact ⟨s,h,by simp⟩
theorem zhI (l:List ByteArray):count l=l.length ↔ l.Nodup:=by
 induction l with
 | nil=>simp [count]
 | cons x r ih=>
   have:=zfE r
   rw [count,List.nodup_cons]
   by_cases h:inB r x=true
   · rw [if_pos h]
     have hm:=(zlb r x).1 h
     simp only [List.length_cons]
     constructor
     · intro e;omega
     · rintro ⟨h1,_⟩;exact absurd hm h1
   · rw [if_neg h]
     have hm:x ∉ r:=fun hm=>h ((zlb r x).2 hm)
     simp only [List.length_cons]
     constructor
     · intro e;exact ⟨hm,ih.1 (by omega)⟩
     · rintro ⟨_,h2⟩;have:=ih.2 h2;omega
theorem zkI (l:List ByteArray):l.reverse.Nodup ↔ l.Nodup:=by
 unfold List.Nodup
 rw [List.pairwise_reverse]
 constructor <;> exact fun h=>h.imp (fun h=>Ne.symm h)
theorem zkA (l:List ByteArray) (s:ByteArray):(setM l s).isSome=inB l s:=by
 induction l with
 | nil=>rfl
 | cons k r ih=>
   simp only [setM,inB,List.any_cons] at ih ⊢
   by_cases h:s=k
   · subst h;simp
   · have h':¬ k=s:=fun e=>h e.symm
     rw [if_neg h,ih]
     simp [h']
theorem zmF {P:Program} {t kt et:TypeId} {z:Value} (M:SmapT P t kt et z) {w:World} {ops:Array Oper} {rest:List Oper} {o:Oper} {a:Act} {Q:Exit→Act→World→Prop} (hg:o.guard=none) (x y v:Operand) (hop:o.op=Op.mapUpdate t x y v)
 {b:Nat} {l:List ByteArray} {s:ByteArray} (hx:a.eval x=.map (some b)) (hy:a.eval y=.string s) (hv:a.eval v=.bool true) (h:SMap P kt w b (setM l) (count l)) (hs:s.size≤maxLen) (hn:l.length < 1000)
 (hK:∀ w',SMap P kt w' b (setM (s :: l)) (count (s :: l))→w.grownBy w' (some b)→wpList P ops Q rest (a.put o.dst undef) w'):
 wpList P ops Q (o :: rest) a w:=by
 have hc:=zfE l
 refine znM M hg x y v hop hx hy hv h hs (by unfold maxLen;omega) ?_
 intro w' h1 h2
 rw [zkA] at h1
 exact hK w' h1 h2
theorem zjt (l:List Par) (k:Nat) (h:k < l.length):(l.take (k+1)).map Par.name=(l.take k).map Par.name ++ [(at' l k).name]:=by
 rw [List.take_add_one,List.getElem?_eq_getElem h,List.map_append,zax h];rfl
theorem zff (v:Value) (l:List Par) (A:Nat→Prop) (w:World) (hv:ParsAt A w v l):
 Calls Tryz.prog 152 #[v] w fun e w'=>e=.returned (.int .i64 (parsE l))∧Below w.heap.size w w':=by
 obtain ⟨hlen,a,cap,rfl⟩:=hv.form
 unfold maxLen at hlen
 by_cases h8:8 < l.length
 · have d1:decide (8 < (l.length:Int))=true:=by simp;omega
   have HP:=Lib.hid (show parsE l=5 by rw [parsE,if_pos h8])
   go_enter Tryz.func152,Tryz.ntmps152
   go_wp2
   go_ret
   rw [HP.out]
   exact ⟨rfl,Below.refl _ _⟩
 · have d1:decide (8 < (l.length:Int))=false:=by simp;omega
   have hm0:SMap Tryz.prog 9 (w.alloc (.map #[] 0)) w.heap.size (setM ((l.take 0).map Par.name).reverse) (count ((l.take 0).map Par.name).reverse):=SMap.made Tryz.prog 9 w
   have hb0:Below w.heap.size w (w.alloc (.map #[] 0)):=(Below.refl _ _).alloc (Nat.le_refl _) _
   have hmm:=@run_makeMap Tryz.prog
   go_enter Tryz.func152,Tryz.ntmps152
   go_wp2
   clear hmm
   go_loopw [12] (fun i wr=>∃ k:Nat,k≤l.length∧i=.int .i64 k∧(∀ j,j < k→nameB (at' l j).name=true)∧SMap Tryz.prog 9 wr w.heap.size (setM ((l.take k).map Par.name).reverse) (count ((l.take k).map Par.name).reverse)∧Below w.heap.size w wr) (fun i _=>l.length - (intOf i).toNat)
   case atStart=>exact ⟨0,Nat.zero_le _,rfl,fun j hj=>absurd hj (by omega),hm0,hb0⟩
   case round=>
    clear hm0 hb0
    obtain ⟨k,hk,rfl,hno,hm,hbl⟩:=hrel
    have HN:=Lib.hid hno
    clear hno
    have hz:=hbl.size
    by_cases hlt:k < l.length
    · obtain ⟨b,off,cap',he,hb,_,_,c0,c1,hs⟩:=(hv.stays (Stays.of_below hbl)).at hlt
      simp only [Value.slice.injEq] at he
      obtain ⟨rfl,-,rfl⟩:=he
      have hA2:Below wr.heap.size wr (wr.alloc (.cells #[.string (at' l k).name,.bool (at' l k).list] 97)):=(Below.refl _ _).alloc (Nat.le_refl _) _
      go_wp2_with fail
      refine (zdL (at' l k).name _ hs).mono ?_
      rintro e w2 ⟨rfl,hb2⟩
      have hb2':=hA2.trans (hb2.mono (by simp))
      have hB2:Below w.heap.size w w2:=hbl.trans (hb2'.mono hz)
      have hm2:=hm.below hb2'
      have hp0:w2.cell? ⟨wr.heap.size,0,none⟩=some (.string (at' l k).name):=(hb2.cell (p:=⟨wr.heap.size,0,none⟩) (by simp)).trans (by simp)
      have hz2:=hB2.size
      clear hm hA2 hb2 hb2'
      cases hnm:nameB (at' l k).name with
      | false=>
        have HP:=Lib.hid (show parsE l=3 by
         have:l.all (fun p=>nameB p.name)=false:=by rw [List.all_eq_false];exact ⟨_,zaT hlt,by simp [hnm]⟩
         rw [parsE,if_neg h8,this];simp)
        clear hnm
        go_wp2
        go_ret
        rw [HP.out]
        exact ⟨rfl,hB2⟩
      | true=>
        have HM:=Lib.hid hnm
        clear hnm
        go_wp2_with (at_mapUpdate;refine zmF MB rfl (.tmp 20) (.tmp 22) _ rfl rfl rfl rfl hm2 hs (by simp;omega) ?_;intro w3 hm3 hg3;have hB3:=zdZ hB2 hg3 hz2 (Nat.le_refl _))
        go_roundw
        case rel=>exact ⟨k+1,by omega,by go_num,fun j hj=>(by
         by_cases e:j=k
         · rw [e];exact HM.out
         · exact HN.out j (by omega)),by rw [zjt l k hlt,List.reverse_append];exact hm3,hB3⟩
        case measure=>simp [intOf];omega
    · obtain rfl:k=l.length:=by omega
      rw [List.take_length] at hm
      have hlen2:=hm.len MB 3
      have hall:l.all (fun p=>nameB p.name)=true:=by
       rw [List.all_eq_true];intro p hp
       obtain ⟨j,hj,rfl⟩:=List.mem_iff_getElem.1 hp
       have:=HN.out j hj
       rwa [zax hj] at this
      have hcl:=zfE (l.map Par.name).reverse
      have hcn:=zhI (l.map Par.name).reverse
      simp only [List.length_reverse,List.length_map,zkI] at hcl hcn
      by_cases hlt2:count (l.map Par.name).reverse < l.length
      · have HP:=Lib.hid (show parsE l=22 by rw [parsE,if_neg h8,if_pos hall,if_neg (fun h=>by have:=hcn.2 h;omega)])
        have d2:decide (count (l.map Par.name).reverse < l.length)=true:=by simpa using hlt2
        clear hall hcn hlt2
        go_wp2
        go_ret
        rw [HP.out]
        exact ⟨rfl,hbl⟩
      · have HP:=Lib.hid (show parsE l=0 by rw [parsE,if_neg h8,if_pos hall,if_pos (hcn.1 (by omega))])
        have d2:decide (count (l.map Par.name).reverse < l.length)=false:=by simpa using hlt2
        clear hall hcn hlt2
        go_wp2
        go_ret
        rw [HP.out]
        exact ⟨rfl,hbl⟩
end Go.Proofs.YtpobmoegmdhbpaaGreatDoor
/- Walks:reach,result. -/
namespace Go.Proofs.YtpobmoegmdhbpaaGreatDoor
open Go.RowKit
theorem zeS (name:ByteArray):∀ (lib:List Fn) (i:Int),(∃ k,k < lib.length∧findFrom name lib i=i+(k:Nat)∧(at' lib k).name=name)∨findFrom name lib i= -1
 | [],i=>.inr rfl
 | f :: r,i=>by
   by_cases h:f.name=name
   · exact .inl ⟨0,by simp,by rw [findFrom,if_pos h];simp,h⟩
   · rw [findFrom,if_neg h]
     rcases zeS name r (i+1) with ⟨k,h1,h2,h3⟩|h2
     · exact .inl ⟨k+1,by simpa using h1,by rw [h2];omega,h3⟩
     · exact .inr h2
theorem zcI (lib:List Fn) (name:ByteArray):(∃ k:Nat,k < lib.length∧findF lib name=k∧fnAt lib (findF lib name)=at' lib k∧(at' lib k).name=name)∨findF lib name= -1:=by
 rcases zeS name lib 0 with ⟨k,h1,h2,h3⟩|h
 · have e:findF lib name=k:=by rw [findF,h2];omega
   exact .inl ⟨k,h1,e,by rw [e];rfl,h3⟩
 · exact .inr h
def visM (vis:Vis):ByteArray→Option Value:=fun s=>(vis s).map Value.bool
theorem zkp (vis:Vis) (s:ByteArray):(visM vis s).isSome=(vis s).isSome:=by simp [visM]
theorem ziO (vis:Vis) (s:ByteArray):(visM vis s).getD (.bool false)=.bool ((vis s).getD false):=by
 cases h:vis s <;> simp [visM,h]
theorem zgB (lv:Value) (lib:List Fn) (bm N:Nat) (vis:Vis) (v:Value) (n:Nd) (A:Nat→Prop) (w:World) (hl:FnsAt A w lv lib) (hm:SMapLe Tryz.prog 9 w bm (visM vis) N) (hv:NdAt A w v n):
 Calls Tryz.prog 202 #[lv,.map (some bm),v] w fun e w'=>e=.returned (.int .i64 (reachE lib vis n.kind n.name n.kids.length))∧Below w.heap.size w w':=by
 obtain ⟨hok,hlen,ka,kc,rfl,hk⟩:=hv.open
 obtain ⟨hll,la,lc,rfl⟩:=hl.form
 obtain ⟨k,num,name,kids⟩:=n
 obtain ⟨⟨hk0,hk1⟩,hn64,hs⟩:=hok
 simp only [Nd.kind,Nd.num,Nd.name,Nd.kids] at *
 unfold maxLen at hlen hll
 clear hv hk
 generalize kids.length=m at *
 have hA:Below w.heap.size w (w.alloc (.cells #[.int .u8 k,.int .i64 num,.string name,.slice ka m kc] 34)):=(Below.refl _ _).alloc (Nat.le_refl _) _
 have hmA:=hm.below hA
 have hlA:=hl.stays (Stays.of_below hA)
 have hvs:=Lib.hid (zkp vis name)
 have hvg:=Lib.hid (ziO vis name)
 clear hm hl
 by_cases h81:k=81
 · subst h81
   cases hf:(vis name).isSome
   all_goals
    have HF:=Lib.hid hf
    clear hf
    go_enter Tryz.func202,Tryz.ntmps202
    go_wp2_with (refine zbJ MB rfl (.tmp 11) (.tmp 13) true rfl rfl rfl hmA hs (r:=.tuple #[.bool ((vis name).getD false),.bool _]) (by rw [hvs.out,hvg.out,HF.out];rfl) ?_)
    go_ret
    refine ⟨?_,hA⟩
    simp [reachE,HF.out]
 · have d81:(k == 81)=false:=by simpa using h81
   by_cases h84:k=84
   · subst h84
     cases hf:(vis name).isSome
     all_goals
      have HF:=Lib.hid hf
      clear hf
      go_enter Tryz.func202,Tryz.ntmps202
      go_wp2_with (refine zbJ MB rfl (.tmp 11) (.tmp 13) true rfl rfl rfl hmA hs (r:=.tuple #[.bool ((vis name).getD false),.bool _]) (by rw [hvs.out,hvg.out,HF.out];rfl) ?_)
      go_ret
      refine ⟨?_,hA⟩
      simp [reachE,HF.out]
   · have d84:(k == 84)=false:=by simpa using h84
     by_cases h85:k=85
     · subst h85
       rcases zcI lib name with ⟨j,hj,e1,e2,e3⟩|e1
       · have HR:Hid (reachE lib vis 85 name m=if m≠(at' lib j).params.length then 7 else 0):=Lib.hid (by unfold reachE;rw [if_neg (by decide),if_neg (by decide),if_pos rfl,e2,if_neg (by rw [e1];omega)])
         have E1:=Lib.hid e1
         clear e1 e2 e3
         go_enter Tryz.func202,Tryz.ntmps202
         go_wp2_with (refine zbJ MB rfl (.tmp 11) (.tmp 13) true rfl rfl rfl hmA hs (r:=.tuple #[.bool ((vis name).getD false),.bool (vis name).isSome]) (by rw [hvs.out,hvg.out];rfl) ?_)
         refine (zdt _ lib name A _ hlA).mono ?_
         rintro e w2 ⟨rfl,hb2⟩
         rw [E1.out]
         have hB2:Below w.heap.size w w2:=hA.trans (hb2.mono (by simp))
         have hc3:w2.cell? ⟨w.heap.size,3,none⟩=some (.slice ka m kc):=(hb2.cell (p:=⟨w.heap.size,3,none⟩) (by simp)).trans (by simp)
         obtain ⟨b,off,cap',pa,pc,ka',kc',he,hb,_,_,_,c1,_,_,_,_,_,_,hpar,_⟩:=(hlA.stays (Stays.of_below hb2)).at hj
         simp only [Value.slice.injEq] at he
         obtain ⟨rfl,-,rfl⟩:=he
         have hpl:=hpar.form.1
         unfold maxLen at hpl
         have b0:(0:Int)≤(j:Int):=by omega
         have b1:(j:Int) < (lib.length:Int):=by omega
         clear hpar hmA hlA hb2
         by_cases hme:m=(at' lib j).params.length
         · have d0:((m:Int) != ((at' lib j).params.length:Int))=false:=by simp [hme]
           have HR2:Hid (reachE lib vis 85 name m=0):=Lib.hid (HR.out.trans (by simp [hme]))
           clear hme
           go_wp2
           go_quiet (fail)
           go_wp2
           go_ret
           rw [HR2.out]
           exact ⟨rfl,zal hB2 _⟩
         · have d0:((m:Int) != ((at' lib j).params.length:Int))=true:=by simp;omega
           have HR2:Hid (reachE lib vis 85 name m=7):=Lib.hid (HR.out.trans (by simp [hme]))
           clear hme
           go_wp2
           go_quiet (fail)
           go_wp2
           go_ret
           rw [HR2.out]
           exact ⟨rfl,zal hB2 _⟩
       · have HR:Hid (reachE lib vis 85 name m=6):=Lib.hid (by simp [reachE,e1])
         have E1:=Lib.hid e1
         clear e1
         go_enter Tryz.func202,Tryz.ntmps202
         go_wp2_with (refine zbJ MB rfl (.tmp 11) (.tmp 13) true rfl rfl rfl hmA hs (r:=.tuple #[.bool ((vis name).getD false),.bool (vis name).isSome]) (by rw [hvs.out,hvg.out];rfl) ?_)
         refine (zdt _ lib name A _ hlA).mono ?_
         rintro e w2 ⟨rfl,hb2⟩
         rw [E1.out]
         go_wp2
         go_ret
         rw [HR.out]
         exact ⟨rfl,hA.trans (hb2.mono (by simp))⟩
     · have d85:(k == 85)=false:=by simpa using h85
       go_enter Tryz.func202,Tryz.ntmps202
       go_wp2_with (refine zbJ MB rfl (.tmp 11) (.tmp 13) true rfl rfl rfl hmA hs (r:=.tuple #[.bool ((vis name).getD false),.bool (vis name).isSome]) (by rw [hvs.out,hvg.out];rfl) ?_)
       go_ret
       refine ⟨?_,hA⟩
       simp [reachE,h81,h84,h85]
theorem BoolsAt.at {w:World} {v:Value} {l:List Bool} (h:BoolsAt w v l) {j:Nat} (hj:j < l.length):∃ b off cap,v=.slice (some ⟨b,off,none⟩) l.length cap∧b < w.heap.size∧w.cell? ⟨b,off+j,none⟩=some (.bool (at' l j)):=by
 obtain ⟨_,a,cap,rfl,hc⟩:=h
 obtain ⟨b,off,rfl,hb,hc⟩:=hc (by omega)
 exact ⟨b,off,cap,rfl,hb,hc j hj⟩
theorem zlv {w w1:World} {base:Nat} {v v':Value} {l:List Bool} {x:Bool} (h:RowB w base v l) (hl:l.length < 100000) (h1:w1.ownsRow base 4 1 v' (l.length+1) (l.map Value.bool ++ [.bool x])):RowB w1 base v' (l ++ [x]):=
 ⟨by simp;omega,by simpa using h1⟩
theorem zck {wr:World} {ops:Array Oper} {rest:List Oper} {o:Oper} {a:Act} {Q:Exit→Act→World→Prop} (hgd:o.guard=none) (s x:Operand)
 (ho:o.op=.call { callee:=.builtin .append,args:=#[s,x],argTypes:=#[260,260] })
 {base:Nat} {v:Value} {l:List Bool} {y:Bool} {g:Nat} (hs:a.eval s=v) (hx:a.eval x=.slice (some ⟨g,0,none⟩) 1 1) (hg:g=wr.heap.size)
 (hown:RowB wr base v l) (hl:l.length < 100000) (hbase:base≤wr.heap.size)
 (h:∀ v' w1,RowB w1 base v' (l ++ [y])→wr.grownBy w1 v.ownBlock→NewOr wr v v'→wpList Tryz.prog ops Q rest (a.put o.dst v') w1):
 wpList Tryz.prog ops Q (o :: rest) a (wr.alloc (.cells #[.bool y] 4)):=by
 subst hg
 refine zgu TB rfl hgd s x ho hs hx (xs:=l.map Value.bool) (by simpa using hown.2) rfl (by simp;omega) (by simp;unfold maxLen;omega) hbase ?_
 intro v' w1 h1 h2 h3
 exact h v' w1 (zlv hown hl (by simpa using h1)) h2 h3
theorem zjh (l:List Par) (k:Nat) (h:k < l.length):(l.take (k+1)).map Par.list=(l.take k).map Par.list ++ [(at' l k).list]:=by
 rw [List.take_add_one,List.getElem?_eq_getElem h,List.map_append,zax h];rfl
theorem zaP (lib:List Fn) (k:Int) (name:ByteArray) (types:List Bool) {want:List Bool} {list:Bool} (h:wantT lib k name types=(want,list)):
 (decide (types=want)=true→resultT lib k name types=(list,0))∧(decide (types=want)=false→resultT lib k name types=(false,7)):=by
 unfold resultT
 rw [h]
 constructor
 · intro e;rw [if_pos (by simpa using e)]
 · intro e;rw [if_neg (by simpa using e)]
theorem zfN (lv tv:Value) (lib:List Fn) (v:Value) (n:Nd) (types:List Bool) (A:Nat→Prop) (w:World) (ht:BoolsAt w tv types) (hv:NdAt A w v n) (h85:n.kind≠85) (h2:n.kind=83∨n.kind=84→2≤types.length):
 Calls Tryz.prog 203 #[lv,v,tv] w fun e w'=>e=.returned (.tuple #[.bool (resultT lib n.kind n.name types).1,.int .i64 (resultT lib n.kind n.name types).2])∧Below w.heap.size w w':=by
 obtain ⟨hok,hlen,ka,kc,rfl,hk⟩:=hv.open
 obtain ⟨k,num,name,kids⟩:=n
 obtain ⟨⟨hk0,hk1⟩,hn64,hs⟩:=hok
 simp only [Nd.kind,Nd.num,Nd.name,Nd.kids] at *
 clear hv hk
 generalize kids.length=m at *
 have hA:Below w.heap.size w (w.alloc (.cells #[.int .u8 k,.int .i64 num,.string name,.slice ka m kc] 34)):=(Below.refl _ _).alloc (Nat.le_refl _) _
 have d85:(k == 85)=false:=by simpa using h85
 have htA:=ht.below hA
 by_cases h82:k=82
 · subst h82
   have hr:=zaP lib 82 name types (want:=[false,false]) (list:=false) (by simp [wantT])
   have hA2:=hA.alloc (by simp) (.cells ([false,false].map Value.bool).toArray 4)
   have hlit:=zcJ (base:=0) [false,false] (by simp) (Nat.zero_le _) (zaw w (.cells #[.int .u8 82,.int .i64 num,.string name,.slice ka m kc] 34) (.cells ([false,false].map Value.bool).toArray 4))
   cases hd:decide (types=[false,false])
   all_goals
    have HD:=Lib.hid hd
    have HR:=Lib.hid hr
    clear hd hr
    go_enter Tryz.func203,Tryz.ntmps203
    go_wp2_with fail
    refine (zaW tv _ types [false,false] _ (ht.below hA2) hlit.bools).mono ?_
    rintro e w2 ⟨rfl,hb2⟩
    rw [HD.out]
    go_wp2
    go_ret2
    refine ⟨?_,hA2.trans (hb2.mono (by simp;try omega))⟩
    first|(rw [HR.out.1 HD.out];rfl)|(rw [HR.out.2 HD.out];rfl)
 · have d82:(k == 82)=false:=by simpa using h82
   by_cases h83:k=83
   · subst h83
     obtain ⟨bt,ot,ct,rfl,hbt,hct⟩:=htA.at (j:=1) (by have:=h2 (.inl rfl);omega)
     have hlt:(1:Int) < (types.length:Int):=by have:=h2 (.inl rfl);omega
     have hr:=zaP lib 83 name types (want:=[false,at' types 1,at' types 1]) (list:=at' types 1) (by simp [wantT,at'])
     have hA2:=hA.alloc (by simp) (.cells ([false,at' types 1,at' types 1].map Value.bool).toArray 4)
     have hlit:=zcJ (base:=0) [false,at' types 1,at' types 1] (by simp) (Nat.zero_le _) (zaw w (.cells #[.int .u8 83,.int .i64 num,.string name,.slice ka m kc] 34) (.cells ([false,at' types 1,at' types 1].map Value.bool).toArray 4))
     cases hd:decide (types=[false,at' types 1,at' types 1])
     all_goals
      have HD:=Lib.hid hd
      have HR:=Lib.hid hr
      clear hd hr
      go_enter Tryz.func203,Tryz.ntmps203
      go_wp2_with fail
      refine (zaW _ _ types [false,at' types 1,at' types 1] _ (ht.below hA2) hlit.bools).mono ?_
      rintro e w2 ⟨rfl,hb2⟩
      rw [HD.out]
      go_wp2
      go_ret2
      refine ⟨?_,hA2.trans (hb2.mono (by simp;try omega))⟩
      first|(rw [HR.out.1 HD.out];rfl)|(rw [HR.out.2 HD.out];rfl)
   · have d83:(k == 83)=false:=by simpa using h83
     by_cases h84:k=84
     · subst h84
       obtain ⟨bt,ot,ct,rfl,hbt,hct⟩:=htA.at (j:=1) (by have:=h2 (.inr rfl);omega)
       have hlt:(1:Int) < (types.length:Int):=by have:=h2 (.inr rfl);omega
       have hr:=zaP lib 84 name types (want:=types) (list:=at' types 1) (by simp [wantT,at'])
       have hA2:=hA
       clear hr
       go_enter Tryz.func203,Tryz.ntmps203
       go_wp2_with fail
       refine (zaW _ _ types types _ (ht.below hA2) (ht.below hA2)).mono ?_
       rintro e w2 ⟨rfl,hb2⟩
       rw [show decide (types=types)=true from decide_eq_true rfl]
       go_wp2
       go_ret2
       refine ⟨?_,hA2.trans (hb2.mono (by simp))⟩
       rw [(zaP lib 84 name types (want:=types) (list:=at' types 1) (by simp [wantT,at'])).1 (decide_eq_true rfl)];rfl
     · have d84:(k == 84)=false:=by simpa using h84
       by_cases h86:k=86
       · subst h86
         have hr:=zaP lib 86 name types (want:=[]) (list:=true) (by simp [wantT])
         have hA2:=hA
         cases hd:decide (types=[])
         all_goals
          have HD:=Lib.hid hd
          have HR:=Lib.hid hr
          clear hd hr
          go_enter Tryz.func203,Tryz.ntmps203
          go_wp2_with fail
          refine (zaW tv _ types [] _ (ht.below hA2) (RowB.nil _ 0).bools).mono ?_
          rintro e w2 ⟨rfl,hb2⟩
          rw [HD.out]
          go_wp2
          go_ret2
          refine ⟨?_,hA2.trans (hb2.mono (by simp;try omega))⟩
          first|(rw [HR.out.1 HD.out];rfl)|(rw [HR.out.2 HD.out];rfl)
       · have d86:(k == 86)=false:=by simpa using h86
         by_cases h87:k=87
         · subst h87
           have hr:=zaP lib 87 name types (want:=[false,true]) (list:=true) (by simp [wantT])
           have hA2:=hA.alloc (by simp) (.cells ([false,true].map Value.bool).toArray 4)
           have hlit:=zcJ (base:=0) [false,true] (by simp) (Nat.zero_le _) (zaw w (.cells #[.int .u8 87,.int .i64 num,.string name,.slice ka m kc] 34) (.cells ([false,true].map Value.bool).toArray 4))
           cases hd:decide (types=[false,true])
           all_goals
            have HD:=Lib.hid hd
            have HR:=Lib.hid hr
            clear hd hr
            go_enter Tryz.func203,Tryz.ntmps203
            go_wp2_with fail
            refine (zaW tv _ types [false,true] _ (ht.below hA2) hlit.bools).mono ?_
            rintro e w2 ⟨rfl,hb2⟩
            rw [HD.out]
            go_wp2
            go_ret2
            refine ⟨?_,hA2.trans (hb2.mono (by simp;try omega))⟩
            first|(rw [HR.out.1 HD.out];rfl)|(rw [HR.out.2 HD.out];rfl)
         · have d87:(k == 87)=false:=by simpa using h87
           by_cases h88:k=88
           · subst h88
             have hr:=zaP lib 88 name types (want:=[true]) (list:=false) (by simp [wantT])
             have hA2:=hA.alloc (by simp) (.cells ([true].map Value.bool).toArray 4)
             have hlit:=zcJ (base:=0) [true] (by simp) (Nat.zero_le _) (zaw w (.cells #[.int .u8 88,.int .i64 num,.string name,.slice ka m kc] 34) (.cells ([true].map Value.bool).toArray 4))
             cases hd:decide (types=[true])
             all_goals
              have HD:=Lib.hid hd
              have HR:=Lib.hid hr
              clear hd hr
              go_enter Tryz.func203,Tryz.ntmps203
              go_wp2_with fail
              refine (zaW tv _ types [true] _ (ht.below hA2) hlit.bools).mono ?_
              rintro e w2 ⟨rfl,hb2⟩
              rw [HD.out]
              go_wp2
              go_ret2
              refine ⟨?_,hA2.trans (hb2.mono (by simp;try omega))⟩
              first|(rw [HR.out.1 HD.out];rfl)|(rw [HR.out.2 HD.out];rfl)
           · have d88:(k == 88)=false:=by simpa using h88
             by_cases h90:k=90
             · subst h90
               have hr:=zaP lib 90 name types (want:=[true]) (list:=false) (by simp [wantT])
               have hA2:=hA.alloc (by simp) (.cells ([true].map Value.bool).toArray 4)
               have hlit:=zcJ (base:=0) [true] (by simp) (Nat.zero_le _) (zaw w (.cells #[.int .u8 90,.int .i64 num,.string name,.slice ka m kc] 34) (.cells ([true].map Value.bool).toArray 4))
               cases hd:decide (types=[true])
               all_goals
                have HD:=Lib.hid hd
                have HR:=Lib.hid hr
                clear hd hr
                go_enter Tryz.func203,Tryz.ntmps203
                go_wp2_with fail
                refine (zaW tv _ types [true] _ (ht.below hA2) hlit.bools).mono ?_
                rintro e w2 ⟨rfl,hb2⟩
                rw [HD.out]
                go_wp2
                go_ret2
                refine ⟨?_,hA2.trans (hb2.mono (by simp;try omega))⟩
                first|(rw [HR.out.1 HD.out];rfl)|(rw [HR.out.2 HD.out];rfl)
             · have d90:(k == 90)=false:=by simpa using h90
               by_cases h89:k=89
               · subst h89
                 have hr:=zaP lib 89 name types (want:=[true]) (list:=true) (by simp [wantT])
                 have hA2:=hA.alloc (by simp) (.cells ([true].map Value.bool).toArray 4)
                 have hlit:=zcJ (base:=0) [true] (by simp) (Nat.zero_le _) (zaw w (.cells #[.int .u8 89,.int .i64 num,.string name,.slice ka m kc] 34) (.cells ([true].map Value.bool).toArray 4))
                 cases hd:decide (types=[true])
                 all_goals
                  have HD:=Lib.hid hd
                  have HR:=Lib.hid hr
                  clear hd hr
                  go_enter Tryz.func203,Tryz.ntmps203
                  go_wp2_with fail
                  refine (zaW tv _ types [true] _ (ht.below hA2) hlit.bools).mono ?_
                  rintro e w2 ⟨rfl,hb2⟩
                  rw [HD.out]
                  go_wp2
                  go_ret2
                  refine ⟨?_,hA2.trans (hb2.mono (by simp;try omega))⟩
                  first|(rw [HR.out.1 HD.out];rfl)|(rw [HR.out.2 HD.out];rfl)
               · have d89:(k == 89)=false:=by simpa using h89
                 have hr:=zaP lib k name types (want:=[]) (list:=false) (by simp [wantT,h82,h83,h84,h85,h86,h87,h88,h89,h90])
                 have hA2:=hA
                 cases hd:decide (types=[])
                 all_goals
                  have HD:=Lib.hid hd
                  have HR:=Lib.hid hr
                  clear hd hr
                  go_enter Tryz.func203,Tryz.ntmps203
                  go_wp2_with fail
                  refine (zaW tv _ types [] _ (ht.below hA2) (RowB.nil _ 0).bools).mono ?_
                  rintro e w2 ⟨rfl,hb2⟩
                  rw [HD.out]
                  go_wp2
                  go_ret2
                  refine ⟨?_,hA2.trans (hb2.mono (by simp;try omega))⟩
                  first|(rw [HR.out.1 HD.out];rfl)|(rw [HR.out.2 HD.out];rfl)
end Go.Proofs.YtpobmoegmdhbpaaGreatDoor
/- Walk:result of a call. -/
namespace Go.Proofs.YtpobmoegmdhbpaaGreatDoor
open Go.RowKit
def listsTo (l:List Par) (q:Nat):List Bool:=(l.take q).map Par.list
theorem zcX {l:List Par} {q:Nat} (h:q≤l.length):(listsTo l q).length=q:=by simp [listsTo];omega
theorem zgA {l:List Par} {q:Nat} (h:q < l.length):listsTo l (q+1)=listsTo l q ++ [(at' l q).list]:=zjh l q h
theorem zhF (l:List Par):listsTo l l.length=l.map Par.list:=by rw [listsTo,List.take_length]
theorem RowB.formLen {w:World} {base q:Nat} {v:Value} {l:List Bool} (h:RowB w base v l) (hl:l.length=q):∃ a c,v=.slice a q c:=by
 obtain ⟨a,c,h⟩:=h.bools.form
 exact ⟨a,c,by rw [h,hl]⟩
theorem zhE (lv tv:Value) (lib:List Fn) (v:Value) (n:Nd) (types:List Bool) (A:Nat→Prop) (w:World) (hl:FnsAt A w lv lib) (ht:BoolsAt w tv types) (hv:NdAt A w v n) (h85:n.kind=85) (hf:0≤findF lib n.name) (hp:(fnAt lib (findF lib n.name)).params.length≤50000):
 Calls Tryz.prog 203 #[lv,v,tv] w fun e w'=>e=.returned (.tuple #[.bool (resultT lib n.kind n.name types).1,.int .i64 (resultT lib n.kind n.name types).2])∧Below w.heap.size w w':=by
 obtain ⟨hok,hlen,ka,kc,rfl,hk⟩:=hv.open
 obtain ⟨hll,la,lc,rfl⟩:=hl.form
 obtain ⟨k,num,name,kids⟩:=n
 obtain ⟨⟨hk0,hk1⟩,hn64,hs⟩:=hok
 simp only [Nd.kind,Nd.num,Nd.name,Nd.kids] at *
 clear hv hk
 generalize kids.length=m at *
 subst h85
 unfold maxLen at hll
 rcases zcI lib name with ⟨j,hj,e1,e2,e3⟩|e1
 · rw [e2] at hp
   have hr:=Lib.hid (zaP lib 85 name types (want:=(at' lib j).params.map Par.list) (list:=(at' lib j).list) (by simp [wantT,e2]))
   have E1:=Lib.hid e1
   clear e1 e2 e3 hf
   have hA:Below w.heap.size w (w.alloc (.cells #[.int .u8 85,.int .i64 num,.string name,.slice ka m kc] 34)):=(Below.refl _ _).alloc (Nat.le_refl _) _
   have hlA:=hl.stays (Stays.of_below hA)
   go_enter Tryz.func203,Tryz.ntmps203
   go_wp2_with fail
   refine (zdt _ lib name A _ hlA).mono ?_
   rintro e w2 ⟨rfl,hb2⟩
   rw [E1.out]
   have hB2:Below w.heap.size w w2:=hA.trans (hb2.mono (by simp))
   have hz2:=hB2.size
   obtain ⟨b,off,cap',pa,pc,ka',kc',he,hb,_,_,c0,c1,c2,c3,c4,c5,c6,hsn,hpar,hnd⟩:=(hlA.stays (Stays.of_below hb2)).at hj
   simp only [Value.slice.injEq] at he
   obtain ⟨rfl,-,rfl⟩:=he
   have b0:(0:Int)≤(j:Int):=by omega
   have b1:(j:Int) < (lib.length:Int):=by omega
   clear hnd hb2 hlA hA hl
   go_wp2
   go_loopw [44,8] (fun i wv wr=>∃ q:Nat,i=.int .i64 q∧q≤(at' lib j).params.length∧RowB wr w2.heap.size wv (listsTo (at' lib j).params q)∧w2.heap.size < wr.heap.size∧wr.cell? ⟨w2.heap.size,2,none⟩=some (.bool (at' lib j).list)∧Below w2.heap.size w2 wr∧∀ k,wv.ownBlock=some k→k≠w2.heap.size) (fun i _ _=>(at' lib j).params.length - (intOf i).toNat)
   case atStart=>exact ⟨0,rfl,Nat.zero_le _,RowB.nil _ _,by simp,by simp,(Below.refl _ _).alloc (Nat.le_refl _) _,fun k hk=>by simp [Value.ownBlock] at hk⟩
   case round=>
    rename_i wv
    obtain ⟨q,rfl,hq,hrow,hzr,hc2,hbl,hne⟩:=hrel
    have HR:=Lib.hid hrow
    have HNE:=Lib.hid hne
    obtain ⟨wa,wc,rfl⟩:=hrow.formLen (zcX hq)
    clear hrow hne
    by_cases hlt:q < (at' lib j).params.length
    · obtain ⟨bp,op,cp,he,hbp,_,_,p0,p1,hps⟩:=(hpar.stays (Stays.of_below hbl)).at hlt
      simp only [Value.slice.injEq] at he
      obtain ⟨rfl,-,rfl⟩:=he
      have HT:=Lib.hid (zgA hlt)
      have hA4:Below wr.heap.size wr (wr.alloc (.cells #[.string (at' (at' lib j).params q).name,.bool (at' (at' lib j).params q).list] 97)):=(Below.refl _ _).alloc (Nat.le_refl _) _
      have hrow4:RowB (wr.alloc (.cells #[.string (at' (at' lib j).params q).name,.bool (at' (at' lib j).params q).list] 97)) w2.heap.size _ _:=⟨HR.out.1,zaM HR.out.2 hA4⟩
      have hl4:(listsTo (at' lib j).params q).length < 100000:=by rw [zcX hq];omega
      go_wp2_with (at_builtin;refine zck rfl (.tmp 48) (.tmp 51) rfl rfl rfl (by simp) hrow4 hl4 (by simp;omega) ?_)
      intro v5 w5 h5 hg5 hn5
      have hz5:=hg5.size
      simp at hz5
      have hB5:Below w2.heap.size w2 w5:=(hbl.trans (hA4.mono (by omega))).grown hg5 (by simp;omega) (fun k hk=>(HR.out.2.lt k hk).1)
      have hc5:w5.cell? ⟨w2.heap.size,2,none⟩=some (.bool (at' lib j).list):=hg5.cell ((hA4.cell (p:=⟨w2.heap.size,2,none⟩) hzr).trans hc2) (fun e=>HNE.out _ e.symm rfl)
      have hne5:∀ k,v5.ownBlock=some k→k≠w2.heap.size:=fun k hk=>by
       rcases hn5 k hk with h|h
       · exact HNE.out k h
       · simp at h;omega
      obtain ⟨a5,c5',rfl⟩:=h5.formLen (q:=q+1) (by rw [List.length_append,zcX hq];rfl)
      have H5:=Lib.hid h5
      clear h5 hg5 hn5 hrow4 hA4
      go_wp2
      go_roundw
      case rel=>exact ⟨q+1,by go_num,by omega,by rw [HT.out];exact H5.out,by omega,hc5,hB5,hne5⟩
      case measure=>simp [intOf];omega
    · obtain rfl:q=(at' lib j).params.length:=by omega
      have HR:=Lib.hid (show RowB wr w2.heap.size _ ((at' lib j).params.map Par.list) by rw [← zhF];exact HR.out)
      have ht2:BoolsAt wr tv types:=(ht.below hB2).below hbl
      cases hd:decide (types=(at' lib j).params.map Par.list)
      all_goals
       have HD:=Lib.hid hd
       clear hd
       go_wp2_with fail
       refine (zaW tv _ types ((at' lib j).params.map Par.list) _ ht2 HR.out.bools).mono ?_
       rintro e w6 ⟨rfl,hb6⟩
       rw [HD.out]
       go_wp2
       go_ret2
       refine ⟨?_,(hB2.trans (hbl.mono hz2)).trans (hb6.mono (by omega))⟩
       first|(rw [hr.out.1 HD.out];rfl)|(rw [hr.out.2 HD.out];rfl)
 · omega
end Go.Proofs.YtpobmoegmdhbpaaGreatDoor
