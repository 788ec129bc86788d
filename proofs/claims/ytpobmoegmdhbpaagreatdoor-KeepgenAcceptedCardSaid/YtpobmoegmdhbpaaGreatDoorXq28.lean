/- Contracts and plain lemmas (Zq19, Zq20, Zq21, Zq22, Zq23, Zq24, Zq25, Zq28): no statement of the seat is proved here. -/
import Derived.Test.YtpobmoegmdhbpaaGreatDoorXq13
import Derived.Test.YtpobmoegmdhbpaaGreatDoorXq07
import Derived.Test.YtpobmoegmdhbpaaGreatDoorXq18
import Derived.Test.YtpobmoegmdhbpaaGreatDoorXq27
import Derived.Test.YtpobmoegmdhbpaaGreatDoorXq14
/- Walks of package backstepref40:node,v,num,plus. -/
set_option linter.unusedSimpArgs false
set_option linter.unusedVariables false
set_option linter.unusedSectionVars false
namespace Go.Proofs.YtpobmoegmdhbpaaGreatDoor
open Go.RowKit
theorem zoa {w:World} {g o b:Nat} {y:Obj} {x:Value} (h:w.heap[b]?=some y) (hne:b≠g):(w.setCell ⟨g,o,none⟩ x).heap[b]?=some y:=by
 have hb:b < w.heap.size:=by rw [Array.getElem?_eq_some_iff] at h;exact h.1
 rw [(zaf w g o x).block b hb hne];exact h
end Go.Proofs.YtpobmoegmdhbpaaGreatDoor
/- Walks of package backstepref40:call;v,plus and node with data from a block on. -/
namespace Go.Proofs.YtpobmoegmdhbpaaGreatDoor
open Go.RowKit
end Go.Proofs.YtpobmoegmdhbpaaGreatDoor
/- Words for the walks of backstepref40.one. -/
namespace Go.Proofs.YtpobmoegmdhbpaaGreatDoor
open Go.RowKit
end Go.Proofs.YtpobmoegmdhbpaaGreatDoor
/- Walks of backstepref40.one. -/
namespace Go.Proofs.YtpobmoegmdhbpaaGreatDoor
open Go.RowKit
end Go.Proofs.YtpobmoegmdhbpaaGreatDoor
/- Walks of backstepref40.one. -/
namespace Go.Proofs.YtpobmoegmdhbpaaGreatDoor
open Go.RowKit
end Go.Proofs.YtpobmoegmdhbpaaGreatDoor
/- backstepref40.one at a call. -/
namespace Go.Proofs.YtpobmoegmdhbpaaGreatDoor
open Go.RowKit
structure Tg where
 name:ByteArray
 proc:ByteArray
 extra:List ByteArray
instance:Inhabited Tg:=⟨⟨ByteArray.empty,ByteArray.empty,[]⟩⟩
theorem cells3 {w:World} {b e:Nat} {v0 v1 v2:Value} (h:w.heap[b]?=some (.cells #[v0,v1,v2] e (0,0))):w.cell? ⟨b,0,none⟩=some v0∧w.cell? ⟨b,1,none⟩=some v1∧w.cell? ⟨b,2,none⟩=some v2:=
 ⟨zae h 0 rfl,zae h 1 rfl,zae h 2 rfl⟩
end Go.Proofs.YtpobmoegmdhbpaaGreatDoor
/- backstepref40.one at a call. -/
namespace Go.Proofs.YtpobmoegmdhbpaaGreatDoor
open Go.RowKit
end Go.Proofs.YtpobmoegmdhbpaaGreatDoor
/- Walks of backstepref40.one. -/
namespace Go.Proofs.YtpobmoegmdhbpaaGreatDoor
open Go.RowKit
end Go.Proofs.YtpobmoegmdhbpaaGreatDoor
/- Walks of backstepref40.one. -/
namespace Go.Proofs.YtpobmoegmdhbpaaGreatDoor
open Go.RowKit
end Go.Proofs.YtpobmoegmdhbpaaGreatDoor
/- Walks of package backstepref40:Block. -/
namespace Go.Proofs.YtpobmoegmdhbpaaGreatDoor
open Go.RowKit
end Go.Proofs.YtpobmoegmdhbpaaGreatDoor
/- backstepref40.one and Block as a whole. -/
namespace Go.Proofs.YtpobmoegmdhbpaaGreatDoor
open Go.RowKit
end Go.Proofs.YtpobmoegmdhbpaaGreatDoor
/- Walks of package backsteplaw40:binds. -/
namespace Go.Proofs.YtpobmoegmdhbpaaGreatDoor
open Go.RowKit
end Go.Proofs.YtpobmoegmdhbpaaGreatDoor
/- Walks of package backsteplaw40:normal. -/
namespace Go.Proofs.YtpobmoegmdhbpaaGreatDoor
open Go.RowKit
end Go.Proofs.YtpobmoegmdhbpaaGreatDoor
/- Walks of package backsteplaw40:awake. -/
namespace Go.Proofs.YtpobmoegmdhbpaaGreatDoor
open Go.RowKit
def exBody:Nd:=.mk 82 10 ⟨#[]⟩ [.mk 81 0 ⟨#[120]⟩ [],.mk 81 0 ⟨#[120]⟩ []]
def exLib:List Fn:=[⟨⟨#[102]⟩,[⟨⟨#[120]⟩,false⟩],false,exBody⟩]
def exFn:AFn:=⟨⟨#[102]⟩,[⟨⟨#[120]⟩,false⟩],false,[⟨tname 0,false⟩],[.mk (tname 0) false 82 10 ByteArray.empty [⟨#[120]⟩,⟨#[120]⟩] [] []],tname 0⟩
theorem ziv:(validE exLib).2=0:=by decide +kernel
theorem zof:normL exLib=[exFn]:=rfl
def exInner:Nd:=blockN [plusN (tname 0) (nodeN 10 ByteArray.empty [vN ⟨#[120]⟩,vN ⟨#[120]⟩]),nodeN 42 ByteArray.empty [vN outS,vN (tname 0)],.mk 41 0 ByteArray.empty [vN (tname 0),nodeN 10 ByteArray.empty [vN ⟨#[120]⟩,vN ⟨#[120]⟩]]]
theorem zkB:procB exFn=blockN [nodeN 54 (tname 0) [numN 0,exInner,numN 0]]:=rfl
theorem zmQ:¬ 80 < depthN (procB exFn):=by rw [zkB];decide +kernel
theorem zkE:sizeN (procB exFn)≤2000:=by rw [zkB];decide +kernel
theorem zhK:paramsN exFn=[dclN ⟨#[120]⟩ false,dclN outS false]:=rfl
end Go.Proofs.YtpobmoegmdhbpaaGreatDoor
/- The example in the heap;an element of a row of normalized functions. -/
namespace Go.Proofs.YtpobmoegmdhbpaaGreatDoor
open Go.RowKit
theorem zna {A:Nat→Prop} {w:World} {v:Value} {l:List AFn} (h:AFnsAt A w v l) {j:Nat} (hj:j < l.length):
 ∃ b off cap pa pc ta tc ba bc,v=.slice (some ⟨b,off,none⟩) l.length cap∧b < w.heap.size∧l.length≤cap∧w.cell? ⟨b,off+j * 6,none⟩=some (.string (at' l j).name)∧w.cell? ⟨b,off+j * 6+1,none⟩=some (.slice pa (at' l j).params.length pc)∧w.cell? ⟨b,off+j * 6+2,none⟩=some (.bool (at' l j).list)∧
   w.cell? ⟨b,off+j * 6+3,none⟩=some (.slice ta (at' l j).temps.length tc)∧w.cell? ⟨b,off+j * 6+4,none⟩=some (.slice ba (at' l j).body.length bc)∧w.cell? ⟨b,off+j * 6+5,none⟩=some (.string (at' l j).result)∧
   ParsAt A w (.slice pa (at' l j).params.length pc) (at' l j).params∧ParsAt A w (.slice ta (at' l j).temps.length tc) (at' l j).temps∧BdsAt A w (.slice ba (at' l j).body.length bc) (at' l j).body∧(at' l j).name.size≤maxLen∧(at' l j).result.size≤maxLen:=by
 obtain ⟨cs,h,hf⟩:=h
 obtain ⟨b,off,cap,rfl,h1,h2,h3,h4⟩:=h.at hj
 have e:=hf j hj
 obtain ⟨_,pa,pc,f1⟩:=e.c1.form
 obtain ⟨_,ta,tc,f3⟩:=e.c3.form
 obtain ⟨_,ba,bc,f4⟩:=e.c4.form
 have g1:=h4 1 (by omega)
 have g3:=h4 3 (by omega)
 have g4:=h4 4 (by omega)
 have e1:=e.c1
 have e3:=e.c3
 have e4:=e.c4
 rw [f1] at g1 e1
 rw [f3] at g3 e3
 rw [f4] at g4 e4
 exact ⟨b,off,cap,pa,pc,ta,tc,ba,bc,rfl,h1,h2,by rw [← e.c0];exact h4 0 (by omega),g1,by rw [← e.c2];exact h4 2 (by omega),g3,g4,by rw [← e.c5];exact h4 5 (by omega),e1,e3,e4,e.s0,e.s5⟩
theorem zon {w:World} {g1 g2 g3:Nat} (h1:w.heap[g1]?=some (.cells #[.string ⟨#[120]⟩,.bool false] 97 (0,0))) (h2:w.heap[g2]?=some (.cells #[.int .u8 81,.int .i64 0,.string ⟨#[120]⟩,.slice none 0 0,.int .u8 81,.int .i64 0,.string ⟨#[120]⟩,.slice none 0 0] 34 (0,0)))
 (h3:w.heap[g3]?=some (.cells #[.string ⟨#[102]⟩,.slice (some ⟨g1,0,none⟩) 1 1,.bool false,.int .u8 82,.int .i64 10,.string ⟨#[]⟩,.slice (some ⟨g2,0,none⟩) 2 2] 94 (0,0))):FnsAt Any w (.slice (some ⟨g3,0,none⟩) 1 1) exLib:=by
 have l1:g1 < w.heap.size:=by rw [Array.getElem?_eq_some_iff] at h1;exact h1.1
 have l3:g3 < w.heap.size:=by rw [Array.getElem?_eq_some_iff] at h3;exact h3.1
 have hp:ParsAt Any w (.slice (some ⟨g1,0,none⟩) 1 1) [⟨⟨#[120]⟩,false⟩]:=by
  refine ⟨fun j i=>if i=0 then .string ⟨#[120]⟩ else .bool false,⟨by unfold maxLen;simp,_,_,rfl,Nat.le_refl _,nofun,fun _=>⟨g1,0,rfl,l1,trivial,fun j hj i hi=>?_⟩⟩,fun j hj=>?_⟩
  · obtain rfl:j=0:=by simp at hj;exact hj
    match i,hi with
    | 0,_=>exact zae h1 0 rfl
    | 1,_=>exact zae h1 1 rfl
  · obtain rfl:j=0:=by simp at hj;exact hj
    exact ⟨rfl,rfl,by unfold maxLen;decide⟩
 have hv:NdAt Any w (.agg #[.int .u8 81,.int .i64 0,.string ⟨#[120]⟩,.slice none 0 0]) (.mk 81 0 ⟨#[120]⟩ []):=⟨⟨⟨by decide,by decide⟩,by unfold In64;exact ⟨by decide,by decide⟩,by unfold maxLen;decide⟩,_,rfl,KidsAt.nil _⟩
 have hk:KidsAt Any w (.slice (some ⟨g2,0,none⟩) 2 2) exBody.kids:=zdg h2 trivial hv hv
 refine ⟨fun j i=>#[Value.string ⟨#[102]⟩,.slice (some ⟨g1,0,none⟩) 1 1,.bool false,.int .u8 82,.int .i64 10,.string ⟨#[]⟩,.slice (some ⟨g2,0,none⟩) 2 2].getD i undef,⟨by unfold maxLen;decide,_,_,rfl,Nat.le_refl _,nofun,fun _=>⟨g3,0,rfl,l3,trivial,fun j hj i hi=>?_⟩⟩,fun j hj=>?_⟩
 · obtain rfl:j=0:=by simpa [exLib] using hj
   match i,hi with
   | 0,_=>exact zae h3 0 rfl
   | 1,_=>exact zae h3 1 rfl
   | 2,_=>exact zae h3 2 rfl
   | 3,_=>exact zae h3 3 rfl
   | 4,_=>exact zae h3 4 rfl
   | 5,_=>exact zae h3 5 rfl
   | 6,_=>exact zae h3 6 rfl
 · obtain rfl:j=0:=by simpa [exLib] using hj
   exact ⟨rfl,by show (⟨#[102]⟩:ByteArray).size≤maxLen;unfold maxLen;decide,hp,rfl,rfl,rfl,rfl,⟨⟨by decide,by decide⟩,by unfold In64;exact ⟨by decide,by decide⟩,by show (⟨#[]⟩:ByteArray).size≤maxLen;unfold maxLen;decide⟩,hk⟩
end Go.Proofs.YtpobmoegmdhbpaaGreatDoor
/- Walks of package backsteplaw40:awake. -/
namespace Go.Proofs.YtpobmoegmdhbpaaGreatDoor
open Go.RowKit
theorem zoj:GoodBs exLib exFn.body:=(zbg ziv (i:=0) (by decide)).1.body
end Go.Proofs.YtpobmoegmdhbpaaGreatDoor
/- Walks of package backsteplaw40:the function value of CleangenCompute. -/
namespace Go.Proofs.YtpobmoegmdhbpaaGreatDoor
open Go.RowKit
end Go.Proofs.YtpobmoegmdhbpaaGreatDoor
/- CleangenCompute:the targets;Compute without a function. -/
namespace Go.Proofs.YtpobmoegmdhbpaaGreatDoor
open Go.RowKit
theorem zeD {lib:List Fn} (h:(validE lib).2=0):∀ i j,i < j→j < lib.length→(at' lib i).name≠(at' lib j).name:=by
 intro i j hij hj e
 have hv:=(zaR h hj).first
 apply hv
 have:∀ (l:List Fn) (b:Int) (i:Nat),i < l.length→(at' l i).name=(at' lib j).name→findFrom (at' lib j).name l b≤b+i:=by
  intro l
  induction l with
  | nil=>intro b i hi;simp at hi
  | cons f r ih=>
    intro b i hi he
    rw [findFrom]
    split
    · omega
    · cases i with
      | zero=>rename_i hne;exact absurd he hne
      | succ i=>have:=ih (b+1) i (by simpa using hi) he;push_cast;omega
 have h2:=this lib 0 i (by omega) e
 unfold findF
 omega
end Go.Proofs.YtpobmoegmdhbpaaGreatDoor
