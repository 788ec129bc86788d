/- Contracts and plain lemmas (KidsL, PAwk, CmD, CmE, CmF): no statement of the seat is proved here. -/
import Derived.Test.YtjhimhlebbamoaaDoorZq09
import Derived.Test.YtjhimhlebbamoaaDoorZq13
import Derived.Test.YtjhimhlebbamoaaDoorZq19
/- Literal rows of trees. -/
set_option linter.unusedSimpArgs false
set_option linter.unusedVariables false
set_option linter.unusedSectionVars false
set_option maxRecDepth 100000
set_option maxHeartbeats 3200000
namespace Go.Proofs.YtjhimhlebbamoaaDoor
open Go.RowKit
theorem nd_cells {A:Nat→Prop} {w:World} {a b c d:Value} {n:Nd} (h:NdAt A w (.agg #[a,b,c,d]) n):a=.int .u8 n.kind∧b=.int .i64 n.num∧c=.string n.name∧KidsAt A w d n.kids∧n.Ok1:=by
 obtain ⟨h1,kv,he,h2⟩:=h
 simp only [Value.agg.injEq,Array.mk.injEq,List.cons.injEq,and_true] at he
 obtain ⟨rfl,rfl,rfl,rfl⟩:=he
 exact ⟨rfl,rfl,rfl,h2,h1⟩
theorem kids_lit {A:Nat→Prop} {w:World} {g:Nat} {cs:Array Value} {l:List Nd} (h:w.heap[g]?=some (.cells cs 66 (0,0))) (hA:A g) (hl:l.length≤1000)
 (hc:∀ j,j < l.length→∃ d,cs[j * 4]?=some (.int .u8 (at' l j).kind)∧cs[j * 4+1]?=some (.int .i64 (at' l j).num)∧cs[j * 4+2]?=some (.string (at' l j).name)∧cs[j * 4+3]?=some d∧KidsAt A w d (at' l j).kids∧(at' l j).Ok1):
 KidsAt A w (.slice (some ⟨g,0,none⟩) l.length l.length) l:=by
 refine .mk _ l (fun j i=>cs.getD (j * 4+i) undef) ⟨by unfold maxLen;omega,_,_,rfl,Nat.le_refl _,nofun,fun _=>⟨g,0,rfl,by rw [Array.getElem?_eq_some_iff] at h;exact h.1,hA,fun j hj i hi=>?_⟩⟩ (fun j hj=>?_) (fun j hj=>?_)
 · obtain ⟨d,h0,h1,h2,h3,_⟩:=hc j hj
   have e:(0:Nat)+j * 4+i=j * 4+i:=by omega
   rw [e]
   simp only [World.cell?,h]
   match i,hi with
   | 0,_=>simp only [Nat.add_zero,h0];simp [Array.getD_eq_getD_getElem?,h0]
   | 1,_=>simp only [h1];simp [Array.getD_eq_getD_getElem?,h1]
   | 2,_=>simp only [h2];simp [Array.getD_eq_getD_getElem?,h2]
   | 3,_=>simp only [h3];simp [Array.getD_eq_getD_getElem?,h3]
 · obtain ⟨d,h0,h1,h2,h3,_,h5⟩:=hc j hj
   exact ⟨by simp [Array.getD_eq_getD_getElem?,h0],by simp [Array.getD_eq_getD_getElem?,h1],by simp [Array.getD_eq_getD_getElem?,h2],h5⟩
 · obtain ⟨d,h0,h1,h2,h3,h4,_⟩:=hc j hj
   have:cs.getD (j * 4+3) undef=d:=by simp [Array.getD_eq_getD_getElem?,h3]
   rw [this];exact h4
theorem kids_1 {A:Nat→Prop} {w:World} {g:Nat} {a b c d:Value} {n:Nd} (h:w.heap[g]?=some (.cells #[a,b,c,d] 66 (0,0))) (hA:A g) (h1:NdAt A w (.agg #[a,b,c,d]) n):KidsAt A w (.slice (some ⟨g,0,none⟩) 1 1) [n]:=by
 obtain ⟨rfl,rfl,rfl,k1,o1⟩:=nd_cells h1
 refine kids_lit (l:=[n]) h hA (by simp) (fun j hj=>?_)
 match j,hj with
 | 0,_=>exact ⟨d,rfl,rfl,rfl,rfl,k1,o1⟩
theorem kids_2 {A:Nat→Prop} {w:World} {g:Nat} {a b c d a' b' c' d':Value} {n n':Nd} (h:w.heap[g]?=some (.cells #[a,b,c,d,a',b',c',d'] 66 (0,0))) (hA:A g) (h1:NdAt A w (.agg #[a,b,c,d]) n) (h2:NdAt A w (.agg #[a',b',c',d']) n'):KidsAt A w (.slice (some ⟨g,0,none⟩) 2 2) [n,n']:=by
 obtain ⟨rfl,rfl,rfl,k1,o1⟩:=nd_cells h1
 obtain ⟨rfl,rfl,rfl,k2,o2⟩:=nd_cells h2
 refine kids_lit (l:=[n,n']) h hA (by simp) (fun j hj=>?_)
 match j,hj with
 | 0,_=>exact ⟨d,rfl,rfl,rfl,rfl,k1,o1⟩
 | 1,_=>exact ⟨d',rfl,rfl,rfl,rfl,k2,o2⟩
theorem kids_3 {A:Nat→Prop} {w:World} {g:Nat} {a b c d a' b' c' d' a2 b2 c2 d2:Value} {n n' n2:Nd} (h:w.heap[g]?=some (.cells #[a,b,c,d,a',b',c',d',a2,b2,c2,d2] 66 (0,0))) (hA:A g) (h1:NdAt A w (.agg #[a,b,c,d]) n) (h2:NdAt A w (.agg #[a',b',c',d']) n') (h3:NdAt A w (.agg #[a2,b2,c2,d2]) n2):KidsAt A w (.slice (some ⟨g,0,none⟩) 3 3) [n,n',n2]:=by
 obtain ⟨rfl,rfl,rfl,k1,o1⟩:=nd_cells h1
 obtain ⟨rfl,rfl,rfl,k2,o2⟩:=nd_cells h2
 obtain ⟨rfl,rfl,rfl,k3,o3⟩:=nd_cells h3
 refine kids_lit (l:=[n,n',n2]) h hA (by simp) (fun j hj=>?_)
 match j,hj with
 | 0,_=>exact ⟨d,rfl,rfl,rfl,rfl,k1,o1⟩
 | 1,_=>exact ⟨d',rfl,rfl,rfl,rfl,k2,o2⟩
 | 2,_=>exact ⟨d2,rfl,rfl,rfl,rfl,k3,o3⟩
end Go.Proofs.YtjhimhlebbamoaaDoor
/- The example of layer 43's chapter,in plain Lean. -/
namespace Go.Proofs.YtjhimhlebbamoaaDoor
def lenS:ByteArray:=⟨#[108,101,110]⟩
def xsN:Nd:=.mk 81 0 ⟨#[120,115]⟩ []
def exLen:List Fn:=[⟨lenS,[⟨⟨#[120,115]⟩,true⟩],false,.mk 83 0 ⟨#[]⟩ [.mk 90 0 ⟨#[]⟩ [xsN],.mk 80 0 ⟨#[]⟩ [],.mk 82 8 ⟨#[]⟩ [.mk 80 1 ⟨#[]⟩ [],.mk 85 0 lenS [.mk 89 0 ⟨#[]⟩ [xsN]]]]⟩]
def exArg:List Vl:=[⟨true,0,[7,8]⟩]
theorem exL_size:∀ j,j < exLen.length→sizeN (at' exLen j).body≤200:=fun j hj=>by
 obtain rfl:j=0:=by simpa [exLen] using hj
 decide +kernel
theorem exA_len:∀ a ∈ exArg,VLen a:=fun a h=>by
 have:a=⟨true,0,[7,8]⟩:=by simpa [exArg] using h
 subst this
 unfold VLen;decide
theorem exL_one:predN exLen lenS [] exArg 100=⟨0,⟨[7],[0]⟩,0⟩:=by kernel_rfl
theorem exL_two:predN exLen lenS [lenS] exArg 100=⟨0,⟨[1],[4]⟩,14⟩:=by kernel_rfl
end Go.Proofs.YtjhimhlebbamoaaDoor
/- Walks of package backsteplaw43:length. -/
namespace Go.Proofs.YtjhimhlebbamoaaDoor
open Go.RowKit
theorem nd_lit {A:Nat→Prop} {w:World} {k i:Int} {s:ByteArray} {v:Value} {l:List Nd} (h:KidsAt A w v l) (hk:0≤k∧k≤255) (hi:In64 i) (hs:s.size≤maxLen):NdAt A w (.agg #[.int .u8 k,.int .i64 i,.string s,v]) (.mk k i s l):=⟨⟨hk,hi,hs⟩,_,rfl,h⟩
theorem in64_8:In64 8:=by unfold In64;omega
theorem in64_1:In64 1:=by unfold In64;omega
theorem xs_size:(⟨#[120,115]⟩:ByteArray).size≤maxLen:=by unfold maxLen;decide
theorem len_size:lenS.size≤maxLen:=by unfold maxLen;decide
theorem no_size:(⟨#[]⟩:ByteArray).size≤maxLen:=by unfold maxLen;decide
theorem exlen_fns {w:World} {A:Nat→Prop} {g1 g2 g4 g6 g7 g8 g9:Nat}
 (h1:w.heap[g1]?=some (.cells #[.int .u8 81,.int .i64 0,.string ⟨#[120,115]⟩,.slice none 0 0] 66 (0,0)))
 (h2:w.heap[g2]?=some (.cells #[.int .u8 89,.int .i64 0,.string ⟨#[]⟩,.slice (some ⟨g1,0,none⟩) 1 1] 66 (0,0)))
 (h4:w.heap[g4]?=some (.cells #[.int .u8 80,.int .i64 1,.string ⟨#[]⟩,.slice none 0 0,.int .u8 85,.int .i64 0,.string ⟨#[108,101,110]⟩,.slice (some ⟨g2,0,none⟩) 1 1] 66 (0,0)))
 (h6:w.heap[g6]?=some (.cells #[.string ⟨#[120,115]⟩,.bool true] 101 (0,0)))
 (h7:w.heap[g7]?=some (.cells #[.int .u8 81,.int .i64 0,.string ⟨#[120,115]⟩,.slice none 0 0] 66 (0,0)))
 (h8:w.heap[g8]?=some (.cells #[.int .u8 90,.int .i64 0,.string ⟨#[]⟩,.slice (some ⟨g7,0,none⟩) 1 1,.int .u8 80,.int .i64 0,.string ⟨#[]⟩,.slice none 0 0,.int .u8 82,.int .i64 8,.string ⟨#[]⟩,.slice (some ⟨g4,0,none⟩) 2 2] 66 (0,0)))
 (h9:w.heap[g9]?=some (.cells #[.string ⟨#[108,101,110]⟩,.slice (some ⟨g6,0,none⟩) 1 1,.bool false,.int .u8 83,.int .i64 0,.string ⟨#[]⟩,.slice (some ⟨g8,0,none⟩) 3 3] 68 (0,0)))
 (a1:A g1) (a2:A g2) (a4:A g4) (a6:A g6) (a7:A g7) (a8:A g8) (a9:A g9):FnsAt A w (.slice (some ⟨g9,0,none⟩) 1 1) exLen:=by
 have l6:g6 < w.heap.size:=by rw [Array.getElem?_eq_some_iff] at h6;exact h6.1
 have l9:g9 < w.heap.size:=by rw [Array.getElem?_eq_some_iff] at h9;exact h9.1
 have hp:ParsAt A w (.slice (some ⟨g6,0,none⟩) 1 1) [⟨⟨#[120,115]⟩,true⟩]:=by
  refine ⟨fun j i=>if i=0 then .string ⟨#[120,115]⟩ else .bool true,⟨by unfold maxLen;simp,_,_,rfl,Nat.le_refl _,nofun,fun _=>⟨g6,0,rfl,l6,a6,fun j hj i hi=>?_⟩⟩,fun j hj=>?_⟩
  · obtain rfl:j=0:=by simp at hj;exact hj
    match i,hi with
    | 0,_=>exact cell_blk h6 0 rfl
    | 1,_=>exact cell_blk h6 1 rfl
  · obtain rfl:j=0:=by simp at hj;exact hj
    exact ⟨rfl,rfl,xs_size⟩
 have k255:∀ k:Int,80≤k→k≤90→0≤k∧k≤255:=fun k h h'=>⟨by omega,by omega⟩
 have hx:NdAt A w (.agg #[.int .u8 81,.int .i64 0,.string ⟨#[120,115]⟩,.slice none 0 0]) xsN:=nd_lit (KidsAt.nil _) (k255 _ (by omega) (by omega)) in64_0 xs_size
 have k1:KidsAt A w (.slice (some ⟨g1,0,none⟩) 1 1) [xsN]:=kids_1 h1 a1 hx
 have k2:KidsAt A w (.slice (some ⟨g2,0,none⟩) 1 1) [.mk 89 0 ⟨#[]⟩ [xsN]]:=kids_1 h2 a2 (nd_lit k1 (k255 _ (by omega) (by omega)) in64_0 no_size)
 have k4:KidsAt A w (.slice (some ⟨g4,0,none⟩) 2 2) [.mk 80 1 ⟨#[]⟩ [],.mk 85 0 lenS [.mk 89 0 ⟨#[]⟩ [xsN]]]:=kids_2 h4 a4 (nd_lit (KidsAt.nil _) (k255 _ (by omega) (by omega)) in64_1 no_size) (nd_lit k2 (k255 _ (by omega) (by omega)) in64_0 len_size)
 have k7:KidsAt A w (.slice (some ⟨g7,0,none⟩) 1 1) [xsN]:=kids_1 h7 a7 hx
 have hk:KidsAt A w (.slice (some ⟨g8,0,none⟩) 3 3) (at' exLen 0).body.kids:=kids_3 h8 a8 (nd_lit k7 (k255 _ (by omega) (by omega)) in64_0 no_size) (nd_lit (KidsAt.nil _) (k255 _ (by omega) (by omega)) in64_0 no_size) (nd_lit k4 (k255 _ (by omega) (by omega)) in64_8 no_size)
 refine ⟨fun j i=>#[Value.string ⟨#[108,101,110]⟩,.slice (some ⟨g6,0,none⟩) 1 1,.bool false,.int .u8 83,.int .i64 0,.string ⟨#[]⟩,.slice (some ⟨g8,0,none⟩) 3 3].getD i undef,⟨by unfold maxLen;decide,_,_,rfl,Nat.le_refl _,nofun,fun _=>⟨g9,0,rfl,l9,a9,fun j hj i hi=>?_⟩⟩,fun j hj=>?_⟩
 · obtain rfl:j=0:=by simpa [exLen] using hj
   match i,hi with
   | 0,_=>exact cell_blk h9 0 rfl
   | 1,_=>exact cell_blk h9 1 rfl
   | 2,_=>exact cell_blk h9 2 rfl
   | 3,_=>exact cell_blk h9 3 rfl
   | 4,_=>exact cell_blk h9 4 rfl
   | 5,_=>exact cell_blk h9 5 rfl
   | 6,_=>exact cell_blk h9 6 rfl
 · obtain rfl:j=0:=by simpa [exLen] using hj
   exact ⟨rfl,len_size,hp,rfl,rfl,rfl,rfl,⟨⟨by decide,by decide⟩,by unfold In64;exact ⟨by decide,by decide⟩,no_size⟩,hk⟩
theorem length_any (w:World):Calls Tryd.prog 26 #[] w fun e w'=>(∃ a c,e=.returned (.slice a 1 c)∧FnsAt (Up w.heap.size) w' (.slice a 1 c) exLen)∧Below w.heap.size w w':=by
 go_enter Tryd.func26,Tryd.ntmps26
 go_wp2
 go_ret
 refine ⟨⟨_,_,rfl,exlen_fns (g1:=w.heap.size+1) (g2:=w.heap.size+1+1) (g4:=w.heap.size+1+1+1+1) (g6:=w.heap.size+1+1+1+1+1+1) (g7:=w.heap.size+1+1+1+1+1+1+1) (g8:=w.heap.size+1+1+1+1+1+1+1+1) (by (repeat (with_reducible first|(refine blk_new ?_;(simp;done))|(refine blk_new ?_;rfl)|refine blk_drew ?_|refine blk_alloc ?_|(apply blk_below;focus assumption)))) (by (repeat (with_reducible first|(refine blk_new ?_;(simp;done))|(refine blk_new ?_;rfl)|refine blk_drew ?_|refine blk_alloc ?_|(apply blk_below;focus assumption)))) (by (repeat (with_reducible first|(refine blk_new ?_;(simp;done))|(refine blk_new ?_;rfl)|refine blk_drew ?_|refine blk_alloc ?_|(apply blk_below;focus assumption)))) (by (repeat (with_reducible first|(refine blk_new ?_;(simp;done))|(refine blk_new ?_;rfl)|refine blk_drew ?_|refine blk_alloc ?_|(apply blk_below;focus assumption)))) (by (repeat (with_reducible first|(refine blk_new ?_;(simp;done))|(refine blk_new ?_;rfl)|refine blk_drew ?_|refine blk_alloc ?_|(apply blk_below;focus assumption)))) (by (repeat (with_reducible first|(refine blk_new ?_;(simp;done))|(refine blk_new ?_;rfl)|refine blk_drew ?_|refine blk_alloc ?_|(apply blk_below;focus assumption)))) (by (repeat (with_reducible first|(refine blk_new ?_;(simp;done))|(refine blk_new ?_;rfl)|refine blk_drew ?_|refine blk_alloc ?_|(apply blk_below;focus assumption)))) ?_ ?_ ?_ ?_ ?_ ?_ ?_⟩,(by (repeat (with_reducible first|exact Below.refl _ _|refine bel_drew ?_|refine bel_alloc ?_|(apply bel_step;focus assumption))))⟩
 all_goals (unfold Up;omega)
end Go.Proofs.YtjhimhlebbamoaaDoor
/- Walks of package backsteplaw43:awake. -/
namespace Go.Proofs.YtjhimhlebbamoaaDoor
open Go.RowKit
theorem stays_any {A:Nat→Prop} {w w':World} (h:Below w.heap.size w w'):Stays A Any w w':=⟨h.size,fun b hb _=>⟨h.block b hb,trivial⟩⟩
theorem ints_one {A:Nat→Prop} {w:World} {g:Nat} {x:Int} (h:w.heap[g]?=some (.cells #[.int .i64 x] 3 (0,0))) (hx:In64 x):IntsAt w (.slice (some ⟨g,0,none⟩) 1 1) [x]:=
 ints_of (A:=Any) (rows_1 (E:=IntE) h trivial rfl ⟨rfl,hx⟩) (by simp)
theorem str_one {w:World} {g:Nat} {s:ByteArray} (h:w.heap[g]?=some (.cells #[.string s] 9 (0,0))) (hs:s.size≤maxLen):StrsAt Any w (.slice (some ⟨g,0,none⟩) 1 1) [s]:=
 rows_1 (E:=StrE) h trivial rfl ⟨rfl,hs⟩
theorem arg_one {w:World} {g g2:Nat} (h:w.heap[g]?=some (.cells #[.int .i64 7,.int .i64 8] 3 (0,0))) (h2:w.heap[g2]?=some (.cells #[.bool true,.int .i64 0,.slice (some ⟨g,0,none⟩) 2 2] 40 (0,0))):RowsAt VlE Any w (.slice (some ⟨g2,0,none⟩) 1 1) exArg:=by
 refine rows_1 (E:=VlE) h2 trivial rfl ⟨rfl,rfl,?_,in64_0⟩
 have hl:g < w.heap.size:=by rw [Array.getElem?_eq_some_iff] at h;exact h.1
 refine ⟨fun j _=>.int .i64 (at' [7,8] j),⟨by unfold maxLen;simp,_,_,rfl,Nat.le_refl _,nofun,fun _=>⟨g,0,rfl,hl,trivial,fun j hj i hi=>?_⟩⟩,fun j hj=>⟨rfl,?_⟩⟩
 · have hi:i < 1:=hi
   obtain rfl:i=0:=by omega
   match j,hj with
   | 0,_=>exact cell_blk h 0 rfl
   | 1,_=>exact cell_blk h 1 rfl
 · match j,hj with
   | 0,_=>show In64 7;unfold In64;omega
   | 1,_=>show In64 8;unfold In64;omega
theorem modest_ex:Modest exLen:=fun j hj=>Nat.le_trans (exL_size j hj) (by omega)
theorem in64_s (x:Int) (h:0≤x∧x≤100):In64 x:=by unfold In64;omega
theorem pr_11 {x y g er:Int} {w w':World} {e:Ending} (h:PrPost ⟨er,⟨[x],[y]⟩,g⟩ w e w'):∃ (a1 a2:Option Addr) (c1 c2:Nat),e=.returned (.tuple #[.agg #[.slice a1 1 c1,.slice a2 1 c2,.int .i64 g],.int .i64 er])∧RowsAt IntE Any w' (.slice a1 [x].length c1) [x]∧RowsAt IntE Any w' (.slice a2 [y].length c2) [y]∧Below w.heap.size w w':=by
 obtain ⟨a1,a2,c1,c2,rfl,h1,h2,-,h3⟩:=h
 exact ⟨a1,a2,c1,c2,rfl,h1.stays (stays_any (Below.refl _ _)),h2.stays (stays_any (Below.refl _ _)),h3⟩
theorem nn_one (x:Int) (hx:0≤x):∀ i,0≤at' [x] i:=fun i=>by
 cases i with
 | zero=>exact hx
 | succ i=>show (0:Int)≤(([x]:List Int).getD (i+1) default);simp
theorem awake_any (w:World) (ht:Tab w):Calls Tryd.prog 9 #[] w fun e w'=>e=.returned (.bool true)∧Below w.heap.size w w':=by
 have HT:=Lib.hid ht
 have hA:Below w.heap.size w ((w.alloc (.cells #[.int .i64 7,.int .i64 8] 3)).alloc (.cells #[.bool true,.int .i64 0,.slice (some ⟨w.heap.size,0,none⟩) 2 2] 40)):=bel_alloc (bel_alloc (Below.refl _ _))
 have HA:=Lib.hid hA
 have HARG:Hid (RowsAt VlE Any ((w.alloc (.cells #[.int .i64 7,.int .i64 8] 3)).alloc (.cells #[.bool true,.int .i64 0,.slice (some ⟨w.heap.size,0,none⟩) 2 2] 40)) (.slice (some ⟨w.heap.size+1,0,none⟩) 1 1) exArg):=Lib.hid (arg_one (at_old _ _ _) (at_new _ _ _))
 clear ht hA
 go_enter Tryd.func9,Tryd.ntmps9
 go_wp2_with fail
 generalize ((w.alloc (.cells #[.int .i64 7,.int .i64 8] 3)).alloc (.cells #[.bool true,.int .i64 0,.slice (some ⟨w.heap.size,0,none⟩) 2 2] 40))=W at *
 refine (length_any _).mono ?_
 rintro e w2 ⟨⟨la,lc,rfl,hl2⟩,hb2⟩
 have HB2:=Lib.hid hb2
 have HP:=Lib.hid (predict_any la lc exLen lenS none 0 [] (some ⟨w.heap.size+1,0,none⟩) 1 exArg 100 Any w2 (hl2.stays (stays_any (Below.refl _ _))) (RowsAt.nil StrE _ _) (HARG.out.stays (Stays.of_below hb2)) modest_ex ((HT.out.below HA.out).below hb2) exA_len (by omega) (by decide))
 clear hl2 hb2
 go_wp2_with fail
 refine HP.out.mono ?_
 intro e w3 hp
 rw [exL_one] at hp
 obtain ⟨a1,a2,c1,c2,rfl,hr1,hr2,hb3⟩:=pr_11 hp
 clear hp HP
 have HR1:=Lib.hid hr1
 have HR2:=Lib.hid hr2
 have HW3:=Lib.hid (HB2.out.trans (hb3.mono HB2.out.size))
 have HX3:=Lib.hid (at_new0 w3 (.cells #[.slice a1 1 c1,.slice a2 1 c2,.int .i64 0] 29))
 clear hr1 hr2 hb3
 go_wp2_with fail
 refine (length_any _).mono ?_
 rintro e w4 ⟨⟨la4,lc4,rfl,hl4⟩,hb4⟩
 have HB4:=Lib.hid hb4
 have HW4:=Lib.hid ((bel_alloc (x:=.cells #[.slice a1 1 c1,.slice a2 1 c2,.int .i64 0] 29) HW3.out).trans (hb4.mono (bel_alloc (x:=.cells #[.slice a1 1 c1,.slice a2 1 c2,.int .i64 0] 29) HW3.out).size))
 have HX4:=Lib.hid (blk_below hb4 HX3.out)
 have HP2:Hid (∀ g w5,w5=w4.alloc (.cells #[.string lenS] 9)→g=w4.heap.size→Calls Tryd.prog 11 #[.slice la4 1 lc4,.string lenS,.slice (some ⟨g,0,none⟩) 1 1,.slice (some ⟨w.heap.size+1,0,none⟩) 1 1,.int .i64 100] w5 (PrPost ⟨0,⟨[1],[4]⟩,14⟩ w5)):=Lib.hid (fun g w5 h5 hg=>by
  subst hg
  have hb5:Below w4.heap.size w4 w5:=by rw [h5];exact bel_alloc (Below.refl _ _)
  rw [← exL_two]
  exact predict_any la4 lc4 exLen lenS (some ⟨w4.heap.size,0,none⟩) 1 [lenS] (some ⟨w.heap.size+1,0,none⟩) 1 exArg 100 Any w5 (hl4.stays (stays_any hb5)) (str_one (by rw [h5];exact at_new0 _ _) len_size) (HARG.out.stays (Stays.of_below (HW4.out.trans (hb5.mono HW4.out.size)))) modest_ex (((HT.out.below HA.out).below HW4.out).below hb5) exA_len (by omega) (by decide))
 clear hl4 hb4
 go_wp2_with fail
 refine (HP2.out _ _ rfl rfl).mono ?_
 intro e w5 hp
 obtain ⟨b1,b2,d1,d2,rfl,hs1,hs2,hb5⟩:=pr_11 hp
 clear hp HP2
 obtain ⟨W6,hW6⟩:∃ W6,W6=w5.alloc (.cells #[.slice b1 1 d1,.slice b2 1 d2,.int .i64 14] 29):=⟨_,rfl⟩
 have hb6:Below w4.heap.size w4 W6:=by subst hW6;exact bel_alloc ((bel_alloc (x:=.cells #[.string lenS] 9) (Below.refl _ _)).trans (hb5.mono (bel_alloc (x:=.cells #[.string lenS] 9) (Below.refl w4.heap.size w4)).size))
 have HW6:=Lib.hid (HW4.out.trans (hb6.mono HW4.out.size))
 have HX6:=Lib.hid (blk_below hb6 HX4.out)
 have HY6:Hid (W6.heap[w5.heap.size]?=some (.cells #[.slice b1 1 d1,.slice b2 1 d2,.int .i64 14] 29 (0,0))):=Lib.hid (by subst hW6;exact at_new0 _ _)
 have hb36:Below w3.heap.size w3 W6:=(bel_alloc (x:=.cells #[.slice a1 1 c1,.slice a2 1 c2,.int .i64 0] 29) (Below.refl w3.heap.size w3)).trans ((HB4.out.trans (hb6.mono HB4.out.size)).mono (bel_alloc (x:=.cells #[.slice a1 1 c1,.slice a2 1 c2,.int .i64 0] 29) (Below.refl w3.heap.size w3)).size)
 have HR16:=Lib.hid (HR1.out.stays (Stays.of_below hb36))
 have HR26:=Lib.hid (HR2.out.stays (Stays.of_below hb36))
 have hb56:Below w5.heap.size w5 W6:=by subst hW6;exact bel_alloc (Below.refl _ _)
 have HS16:=Lib.hid (hs1.stays (Stays.of_below hb56))
 have HS26:=Lib.hid (hs2.stays (Stays.of_below hb56))
 have HC:Hid (∀ w7,Below W6.heap.size W6 w7→w7.cell? ⟨w3.heap.size,0,none⟩=some (.slice a1 1 c1)∧w7.cell? ⟨w3.heap.size,1,none⟩=some (.slice a2 1 c2)∧w7.cell? ⟨w3.heap.size,2,none⟩=some (.int .i64 0)∧w7.cell? ⟨w5.heap.size,0,none⟩=some (.slice b1 1 d1)∧w7.cell? ⟨w5.heap.size,1,none⟩=some (.slice b2 1 d2)∧w7.cell? ⟨w5.heap.size,2,none⟩=some (.int .i64 14)):=Lib.hid (fun w7 h=>by
  obtain ⟨x0,x1,x2⟩:=cells3 (blk_below h HX6.out)
  obtain ⟨y0,y1,y2⟩:=cells3 (blk_below h HY6.out)
  exact ⟨x0,x1,x2,y0,y1,y2⟩)
 have HI:∀ (v:Value) (x y:Int),RowsAt IntE Any W6 v [x]→In64 y→x=y→Hid (∀ w7 g,Below W6.heap.size W6 w7→w7.heap[g]?=some (.cells #[.int .i64 y] 3 (0,0))→Calls Tryd.prog 18 #[v,.slice (some ⟨g,0,none⟩) 1 1] w7 fun e w'=>e=.returned (.bool true)∧Below w7.heap.size w7 w'):=fun v x y hv hy hxy=>Lib.hid (fun w7 g h7 hg=>by
  subst hxy
  have h5:=ints43_any v (.slice (some ⟨g,0,none⟩) 1 1) [x] [x] w7 (ints_of (hv.stays (Stays.of_below h7)) (by simp)) (ints_one (A:=Any) hg hy)
  simpa using h5)
 have HI1:=HI _ 7 7 HR16.out (in64_s _ (by omega)) rfl
 have HI2:=HI _ 0 0 HR26.out (in64_s _ (by omega)) rfl
 have HI3:=HI _ 1 1 HS16.out (in64_s _ (by omega)) rfl
 have HI4:=HI _ 4 4 HS26.out (in64_s _ (by omega)) rfl
 have HBE:Hid (∀ w7,Below W6.heap.size W6 w7→Calls Tryd.prog 22 #[.agg #[.slice b1 1 d1,.slice b2 1 d2,.int .i64 14],.agg #[.slice a1 1 c1,.slice a2 1 c2,.int .i64 0]] w7 fun e w'=>e=.returned (.bool true)∧Below w7.heap.size w7 w'):=Lib.hid (fun w7 h7=>
  better_any b1 b2 a1 a2 d1 d2 c1 c2 [1] [4] [7] [0] 14 0 Any w7 (HS16.out.stays (Stays.of_below h7)) (HS26.out.stays (Stays.of_below h7)) (nn_one 1 (by omega)) (nn_one 4 (by omega)) (by decide) (HR16.out.stays (Stays.of_below h7)) (HR26.out.stays (Stays.of_below h7)) (nn_one 7 (by omega)) (nn_one 0 (by omega)) (by decide))
 clear HI hs1 hs2 hb5 hb6 hb36 hb56
 obtain ⟨x0,x1,x2,y0,y1,y2⟩:=HC.out W6 (Below.refl _ _)
 subst hW6
 go_wp2_with fail
 generalize hg6:w5.alloc (.cells #[.slice b1 1 d1,.slice b2 1 d2,.int .i64 14] 29)=W6 at *
 have hs6:w5.heap.size+1=W6.heap.size:=by rw [← hg6];simp
 rw [hs6]
 clear x0 x1 x2 y0 y1 y2
 refine (HI1.out _ _ (by (repeat (with_reducible first|exact Below.refl _ _|refine bel_drew ?_|refine bel_alloc ?_|(apply bel_step;focus assumption)))) (by (repeat (with_reducible first|(refine blk_new ?_;(simp;done))|(refine blk_new ?_;rfl)|refine blk_drew ?_|refine blk_alloc ?_|(apply blk_below;focus assumption))))).mono ?_
 rintro e w7 ⟨rfl,hb7⟩
 have hw7:Below W6.heap.size W6 w7:=(by (repeat (with_reducible first|exact Below.refl _ _|refine bel_drew ?_|refine bel_alloc ?_|(apply bel_step;focus assumption))))
 clear hb7
 obtain ⟨x0,x1,x2,y0,y1,y2⟩:=HC.out w7 hw7
 go_wp2_with fail
 clear x0 x1 x2 y0 y1 y2
 refine (HI2.out _ _ (by (repeat (with_reducible first|exact Below.refl _ _|refine bel_drew ?_|refine bel_alloc ?_|(apply bel_step;focus assumption)))) (by (repeat (with_reducible first|(refine blk_new ?_;(simp;done))|(refine blk_new ?_;rfl)|refine blk_drew ?_|refine blk_alloc ?_|(apply blk_below;focus assumption))))).mono ?_
 rintro e w8 ⟨rfl,hb8⟩
 have hw8:Below W6.heap.size W6 w8:=(by (repeat (with_reducible first|exact Below.refl _ _|refine bel_drew ?_|refine bel_alloc ?_|(apply bel_step;focus assumption))))
 clear hb8
 obtain ⟨x0,x1,x2,y0,y1,y2⟩:=HC.out w8 hw8
 go_wp2_with fail
 clear x0 x1 x2 y0 y1 y2
 refine (HI3.out _ _ (by (repeat (with_reducible first|exact Below.refl _ _|refine bel_drew ?_|refine bel_alloc ?_|(apply bel_step;focus assumption)))) (by (repeat (with_reducible first|(refine blk_new ?_;(simp;done))|(refine blk_new ?_;rfl)|refine blk_drew ?_|refine blk_alloc ?_|(apply blk_below;focus assumption))))).mono ?_
 rintro e w9 ⟨rfl,hb9⟩
 have hw9:Below W6.heap.size W6 w9:=(by (repeat (with_reducible first|exact Below.refl _ _|refine bel_drew ?_|refine bel_alloc ?_|(apply bel_step;focus assumption))))
 clear hb9
 obtain ⟨x0,x1,x2,y0,y1,y2⟩:=HC.out w9 hw9
 go_wp2_with fail
 clear x0 x1 x2 y0 y1 y2
 refine (HI4.out _ _ (by (repeat (with_reducible first|exact Below.refl _ _|refine bel_drew ?_|refine bel_alloc ?_|(apply bel_step;focus assumption)))) (by (repeat (with_reducible first|(refine blk_new ?_;(simp;done))|(refine blk_new ?_;rfl)|refine blk_drew ?_|refine blk_alloc ?_|(apply blk_below;focus assumption))))).mono ?_
 rintro e w10 ⟨rfl,hb10⟩
 have hw10:Below W6.heap.size W6 w10:=(by (repeat (with_reducible first|exact Below.refl _ _|refine bel_drew ?_|refine bel_alloc ?_|(apply bel_step;focus assumption))))
 clear hb10
 obtain ⟨x0,x1,x2,y0,y1,y2⟩:=HC.out w10 hw10
 go_wp2_with fail
 clear x0 x1 x2 y0 y1 y2
 refine (HBE.out _ (by (repeat (with_reducible first|exact Below.refl _ _|refine bel_drew ?_|refine bel_alloc ?_|(apply bel_step;focus assumption))))).mono ?_
 rintro e w11 ⟨rfl,hb11⟩
 have hw11:Below W6.heap.size W6 w11:=(by (repeat (with_reducible first|exact Below.refl _ _|refine bel_drew ?_|refine bel_alloc ?_|(apply bel_step;focus assumption))))
 have HF:=Lib.hid (HA.out.trans ((HW6.out.trans (hw11.mono HW6.out.size)).mono HA.out.size))
 go_wp2
 go_ret
 exact ⟨rfl,HF.out⟩
end Go.Proofs.YtjhimhlebbamoaaDoor
/- Rows of names that a law makes;what a library within the limits gives. -/
namespace Go.Proofs.YtjhimhlebbamoaaDoor
open Go.RowKit
theorem modest_of {lib:List Fn} {args:List Vl} (h:GreatOk lib args):Modest lib:=fun j hj=>Nat.le_trans (h.bod j hj) (by omega)
theorem vlen_of {lib:List Fn} {args:List Vl} (h:GreatOk lib args):∀ a ∈ args,VLen a:=fun a ha=>by
 obtain ⟨j,hj,rfl⟩:=List.getElem_of_mem ha
 have:=h.vl j hj
 rw [at_eq hj] at this
 unfold VLen;omega
end Go.Proofs.YtjhimhlebbamoaaDoor
