/- Contracts and plain lemmas (CgM, CgN): no statement of the seat is proved here. -/
import Derived.Test.YtpobmoegmdhbpaaGreatDoorXq12
import Derived.Deep.RegionLaw
/- Walks of package cleangen:locals. -/
set_option linter.unusedSimpArgs false
set_option linter.unusedVariables false
set_option linter.unusedSectionVars false
set_option maxRecDepth 100000
set_option maxHeartbeats 6400000
namespace Go.Proofs.YtpobmoegmdhbpaaGreatDoor
open Go.RowKit
def locN (t:Par) (n:Nd):Nd:=blockN [if t.list then nodeN 55 t.name [n] else nodeN 54 t.name [numN 0,n,numN 0]]
def localsN (ts:List Par) (n:Nd):Nd:=ts.foldr locN n
theorem zhw (ts:List Par) (n:Nd) (q:Nat) (h:q < ts.length):(ts.drop q).foldr locN n=locN (at' ts q) ((ts.drop (q+1)).foldr locN n):=by
 rw [List.drop_eq_getElem_cons h,List.foldr_cons,zax h]
def LD (A:Nat→Prop) (w:World) (k:Nat):Prop:=(A k∧k < w.heap.size)∨w.heap.size+2≤k
def LocRel (ts:List Par) (n:Nd) (A:Nat→Prop) (w:World) (j:Int) (wr:World):Prop:=
 ∃ (k0 m0:Int) (s0:ByteArray) (ka:Option Addr) (kn kc:Nat),wr.heap[w.heap.size]?=some (.cells #[.int .u8 k0,.int .i64 m0,.string s0,.slice ka kn kc] 34 (0,0))∧wr.heap[w.heap.size+1]?=some (.cells #[.int .u8 0,.int .i64 0,.string ⟨#[]⟩,.slice none 0 0] 34 (0,0))∧
   NdAt (LD A w) wr (.agg #[.int .u8 k0,.int .i64 m0,.string s0,.slice ka kn kc]) ((ts.drop (j+1).toNat).foldr locN n)∧Below w.heap.size w wr
theorem zep {ts:List Par} {n:Nd} {A:Nat→Prop} {w wr w8:World} {q:Nat} {x:Nd} {ka:Option Addr} {kn kc:Nat} {k0 m0:Int} {s0:ByteArray} {a0:Option Addr} {n0 c0:Nat} (hq:q < ts.length)
 (hbox:wr.heap[w.heap.size]?=some (.cells #[.int .u8 k0,.int .i64 m0,.string s0,.slice a0 n0 c0] 34 (0,0))) (hz:wr.heap[w.heap.size+1]?=some (.cells #[.int .u8 0,.int .i64 0,.string ⟨#[]⟩,.slice none 0 0] 34 (0,0)))
 (hx:blockN [x]=locN (at' ts q) ((ts.drop (q+1)).foldr locN n)) (hk:KidsAt (LD A w) w8 (.slice ka kn kc) [x]) (hb:Below w.heap.size w wr) (hb8:Below wr.heap.size wr w8):
 LocRel ts n A w ((q:Int) - 1) ((((w8.setCell ⟨w.heap.size,0,none⟩ (.int .u8 57)).setCell ⟨w.heap.size,1,none⟩ (.int .i64 0)).setCell ⟨w.heap.size,2,none⟩ (.string ⟨#[]⟩)).setCell ⟨w.heap.size,3,none⟩ (.slice ka kn kc)):=by
 have hK4:=(((zaf w8 w.heap.size 0 (.int .u8 57)).same (zaf _ w.heap.size 1 (.int .i64 0))).same (zaf _ w.heap.size 2 (.string ⟨#[]⟩))).same (zaf _ w.heap.size 3 (.slice ka kn kc))
 refine ⟨57,0,⟨#[]⟩,ka,kn,kc,set4 (zad hb8 hbox) _ _ _ _,zaN (zad hb8 hz) (by omega),?_,?_⟩
 · rw [show ((q:Int) - 1+1).toNat=q by omega,zhw ts n q hq,← hx]
   refine zam (hk.stays ⟨hK4.size,fun b hb a=>⟨hK4.block b hb (fun e=>?_),a⟩⟩) (by omega) (Nat.zero_le _)
   rcases a with ⟨_,a⟩|a <;> omega
 · exact zaq (hb.trans (hb8.mono hb.size)) (Nat.le_refl _)
theorem znj {A:Nat→Prop} {w wr:World} {g:Nat} (hz:wr.heap[w.heap.size+1]?=some (.cells #[.int .u8 0,.int .i64 0,.string ⟨#[]⟩,.slice none 0 0] 34 (0,0))) (h:wr.heap.size≤g):LD A w g:=by
 have:w.heap.size+1 < wr.heap.size:=by rw [Array.getElem?_eq_some_iff] at hz;exact hz.1
 exact .inr (by omega)
theorem kidsL1 {A:Nat→Prop} {w0 wr w:World} {g:Nat} {a b c d:Value} {n:Nd} (h:NewBlk wr w g (.cells #[a,b,c,d] 34 (0,0))) (hz:wr.heap[w0.heap.size+1]?=some (.cells #[.int .u8 0,.int .i64 0,.string ⟨#[]⟩,.slice none 0 0] 34 (0,0))) (h1:NdAt (LD A w0) w (.agg #[a,b,c,d]) n):KidsAt (LD A w0) w (.slice (some ⟨g,0,none⟩) 1 1) [n]:=zbi h.1 (znj hz h.2) h1
theorem kidsL3 {A:Nat→Prop} {w0 wr w:World} {g:Nat} {a b c d a' b' c' d' a2 b2 c2 d2:Value} {n n' n2:Nd} (h:NewBlk wr w g (.cells #[a,b,c,d,a',b',c',d',a2,b2,c2,d2] 34 (0,0))) (hz:wr.heap[w0.heap.size+1]?=some (.cells #[.int .u8 0,.int .i64 0,.string ⟨#[]⟩,.slice none 0 0] 34 (0,0))) (h1:NdAt (LD A w0) w (.agg #[a,b,c,d]) n) (h2:NdAt (LD A w0) w (.agg #[a',b',c',d']) n') (h3:NdAt (LD A w0) w (.agg #[a2,b2,c2,d2]) n2):KidsAt (LD A w0) w (.slice (some ⟨g,0,none⟩) 3 3) [n,n',n2]:=zgH h.1 (znj hz h.2) h1 h2 h3
theorem ndL {ts:List Par} {n:Nd} {D:Nat→Prop} {wr w:World} {v:Value} {j:Int} {q:Nat} (h:NdAt D wr v ((ts.drop (j+1).toNat).foldr locN n)) (hq:(j+1).toNat=q) (hb:Below wr.heap.size wr w):NdAt D w v ((ts.drop q).foldr locN n):=by
 subst hq;exact h.stays (Stays.of_below hb)
theorem zmk (ts:List Par) (pa:Option Addr) (pc:Nat) (v:Value) (n:Nd) (A:Nat→Prop) (w:World) (hp:ParsAt Any w (.slice pa ts.length pc) ts) (hv:NdAt A w v n) (hl:ts.length≤100000):
 Calls Tryz.prog 85 #[.slice pa ts.length pc,v] w fun e w'=>∃ u,e=.returned u∧NdAt (NewB A w) w' u (localsN ts n)∧Below w.heap.size w w':=by
 obtain ⟨hok,hlen,ka,kc,rfl,hk⟩:=hv.open
 have hA1:Below w.heap.size w (w.alloc (.cells #[.int .u8 n.kind,.int .i64 n.num,.string n.name,.slice ka n.kids.length kc] 34)):=(Below.refl _ _).alloc (Nat.le_refl _) _
 have hA:Below w.heap.size w ((w.alloc (.cells #[.int .u8 n.kind,.int .i64 n.num,.string n.name,.slice ka n.kids.length kc] 34)).alloc (.cells #[.int .u8 0,.int .i64 0,.string ⟨#[]⟩,.slice none 0 0] 34)):=hA1.alloc hA1.size _
 have HR0:Hid (LocRel ts n A w ((ts.length:Int) - 1) ((w.alloc (.cells #[.int .u8 n.kind,.int .i64 n.num,.string n.name,.slice ka n.kids.length kc] 34)).alloc (.cells #[.int .u8 0,.int .i64 0,.string ⟨#[]⟩,.slice none 0 0] 34))):=Lib.hid (by
  refine ⟨_,_,_,_,_,_,zaI w _ _,zaw w _ _,?_,hA⟩
  rw [show ((ts.length:Int) - 1+1).toNat=ts.length by omega,List.drop_length]
  exact hv.stays ⟨hA.size,fun b hb a=>⟨hA.block b hb,.inl ⟨a,hb⟩⟩⟩)
 have HP:=Lib.hid hp
 clear hv hk hp hA1 hok hlen
 go_enter Tryz.func85,Tryz.ntmps85
 go_wp2
 generalize ((w.alloc (.cells #[.int .u8 n.kind,.int .i64 n.num,.string n.name,.slice ka n.kids.length kc] 34)).alloc (.cells #[.int .u8 0,.int .i64 0,.string ⟨#[]⟩,.slice none 0 0] 34))=W at *
 go_loopw [5] (fun i wr=>∃ j:Int,i=.int .i64 j∧-1≤j∧j < ts.length∧LocRel ts n A w j wr) (fun i _=>(intOf i+1).toNat)
 case atStart=>exact ⟨_,rfl,by omega,by omega,HR0.out⟩
 case round=>
  obtain ⟨j,rfl,hj0,hj1,k0,m0,s0,xa,xn,xc,hbox,hzero,hnd,hbl⟩:=hrel
  have HBOX:=Lib.hid hbox
  have HZERO:=Lib.hid hzero
  have HND:=Lib.hid hnd
  clear hbox hzero hnd
  by_cases hpos:0≤j
  · obtain ⟨q,rfl⟩:=Int.eq_ofNat_of_zero_le hpos
    have hq:q < ts.length:=by omega
    have HNQ:Hid (((q:Int)+1).toNat=q+1):=Lib.hid (by omega)
    obtain ⟨b,off,cap,he,hb,_,_,c0,c1,hsz⟩:=(HP.out.stays (Stays.of_below hbl)).at hq
    simp only [Value.slice.injEq] at he
    obtain ⟨rfl,-,rfl⟩:=he
    have HS:Hid (∀ w1,Below wr.heap.size wr w1→w1.cell? ⟨b,off+q * 2,none⟩=some (.string (at' ts q).name)∧w1.cell? ⟨w.heap.size,0,none⟩=some (.int .u8 k0)∧w1.cell? ⟨w.heap.size,1,none⟩=some (.int .i64 m0)∧w1.cell? ⟨w.heap.size,2,none⟩=some (.string s0)∧w1.cell? ⟨w.heap.size,3,none⟩=some (.slice xa xn xc)∧b < w1.heap.size∧w.heap.size < w1.heap.size∧∀ j,w1.frozen? ⟨w.heap.size,j,none⟩=false):=Lib.hid (fun w1 h1=>by
     have hr:=zad h1 HBOX.out
     obtain ⟨r0,r1,r2,r3⟩:=cells4 hr
     exact ⟨(h1.cell (p:=⟨b,off+q * 2,none⟩) hb).trans c0,r0,r1,r2,r3,Nat.lt_of_lt_of_le hb h1.size,by rw [Array.getElem?_eq_some_iff] at hr;exact hr.1,unfrozen hr⟩)
    obtain ⟨s1,s2,s3,s4,s5,-,s7,s6⟩:=HS.out wr (Below.refl _ _)
    have i0:(0:Int)≤(q:Int):=by omega
    have i1:(q:Int) < (ts.length:Int):=by omega
    cases hlist:(at' ts q).list with
    | true=>
      rw [hlist] at c1
      have HL:=Lib.hid hlist
      clear hlist
      go_wp2
      go_region_law (first
       | (go_simp;go_at_call 136;refine (zbx _ _ _ _ _ _).mono ?_;rintro e w4 ⟨rfl,hb4⟩;obtain ⟨t1,t2,t3,t4,t5,t7,t8,t6⟩:=HS.out w4 (by (repeat (with_reducible first|exact Below.refl _ _|refine zab ?_|refine zaa ?_|(apply zac;focus assumption)))))
       | (go_simp;go_at_call 86;refine (zcr _ _ _ _).mono ?_;rintro e w8 ⟨rfl,hb8⟩;obtain ⟨t1,t2,t3,t4,t5,t7,t8,t6⟩:=HS.out w8 (by (repeat (with_reducible first|exact Below.refl _ _|refine zab ?_|refine zaa ?_|(apply zac;focus assumption))))))
      all_goals
       go_wp2
       refine ⟨⟨(q:Int) - 1,rfl,by omega,by omega,zep (x:=nodeN 55 (at' ts q).name [(ts.drop (q+1)).foldr locN n]) hq HBOX.out HZERO.out (by rw [locN,HL.out];rfl) ?_ hbl (by (repeat (with_reducible first|exact Below.refl _ _|refine zab ?_|refine zaa ?_|(apply zac;focus assumption))))⟩,by first|(simp [intOf];done)|(simp [intOf];omega)⟩
       exact kidsL1 (by (repeat (with_reducible first|(refine zaE ?_ ?_;rotate_left;(focus (simp;done));(focus ((repeat (with_reducible first|exact Below.refl _ _|refine zab ?_|refine zaa ?_|(apply zac;focus assumption)));done)))|refine zav ?_|refine zan ?_|(apply zao;focus assumption)))) HZERO.out (zam (kidsL1 (by (repeat (with_reducible first|(refine zaE ?_ ?_;rotate_left;(focus (simp;done));(focus ((repeat (with_reducible first|exact Below.refl _ _|refine zab ?_|refine zaa ?_|(apply zac;focus assumption)));done)))|refine zav ?_|refine zan ?_|(apply zao;focus assumption)))) HZERO.out (ndL HND.out HNQ.out (by (repeat (with_reducible first|exact Below.refl _ _|refine zab ?_|refine zaa ?_|(apply zac;focus assumption)))))) (by omega) hsz)
    | false=>
      rw [hlist] at c1
      have HL:=Lib.hid hlist
      clear hlist
      go_wp2
      go_region_law (first
       | (go_simp;go_at_call 139;refine (zdE _ _).mono ?_;rintro e w3 ⟨rfl,hb3⟩;obtain ⟨t1,t2,t3,t4,t5,t7,t8,t6⟩:=HS.out w3 (by (repeat (with_reducible first|exact Below.refl _ _|refine zab ?_|refine zaa ?_|(apply zac;focus assumption)))))
       | (go_simp;go_at_call 136;refine (zbx _ _ _ _ _ _).mono ?_;rintro e w4 ⟨rfl,hb4⟩;obtain ⟨t1,t2,t3,t4,t5,t7,t8,t6⟩:=HS.out w4 (by (repeat (with_reducible first|exact Below.refl _ _|refine zab ?_|refine zaa ?_|(apply zac;focus assumption)))))
       | (go_simp;go_at_call 86;refine (zcr _ _ _ _).mono ?_;rintro e w8 ⟨rfl,hb8⟩;obtain ⟨t1,t2,t3,t4,t5,t7,t8,t6⟩:=HS.out w8 (by (repeat (with_reducible first|exact Below.refl _ _|refine zab ?_|refine zaa ?_|(apply zac;focus assumption))))))
      all_goals
       go_wp2
       refine ⟨⟨(q:Int) - 1,rfl,by omega,by omega,zep (x:=nodeN 54 (at' ts q).name [numN 0,(ts.drop (q+1)).foldr locN n,numN 0]) hq HBOX.out HZERO.out (by rw [locN,HL.out];rfl) ?_ hbl (by (repeat (with_reducible first|exact Below.refl _ _|refine zab ?_|refine zaa ?_|(apply zac;focus assumption))))⟩,by first|(simp [intOf];done)|(simp [intOf];omega)⟩
       exact kidsL1 (by (repeat (with_reducible first|(refine zaE ?_ ?_;rotate_left;(focus (simp;done));(focus ((repeat (with_reducible first|exact Below.refl _ _|refine zab ?_|refine zaa ?_|(apply zac;focus assumption)));done)))|refine zav ?_|refine zan ?_|(apply zao;focus assumption)))) HZERO.out (zam (kidsL3 (by (repeat (with_reducible first|(refine zaE ?_ ?_;rotate_left;(focus (simp;done));(focus ((repeat (with_reducible first|exact Below.refl _ _|refine zab ?_|refine zaa ?_|(apply zac;focus assumption)));done)))|refine zav ?_|refine zan ?_|(apply zao;focus assumption)))) HZERO.out (zdf (by unfold In64;omega)) (ndL HND.out HNQ.out (by (repeat (with_reducible first|exact Below.refl _ _|refine zab ?_|refine zaa ?_|(apply zac;focus assumption))))) (zdf (by unfold In64;omega))) (by omega) hsz)
  · obtain rfl:j= -1:=by omega
    have hr:=HBOX.out
    obtain ⟨r0,r1,r2,r3⟩:=cells4 hr
    have hz:=HZERO.out
    obtain ⟨z0,z1,z2,z3⟩:=cells4 hz
    have zf:=unfrozen hz
    clear hr hz
    go_wp2
    (try simp only [Exit.inBlock,Exit.then])
    refine bodyPost_ret (results_cell_row (P:=Tryz.prog) rfl _ _ (w.heap.size+1) _ _ _ _ rfl (set4 HZERO.out _ _ _ _) Tryz.underlying34 rfl (by kernel_rfl)) rfl ?_
    have hK4:=(((zaf wr (w.heap.size+1) 0 (.int .u8 k0)).same (zaf _ (w.heap.size+1) 1 (.int .i64 m0))).same (zaf _ (w.heap.size+1) 2 (.string s0))).same (zaf _ (w.heap.size+1) 3 (.slice xa xn xc))
    refine ⟨_,rfl,?_,zaq hbl (by omega)⟩
    have hfin:=HND.out
    rw [show ((-1:Int)+1).toNat=0 by omega,List.drop_zero] at hfin
    refine hfin.stays ⟨hK4.size,fun b hb a=>⟨hK4.block b hb (fun e=>?_),?_⟩⟩
    · rcases a with ⟨_,a⟩|a <;> omega
    · rcases a with ⟨a,_⟩|a
      · exact .inl a
      · exact .inr (by omega)
end Go.Proofs.YtpobmoegmdhbpaaGreatDoor
/- Walks of package ast:Clone. -/
namespace Go.Proofs.YtpobmoegmdhbpaaGreatDoor
open Go.RowKit
def CopyPost (n:Nd) (w:World) (e:Ending) (w':World):Prop:=∃ ka kc,e=.returned (.agg #[.int .u8 n.kind,.int .i64 n.num,.string n.name,.slice ka n.kids.length kc])∧NdAt (Up w.heap.size) w' (.agg #[.int .u8 n.kind,.int .i64 n.num,.string n.name,.slice ka n.kids.length kc]) n∧Below w.heap.size w w'
theorem zer:∀ l:List Nd,l.length≤sizeL l
 | []=>by simp
 | n :: r=>by rw [sizeL,List.length_cons];have:=zer r;have:=zaH n;omega
theorem zfR (m:Nat):∀ (n:Nd) (v:Value) (A:Nat→Prop) (w:World),sizeN n≤m→sizeN n≤100000→NdAt A w v n→
 Calls Tryz.prog 176 #[v] w (CopyPost n w):=by
 induction m with
 | zero=>intro n v A w hm;have:=zaH n;omega
 | succ m ih=>
   intro n v A w hm hmil hv
   have IH:=Lib.hid ih
   clear ih
   obtain ⟨hok,hlen,ka,kc,rfl,hk⟩:=hv.open
   have HS:Hid (∀ j,j < n.kids.length→sizeN (at' n.kids j)≤m∧sizeN (at' n.kids j)≤100000):=Lib.hid (fun j hj=>by have:=zaC n j hj;omega)
   have HOK:=Lib.hid hok
   have hA1:Below w.heap.size w (w.alloc (.cells #[.int .u8 n.kind,.int .i64 n.num,.string n.name,.slice ka n.kids.length kc] 34)):=(Below.refl _ _).alloc (Nat.le_refl _) _
   have hA:Below w.heap.size w ((w.alloc (.cells #[.int .u8 n.kind,.int .i64 n.num,.string n.name,.slice ka n.kids.length kc] 34)).alloc (.cells #[.int .u8 0,.int .i64 0,.string ⟨#[]⟩,.slice none 0 0] 34)):=hA1.alloc hA1.size _
   have HX:=Lib.hid (zaI w (.cells #[.int .u8 n.kind,.int .i64 n.num,.string n.name,.slice ka n.kids.length kc] 34) (.cells #[.int .u8 0,.int .i64 0,.string ⟨#[]⟩,.slice none 0 0] 34))
   have HZ:=Lib.hid (zaw w (.cells #[.int .u8 n.kind,.int .i64 n.num,.string n.name,.slice ka n.kids.length kc] 34) (.cells #[.int .u8 0,.int .i64 0,.string ⟨#[]⟩,.slice none 0 0] 34))
   have HSZ:Hid (((w.alloc (.cells #[.int .u8 n.kind,.int .i64 n.num,.string n.name,.slice ka n.kids.length kc] 34)).alloc (.cells #[.int .u8 0,.int .i64 0,.string ⟨#[]⟩,.slice none 0 0] 34)).heap.size=w.heap.size+1+1):=Lib.hid (by simp)
   have HK:=Lib.hid (hk.stays (Stays.of_below hA))
   have hln:n.kids.length≤100000:=by
    have h1:=zer n.kids
    have h2:=zbd n
    omega
   clear hv hk hA1 hok hm hmil hlen
   go_enter Tryz.func176,Tryz.ntmps176
   go_wp2
   generalize ((w.alloc (.cells #[.int .u8 n.kind,.int .i64 n.num,.string n.name,.slice ka n.kids.length kc] 34)).alloc (.cells #[.int .u8 0,.int .i64 0,.string ⟨#[]⟩,.slice none 0 0] 34))=W at *
   go_loopw [9,3] (fun i v wr=>∃ k:Nat,i=.int .i64 k∧k≤n.kids.length∧Below W.heap.size W wr∧RowsOwn NdE 34 (Up W.heap.size) W.heap.size wr v (n.kids.take k)) (fun i _ _=>n.kids.length - (intOf i).toNat)
   case atStart=>exact ⟨0,rfl,Nat.zero_le _,Below.refl _ _,by rw [List.take_zero];exact RowsOwn.nil _ _ _ _ _⟩
   case round=>
    obtain ⟨k,rfl,hk,hbl,hown⟩:=hrel
    have hlk:(n.kids.take k).length=k:=by simp;omega
    obtain ⟨va,vc,hv⟩:=hown.form
    rw [hlk] at hv
    subst hv
    have HOWN:=Lib.hid hown
    have HLK:=Lib.hid hlk
    clear hown hlk
    by_cases hlt:k < n.kids.length
    · obtain ⟨b,off,cap,kb,kd,he,hb,_,_,c0,c1,c2,c3,hnd⟩:=(HK.out.stays (Stays.of_below hbl)).at hlt
      simp only [Value.slice.injEq] at he
      obtain ⟨rfl,-,rfl⟩:=he
      have hA2:Below wr.heap.size wr (wr.alloc (.cells #[.int .u8 (at' n.kids k).kind,.int .i64 (at' n.kids k).num,.string (at' n.kids k).name,.slice kb (at' n.kids k).kids.length kd] 34)):=(Below.refl _ _).alloc (Nat.le_refl _) _
      have HIH:=Lib.hid (IH.out (at' n.kids k) _ A _ (HS.out k hlt).1 (HS.out k hlt).2 (hnd.stays (Stays.of_below hA2)))
      have HTK:Hid (n.kids.take (k+1)=n.kids.take k ++ [at' n.kids k]):=Lib.hid (by rw [List.take_add_one,List.getElem?_eq_getElem hlt,zax hlt];rfl)
      clear hnd
      go_wp2_with fail
      refine HIH.out.mono ?_
      rintro e w1 ⟨xa,xc,rfl,hx1,hb1⟩
      have hB1:Below wr.heap.size wr w1:=hA2.trans (hb1.mono hA2.size)
      have hBa:Below w1.heap.size w1 (w1.alloc (.cells #[.int .u8 (at' n.kids k).kind,.int .i64 (at' n.kids k).num,.string (at' n.kids k).name,.slice xa (at' n.kids k).kids.length xc] 34)):=(Below.refl _ _).alloc (Nat.le_refl _) _
      have HK1:=Lib.hid (zar.1 (zbi (A:=Up (wr.heap.size+1)) (heap_alloc_new w1 (.cells #[.int .u8 (at' n.kids k).kind,.int .i64 (at' n.kids k).num,.string (at' n.kids k).name,.slice xa (at' n.kids k).kids.length xc] 34)) (by have:=hb1.size;simp at this;unfold Up;omega) ((hx1.stays (Stays.of_below hBa)).stays (zaJ (by simp)))))
      have HO1:=Lib.hid ((HOWN.out.below hB1).below hBa)
      have hsz1:=hB1.size
      have hszl:=hbl.size
      have HD:Hid (∀ b,b < (w1.alloc (.cells #[.int .u8 (at' n.kids k).kind,.int .i64 (at' n.kids k).num,.string (at' n.kids k).name,.slice xa (at' n.kids k).kids.length xc] 34)).heap.size→Up (wr.heap.size+1) b→Up W.heap.size b∧(Value.slice va k vc).ownBlock≠some b):=Lib.hid (fun b _ a=>by
       have h1:wr.heap.size+1≤b:=a
       exact ⟨by unfold Up;omega,fun e=>by have:=(HOWN.out.lt e).2;omega⟩)
      have hbase:W.heap.size≤(w1.alloc (.cells #[.int .u8 (at' n.kids k).kind,.int .i64 (at' n.kids k).num,.string (at' n.kids k).name,.slice xa (at' n.kids k).kids.length xc] 34)).heap.size:=Nat.le_trans hbl.size (Nat.le_trans hB1.size hBa.size)
      clear hx1 HIH
      go_wp2_with (at_builtin;refine zaF TNd rfl (by decide) rfl (.tmp 13) (.tmp 16) rfl rfl rfl HO1.out HK1.out HD.out (by rw [HLK.out];unfold maxLen;simp;omega) (by rw [HLK.out];simp;omega) hbase ?_;intro a' c' w3 h3 hg3 hn3;have H3:=Lib.hid h3;have HG3:Hid (World.grownBy _ w3 (Value.slice va k vc).ownBlock):=Lib.hid hg3;clear h3 hg3 hn3)
      refine ⟨⟨k+1,by go_num,by omega,?_,by rw [HTK.out];have h3:=H3.out;rw [HLK.out] at h3;exact h3⟩,by simp [intOf];omega⟩
      exact (hbl.trans ((hB1.trans (hBa.mono hB1.size)).mono hbl.size)).grown HG3.out hbase (fun j e=>(HOWN.out.lt e).1)
    · obtain rfl:k=n.kids.length:=by omega
      have hlt':¬ (n.kids.length:Int) < (n.kids.length:Int):=by omega
      rw [List.take_length] at HOWN
      have hr:=zad hbl HX.out
      have hz:=zad hbl HZ.out
      obtain ⟨r0,r1,r2,r3⟩:=cells4 hr
      obtain ⟨z0,z1,z2,z3⟩:=cells4 hz
      have rf:=unfrozen hr
      have zf:=unfrozen hz
      have hz2:(wr.setCell ⟨w.heap.size,3,none⟩ (.slice va n.kids.length vc)).heap[w.heap.size+1]?=some (.cells #[.int .u8 0,.int .i64 0,.string ⟨#[]⟩,.slice none 0 0] 34):=by
       rw [(zaf wr w.heap.size 3 (.slice va n.kids.length vc)).block _ (by rw [Array.getElem?_eq_some_iff] at hz;exact hz.1) (by omega)];exact hz
      have HZ2:=Lib.hid hz2
      clear hr hz hz2
      go_wp2
      (try simp only [Exit.inBlock,Exit.then])
      refine bodyPost_ret (results_cell_row (P:=Tryz.prog) rfl _ _ (w.heap.size+1) _ _ _ _ rfl (set4 HZ2.out _ _ _ _) Tryz.underlying34 rfl (by kernel_rfl)) rfl ?_
      have hzz:=HSZ.out
      have hK:=(zaf wr w.heap.size 3 (.slice va n.kids.length vc))
      have hK4:=(((zaf (wr.setCell ⟨w.heap.size,3,none⟩ (.slice va n.kids.length vc)) (w.heap.size+1) 0 (.int .u8 n.kind)).same (zaf _ (w.heap.size+1) 1 (.int .i64 n.num))).same (zaf _ (w.heap.size+1) 2 (.string n.name))).same (zaf _ (w.heap.size+1) 3 (.slice va n.kids.length vc))
      refine ⟨_,_,rfl,⟨HOK.out,_,rfl,?_⟩,zaq ((hA.trans (hbl.mono hA.size)).setCell (Nat.le_refl _) _) (by omega)⟩
      have hkk:KidsAt (Up W.heap.size) wr (.slice va n.kids.length vc) n.kids:=zar.2 (HOWN.out.shut (fun _ a=>a) (fun j e=>(HOWN.out.lt e).1) (by unfold maxLen;omega))
      refine (hkk.stays (A':=Up W.heap.size) ⟨hK.size,fun b hb a=>⟨hK.block b hb (fun e=>?_),a⟩⟩).stays ⟨hK4.size,fun b hb a=>⟨hK4.block b hb (fun e=>?_),?_⟩⟩
      · have:W.heap.size≤b:=a
        omega
      · have:W.heap.size≤b:=a
        omega
      · have:W.heap.size≤b:=a
        unfold Up;omega
theorem zcn (n:Nd) (v:Value) (A:Nat→Prop) (w:World) (h:sizeN n≤100000) (hv:NdAt A w v n):Calls Tryz.prog 176 #[v] w (CopyPost n w):=zfR _ n v A w (Nat.le_refl _) h hv
end Go.Proofs.YtpobmoegmdhbpaaGreatDoor
