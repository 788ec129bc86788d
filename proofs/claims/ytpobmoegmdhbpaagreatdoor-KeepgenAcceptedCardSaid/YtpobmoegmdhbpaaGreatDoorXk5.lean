/- Contracts and plain lemmas (KiP, PPrc, KiQ, KiM): no statement of the seat is proved here. -/
import Derived.Test.YtpobmoegmdhbpaaGreatDoorXl2
import Derived.Test.YtpobmoegmdhbpaaGreatDoorXq28
import Derived.Test.YtpobmoegmdhbpaaGreatDoorXk4
set_option linter.unusedSimpArgs false
set_option linter.unusedVariables false
set_option linter.unusedSectionVars false
set_option maxRecDepth 100000
set_option maxHeartbeats 12800000
namespace Go.Proofs.YtpobmoegmdhbpaaGreatDoor
open Go.RowKit
theorem zoI {α:Type} [Inhabited α] {E:Elem α} {D:Nat→Prop} {base:Nat} {w:World} {g:Nat} {cs:Array Value} {e:Nat} {x y:α} (h:w.heap[g]?=some (.cells cs e (0,0))) (hb:base≤g) (hs:cs.size=E.size+E.size) (hx:E.C (fun k=>D k∧k≠g) w (fun i=>cs.getD i undef) x) (hy:E.C (fun k=>D k∧k≠g) w (fun i=>cs.getD (E.size+i) undef) y):
 RowsOwn E e D base w (.slice (some ⟨g,0,none⟩) 2 2) [x,y]:=by
 have hst:Stays (fun k=>D k∧k≠g) (fun k=>D k∧(Value.slice (some ⟨g,0,none⟩) 2 2).ownBlock≠some k) w w:=⟨Nat.le_refl _,fun b _ a=>⟨rfl,a.1,fun e2=>a.2 (Option.some.inj e2).symm⟩⟩
 have hv:∀ i,vat cs.toList i=cs.getD i undef:=fun i=>by unfold vat;rw [List.getD_eq_getElem?_getD,Array.getD_eq_getD_getElem?];simp
 have h2:cs.size=2 * E.size:=by omega
 refine ⟨cs.toList,⟨by simpa using h2,.inr ⟨g,2,cs,rfl,hb,h,Nat.le_refl _,by unfold maxLen;omega,h2,?_⟩⟩,fun j hj=>?_⟩
 · show cs.toList.take (2 * E.size)=cs.toList
   rw [← h2,← Array.length_toList,List.take_length]
 · have hj2:j < 2:=hj
   match j,hj2 with
   | 0,_=>exact E.congr (E.stays hst hx) (fun i _=>by rw [hv];simp)
   | 1,_=>exact E.congr (E.stays hst hy) (fun i _=>by rw [hv,Nat.one_mul])
theorem zmc (w:World):Calls Tryz.prog 37 #[] w fun e w'=>∃ a c,e=.returned (.slice a 2 c)∧RowsOwn PrcE 83 (Up w.heap.size) w.heap.size w' (.slice a 2 c) libPrcs∧Below w.heap.size w w':=by
 have one:∀ c:UInt8,(bstr [c]).size≤maxLen:=fun c=>by unfold maxLen;simp [bstr,ByteArray.size]
 have HST:Hid (∀ (c d:UInt8) w1,Calls Tryz.prog 69 #[.slice (some ⟨w1.heap.size,0,none⟩) 2 2] (w1.alloc (.cells #[.string ⟨#[c]⟩,.string ⟨#[d]⟩] 9)) fun e w'=>∃ a k,e=.returned (.slice a 2 k)∧RowsAt DclE (Up w1.heap.size) w' (.slice a 2 k) [dclN (bstr [c]) true,dclN (bstr [d]) true]∧Below w1.heap.size w1 w'):=Lib.hid (fun c d w1=>by
  have hb:Below w1.heap.size w1 (w1.alloc (.cells #[.string ⟨#[c]⟩,.string ⟨#[d]⟩] 9)):=zaa (Below.refl _ _)
  refine (zmC [bstr [c],bstr [d]] (by simp) (some ⟨w1.heap.size,0,none⟩) 2 Any _ (ziE (s:=bstr [c]) (t:=bstr [d]) (zah w1 _) trivial (one c) (one d))).mono ?_
  rintro e w' ⟨a,k,he,hr,hbb⟩
  exact ⟨a,k,he,hr.stays ⟨Nat.le_refl _,fun b _ h=>⟨rfl,Nat.le_trans hb.size h⟩⟩,hb.trans (hbb.mono hb.size)⟩)
 go_enter Tryz.func37,Tryz.ntmps37
 go_wp2_with (first
  | (go_at_call 71;refine (zoi (fun _=>False) _).mono ?_;rintro e w4 ⟨k5,k6,rfl,hn4,hb4⟩;have HN4:=Lib.hid hn4;have HB4:=Lib.hid hb4;clear hn4 hb4)
  | (go_at_call 70;refine (zom (fun _=>False) _).mono ?_;rintro e w2 ⟨k3,k4,rfl,hn2,hb2⟩;have HN2:=Lib.hid hn2;have HB2:=Lib.hid hb2;clear hn2 hb2)
  | (have:=HB2;go_at_call 69;refine (HST.out _ _ _).mono ?_;rintro e w3 ⟨a3,c3,rfl,hr3,hb3⟩;have HR3:=Lib.hid hr3;have HB3:=Lib.hid hb3;clear hr3 hb3)
  | (go_at_call 69;refine (HST.out _ _ _).mono ?_;rintro e w1 ⟨a1,c1,rfl,hr1,hb1⟩;have HR1:=Lib.hid hr1;have HB1:=Lib.hid hb1;clear hr1 hb1))
 go_ret
 have hX:Below w4.heap.size w4 (w4.alloc (.cells #[.string ⟨#[108,99,111,112,121]⟩,.slice a1 2 c1,.int .u8 copyB.kind,.int .i64 copyB.num,.string copyB.name,.slice k3 copyB.kids.length k4,.string ⟨#[108,115,112,105,108,108]⟩,.slice a3 2 c3,.int .u8 spillB.kind,.int .i64 spillB.num,.string spillB.name,.slice k5 spillB.kids.length k6] 83)):=zaa (Below.refl _ _)
 have hb1:=HB1.out
 have hb2:=HB2.out
 have hb3:=HB3.out
 have hb4:=HB4.out
 have up:∀ {k n:Nat},w.heap.size≤n→NewC (fun _=>False) w 0 k→Up w.heap.size k:=fun {k n} _ h=>by
  rcases h with h|h
  · exact h.1.elim
  · exact h
 have upn:∀ {wi:World} {k:Nat},w.heap.size≤wi.heap.size→NewC (fun _=>False) wi 0 k→Up w.heap.size k:=fun {wi k} hw h=>by
  rcases h with h|h
  · exact h.1.elim
  · exact Nat.le_trans hw h
 have s1:=hb1.size
 have s2:=hb2.size
 have s3:=hb3.size
 have s4:=hb4.size
 have n2:=zaZ (HN2.out.stays (Stays.of_below (hb3.trans (hb4.mono hb3.size)))) (A':=Up w.heap.size) (fun k h=>upn (by omega) h)
 have n4:=zaZ HN4.out (A':=Up w.heap.size) (fun k h=>upn (by omega) h)
 have r1:=(HR1.out.stays (A':=Up w.heap.size) ⟨Nat.le_refl _,fun b _ h=>⟨rfl,h⟩⟩).stays (Stays.of_below ((hb2.trans ((hb3.trans (hb4.mono hb3.size)).mono hb2.size))))
 have r3:=(HR3.out.stays (A':=Up w.heap.size) ⟨Nat.le_refl _,fun b _ h=>⟨rfl,by have h2:w2.heap.size≤b:=h;show w.heap.size≤b;omega⟩⟩).stays (Stays.of_below hb4)
 have hS:Stays (Up w.heap.size) (fun k=>Up w.heap.size k∧k≠w4.heap.size) w4 (w4.alloc (.cells #[.string ⟨#[108,99,111,112,121]⟩,.slice a1 2 c1,.int .u8 copyB.kind,.int .i64 copyB.num,.string copyB.name,.slice k3 copyB.kids.length k4,.string ⟨#[108,115,112,105,108,108]⟩,.slice a3 2 c3,.int .u8 spillB.kind,.int .i64 spillB.num,.string spillB.name,.slice k5 spillB.kids.length k6] 83)):=⟨hX.size,fun b hb h=>⟨hX.block b hb,h,by omega⟩⟩
 obtain ⟨e1,e2,e3,e4,e5⟩:=zaS (n2.stays hS)
 obtain ⟨f1,f2,f3,f4,f5⟩:=zaS (n4.stays hS)
 refine ⟨_,2,rfl,zoI (E:=PrcE) (x:=copyPrc) (y:=spillPrc) (zah w4 _) (by omega) rfl ⟨rfl,r1.stays hS,⟨e1,e2,e3,e4,e5⟩,by unfold maxLen;decide⟩ ⟨rfl,r3.stays hS,⟨f1,f2,f3,f4,f5⟩,by unfold maxLen;decide⟩,?_⟩
 exact hb1.trans ((hb2.trans ((hb3.trans ((hb4.trans (hX.mono hb4.size)).mono hb3.size)).mono hb2.size)).mono hb1.size)
end Go.Proofs.YtpobmoegmdhbpaaGreatDoor
namespace Go.Proofs.YtpobmoegmdhbpaaGreatDoor
theorem zdA:∀ l:List Nd,sizeL l.reverse=sizeL l
 | []=>rfl
 | n :: r=>by rw [List.reverse_cons,zaK,zdA r,sizeL,sizeL,sizeL];omega
theorem zcy:∀ l:List Nd,(∀ s ∈ l,sizeN (invN s)=sizeN s)→sizeL (invL l)=sizeL l
 | [],_=>by rw [invL]
 | n :: r,h=>by
   rw [invL,sizeL,sizeL,h n (List.mem_cons_self ..),zcy r (fun s hs=>h s (List.mem_cons_of_mem _ hs))]
theorem zbC (l:List Nd):sizeN (blockN l)=sizeL l+1:=by rw [blockN,zaO]
theorem zhc (l:List Nd):invN (blockN l)=.mk 57 0 ByteArray.empty (invL l).reverse:=by rw [blockN,nodeN,invN,invK];rfl
theorem zks {n:Nd} (h:CS n):sizeN (invN n)=sizeN n:=by
 induction h with
 | plus s e hs he h57 hz=>
   have:invN (plusN s e)=.mk 41 0 ByteArray.empty [vN s,e]:=by rw [plusN,nodeN,invN,invK];rfl
   rw [this,plusN,nodeN,sizeN,sizeN]
 | call p args hl=>
   have:invN (callN p args)=.mk 51 0 p (args.map vN):=by rw [callN,nodeN,invN,invK];rfl
   rw [this,zdz,sizeN,zfW]
 | cond a d l1 l2 h1 h2 n1 n2 i1 i2=>
   have:invN (nodeN 52 ByteArray.empty [a,blockN l1,blockN l2,d])=.mk 52 0 ByteArray.empty [d,invN (blockN l1),invN (blockN l2),a]:=by
    rw [nodeN,invN,invK];simp only [invL];rfl
   rw [this,zaO,sizeN,zhc,zhc]
   simp only [sizeL,sizeN,zdA,zbC]
   rw [zcy l1 i1,zcy l2 i2]
   omega
 | loc a c k k' s hk hs ha hc ka kc za zc=>
   have:invN (nodeN 54 headS [a,blockN [nodeN k s [vN headS]],c])=.mk 54 0 headS [c,.mk 57 0 ByteArray.empty [.mk k' 0 s [vN headS]],a]:=by
    rcases hk with ⟨rfl,rfl⟩|⟨rfl,rfl⟩
    · rw [nodeN,invN,invK];simp only [invL];rfl
    · rw [nodeN,invN,invK];simp only [invL];rfl
   rw [this]
   simp only [nodeN,blockN,sizeN,sizeL]
   omega
theorem zcf:∀ (ts:List Par) (n:Nd),sizeN (localsN ts n)≤sizeN n+4 * ts.length
 | [],n=>by simp [localsN]
 | t :: r,n=>by
   have h:=zcf r n
   have e:localsN (t :: r) n=locN t (localsN r n):=rfl
   rw [e,locN,zbC]
   split
   · simp only [sizeL,zaO,List.length_cons];omega
   · simp only [sizeL,zaO,zde,List.length_cons];omega
theorem zcW (g:AFn):sizeN (resultN g)≤3:=by
 rw [resultN]
 split
 · rw [zdz];simp
 · rw [zaO];simp only [sizeL,zdi];omega
theorem zlf {lib:List Fn} (g:AFn) (hg:GoodBs lib g.body) (hz:sizeBs g.body≤10000) (ht:g.temps.length≤4000):sizeN (procB g)≤1000000:=by
 have hcs:=zbY lib selfF (fun _=>by simp [selfF]) g.body hg hz
 have h1:=zbr selfF 0 (fun nm=>Nat.le_refl 0) g.body
 have h2:=zcy (bindsN selfF g.body) (fun s hs=>zks (hcs s hs))
 have h3:=zcf g.temps (blockN (bindsN selfF g.body ++ [resultN g] ++ (invL (bindsN selfF g.body)).reverse))
 have h4:=zcW g
 rw [zbC,zaK,zaK,zdA,h2] at h3
 simp only [sizeL] at h3
 unfold procB
 omega
end Go.Proofs.YtpobmoegmdhbpaaGreatDoor
namespace Go.Proofs.YtpobmoegmdhbpaaGreatDoor
open Go.RowKit
theorem TPrcK:RowT Tryz.prog 28 83 (.agg #[.string ByteArray.empty,.slice none 0 0,.int .u8 0,.int .i64 0,.string ByteArray.empty,.slice none 0 0]) 6 96:=⟨Tryz.underlying28,by kernel_rfl⟩
theorem zeR (kept:List ByteArray) (nm:ByteArray):(keptF kept nm).2.length≤1:=by unfold keptF;split <;> simp
theorem zjC (t:Par):sizeN (spillN t)≤3:=by
 unfold spillN
 split
 · rw [zdz];simp
 · rw [zaO];simp only [sizeL,zdi];omega
theorem zeZ:∀ ts:List Par,sizeL (ts.map spillN)≤3 * ts.length
 | []=>by simp [sizeL]
 | t :: r=>by have:=zeZ r;have:=zjC t;simp only [List.map_cons,sizeL,List.length_cons];omega
theorem ziT (g:AFn) (kept:List ByteArray) (hz:sizeBs g.body≤10000) (ht:g.temps.length≤4000):sizeN (procK g kept)≤1000000:=by
 have h1:=zbr (keptF kept) 1 (zeR kept) g.body
 have h3:=zcf g.temps (blockN (bindsN (keptF kept) g.body ++ [resultN g] ++ g.temps.map spillN))
 have h4:=zcW g
 have h5:=zeZ g.temps
 rw [zbC,zaK,zaK] at h3
 simp only [sizeL] at h3
 unfold procK
 omega
theorem zjE {lib:List Fn} (g:AFn) (kept:List ByteArray) (hg:GoodBs lib g.body) (hz:sizeBs g.body≤10000) (ht:g.temps.length≤4000):sizeN (procC g kept)≤1000000:=by
 have hcs:=zbY lib (keptF kept) (fun nm=>Nat.le_trans (zeR kept nm) (by omega)) g.body hg hz
 have h1:=zbr (keptF kept) 1 (zeR kept) g.body
 have h2:=zcy (bindsN (keptF kept) g.body) (fun s hs=>zks (hcs s hs))
 have h3:=zcf g.temps (blockN [nodeN 55 ⟨#[103]⟩ [blockN (cleanIn g kept)]])
 have h4:=zcW g
 have h5:sizeL (cleanIn g kept)=sizeL (bindsN (keptF kept) g.body)+sizeN (resultN g)+sizeL (bindsN (keptF kept) g.body):=by
  unfold cleanIn
  rw [zaK,zaK,zdA,h2]
  simp only [sizeL];omega
 rw [zbC,sizeL,sizeL,zaO,sizeL,sizeL,zbC,h5] at h3
 unfold procC
 omega
def cleanP (g:AFn) (B:Nd):Prc:=⟨g.name,paramsN g,B⟩
def keptP (g:AFn) (kept:List ByteArray):Prc:=⟨g.name ++ ⟨#[49]⟩,paramsK g,procK g kept⟩
def LimP (q:Prc):Prop:=q.params.length≤8∧depthN q.body≤80∧sizeN q.body≤2000
inductive MixR (lib:List Fn) (kept:List ByteArray):Nat→List Prc→Prop
 | zero:MixR lib kept 0 []
 | clean {k:Nat} {ps:List Prc} {B:Nd} (h:MixR lib kept k ps) (hB:B=procB (at' (normL lib) k)∨B=procC (at' (normL lib) k) kept) (hl:LimP (cleanP (at' (normL lib) k) B)) (hk:inB kept (at' (normL lib) k).name=false):MixR lib kept (k+1) (ps ++ [cleanP (at' (normL lib) k) B])
 | both {k:Nat} {ps:List Prc} {B:Nd} (h:MixR lib kept k ps) (hB:B=procB (at' (normL lib) k)∨B=procC (at' (normL lib) k) kept) (hl:LimP (cleanP (at' (normL lib) k) B)) (hk:inB kept (at' (normL lib) k).name=true) (hl2:LimP (keptP (at' (normL lib) k) kept)):MixR lib kept (k+1) (ps ++ [cleanP (at' (normL lib) k) B] ++ [keptP (at' (normL lib) k) kept])
def MixSt (lib:List Fn) (kept:List ByteArray) (w:World) (k:Nat) (v:Value) (wr:World):Prop:=∃ (L ps:List Prc) (a:Option Addr) (c:Nat),v=.slice a L.length c∧L=libPrcs ++ ps∧L.length≤2+2 * k∧MixR lib kept k ps∧RowsOwn PrcE 83 (Up w.heap.size) w.heap.size wr (.slice a L.length c) L∧Below w.heap.size w wr
theorem zkG {B n m q:Nat} {D:Nat→Prop} {w1:World} {a xa ya:Option Addr} {c xc yn yc:Nat} {L:List Prc} {pn:ByteArray} {Q:List Dcl} {b:Nd} (h:RowsOwn PrcE 83 D B w1 (.slice a m c) L) (ho:∀ k,(Value.slice a m c).ownBlock=some k→k < n) (hq:q=w1.heap.size) (hn1:n≤w1.heap.size) (hD:D w1.heap.size) (hs:pn.size≤maxLen) (hv:RowsAt DclE (fun k=>n≤k∧D k) w1 (.slice xa Q.length xc) Q) (hn:NdAt (fun k=>n≤k∧D k) w1 (.agg #[.int .u8 57,.int .i64 0,.string ⟨#[]⟩,.slice ya yn yc]) b):
 RowsOwn PrcE 83 D B (w1.alloc (.cells #[.string pn,.slice xa Q.length xc,.int .u8 57,.int .i64 0,.string ⟨#[]⟩,.slice ya yn yc] 83)) (.slice a m c) L∧RowsAt PrcE (fun k=>n≤k∧D k) (w1.alloc (.cells #[.string pn,.slice xa Q.length xc,.int .u8 57,.int .i64 0,.string ⟨#[]⟩,.slice ya yn yc] 83)) (.slice (some ⟨q,0,none⟩) 1 1) [⟨pn,Q,b⟩]∧
  ∀ k,k < (w1.alloc (.cells #[.string pn,.slice xa Q.length xc,.int .u8 57,.int .i64 0,.string ⟨#[]⟩,.slice ya yn yc] 83)).heap.size→(n≤k∧D k)→D k∧(Value.slice a m c).ownBlock≠some k:=by
 subst hq
 have hX:Below w1.heap.size w1 (w1.alloc (.cells #[.string pn,.slice xa Q.length xc,.int .u8 57,.int .i64 0,.string ⟨#[]⟩,.slice ya yn yc] 83)):=zaa (Below.refl _ _)
 obtain ⟨e1,e2,e3,e4,e5⟩:=zaS (hn.stays (Stays.of_below hX))
 exact ⟨h.below hX,zfp (E:=PrcE) (heap_alloc_new w1 _) ⟨hn1,hD⟩ rfl ⟨rfl,hv.stays (Stays.of_below hX),⟨e1,e2,e3,e4,e5⟩,hs⟩,fun k _ d=>⟨d.2,fun e=>by
  have h1:=ho k e
  have h2:=d.1
  omega⟩⟩
theorem RowsOwn.youngD {α:Type} [Inhabited α] {E:Elem α} {e:Nat} {D D':Nat→Prop} {b:Nat} {w:World} {v:Value} {l:List α} (h:RowsOwn E e D b w v l) (hD:∀ k,k < w.heap.size→D k→D' k):RowsOwn E e D' b w v l:=by
 obtain ⟨xs,hx,hf⟩:=h
 exact ⟨xs,hx,fun j hj=>E.stays ⟨Nat.le_refl _,fun b hb a=>⟨rfl,hD b hb a.1,a.2⟩⟩ (hf j hj)⟩
def MxPost (lib:List Fn) (kept:List ByteArray) (w:World) (e:Ending) (w':World):Prop:=Below w.heap.size w w'∧∃ (a:Option Addr) (n c:Nat) (b:Bool),e=.returned (.tuple #[.slice a n c,.bool b])∧(b=true→∃ ps,MixR lib kept lib.length ps∧n=(libPrcs ++ ps).length∧RowsAt PrcE Any w' (.slice a n c) (libPrcs ++ ps))
def FnsOkK (lib:List Fn):Prop:=∀ k,k < lib.length→GoodBs lib (at' (normL lib) k).body∧sizeBs (at' (normL lib) k).body≤10000∧(at' (normL lib) k).temps.length≤4000∧(at' (normL lib) k).params.length≤8∧(at' (normL lib) k).name.size≤1000
end Go.Proofs.YtpobmoegmdhbpaaGreatDoor
namespace Go.Proofs.YtpobmoegmdhbpaaGreatDoor
open Go.RowKit
theorem cells6q {w:World} {b e:Nat} {v0 v1 v2 v3 v4 v5:Value} (h:w.heap[b]?=some (.cells #[v0,v1,v2,v3,v4,v5] e (0,0))):w.cell? ⟨b,0,none⟩=some v0∧w.cell? ⟨b,1,none⟩=some v1∧w.cell? ⟨b,2,none⟩=some v2∧w.cell? ⟨b,3,none⟩=some v3∧w.cell? ⟨b,4,none⟩=some v4∧w.cell? ⟨b,5,none⟩=some v5:=
 ⟨zae h 0 rfl,zae h 1 rfl,zae h 2 rfl,zae h 3 rfl,zae h 4 rfl,zae h 5 rfl⟩
theorem znp (lib:List Fn) (kept:List ByteArray) (hgd:FnsOkK lib) (h8:lib.length≤8) (la ka:Option Addr) (lc kc:Nat) (w:World) (hl:AFnsAt Any w (.slice la lib.length lc) (normL lib)) (hk:StrsAt Any w (.slice ka kept.length kc) kept) (hks:∀ s ∈ kept,s.size≤140737488355328):
 Calls Tryz.prog 12 #[.slice la lib.length lc,.slice ka kept.length kc] w (MxPost lib kept w):=by
 have HNL:Hid ((normL lib).length=lib.length):=Lib.hid (by simp [normL])
 have HL:=Lib.hid hl
 have HKP:=Lib.hid hk
 have HGD:=Lib.hid hgd
 have HPR:=Lib.hid (zmc w)
 clear hl hk hgd
 go_enter Tryz.func12,Tryz.ntmps12
 go_wp2_with fail
 refine HPR.out.mono ?_
 rintro e w1 ⟨a1,c1,rfl,hr1,hb1⟩
 have HST:Hid (MixSt lib kept w 0 (.slice a1 2 c1) w1):=Lib.hid ⟨libPrcs,[],a1,c1,rfl,by simp,by simp [libPrcs],.zero,hr1,hb1⟩
 clear hr1 hb1 HPR
 go_wp2
 go_loopw [6,14] (fun v x wr=>∃ k:Nat,k≤lib.length∧x=.int .i64 k∧MixSt lib kept w k v wr) (fun _ x _=>lib.length - (intOf x).toNat)
 case atStart=>exact ⟨0,Nat.zero_le _,rfl,HST.out⟩
 case round=>
  obtain ⟨k,hkk,rfl,L,ps,a,c,rfl,hL,hLl,hmx,hown,hbw⟩:=hrel
  have HLE:=Lib.hid hL
  have HLL:=Lib.hid hLl
  have HMX:=Lib.hid hmx
  have HOWN:=Lib.hid hown
  have HBW:=Lib.hid hbw
  clear hL hLl hmx hown
  by_cases hlt:k < lib.length
  · have hlt2:k < (normL lib).length:=by rw [HNL.out];exact hlt
    obtain ⟨b,off,cap,qa,qc,ta,tc,ba,bc,he,hb,hcap,d0,d1,d2,d3,d4,d5,hps,htm,hbd,hsn,hsr⟩:=zna HL.out hlt2
    rw [HNL.out] at he
    simp only [Value.slice.injEq] at he
    obtain ⟨rfl,-,rfl⟩:=he
    have c0:=(hbw.cell (p:=⟨b,_,none⟩) hb).trans d0
    have c1:=(hbw.cell (p:=⟨b,_,none⟩) hb).trans d1
    have c2:=(hbw.cell (p:=⟨b,_,none⟩) hb).trans d2
    have c3:=(hbw.cell (p:=⟨b,_,none⟩) hb).trans d3
    have c4:=(hbw.cell (p:=⟨b,_,none⟩) hb).trans d4
    have c5:=(hbw.cell (p:=⟨b,_,none⟩) hb).trans d5
    have hgk:=HGD.out k hlt
    obtain ⟨g,hg⟩:∃ g,g=at' (normL lib) k:=⟨_,rfl⟩
    have HG:=Lib.hid hg
    rw [← hg] at c0 c1 c2 c3 c4 c5 hps htm hbd hsn hsr hgk
    have i0:(0:Int)≤(k:Int):=by omega
    have i1:(k:Int) < (lib.length:Int):=by omega
    have hls:lib.length - (k+1) < lib.length - k:=by omega
    have hA2:Below wr.heap.size wr (wr.alloc (.cells #[.string g.name,.slice qa g.params.length qc,.bool g.list,.slice ta g.temps.length tc,.slice ba g.body.length bc,.string g.result] 44)):=zaa (Below.refl _ _)
    have HX2:=Lib.hid (zah wr (.cells #[.string g.name,.slice qa g.params.length qc,.bool g.list,.slice ta g.temps.length tc,.slice ba g.body.length bc,.string g.result] 44))
    have hwr2:=hbw.trans (hA2.mono hbw.size)
    have HPC:=Lib.hid (znC g lib qa ta ba qc tc bc ka kc kept _ (hps.stays (Stays.of_below hwr2)) (htm.stays (Stays.of_below hwr2)) (hbd.stays (Stays.of_below hwr2)) hsr hgk.1 hgk.2.1 hgk.2.2.1 hgk.2.2.2.1 (zlf g hgk.1 hgk.2.1 hgk.2.2.1) (zjE g kept hgk.1 hgk.2.1 hgk.2.2.1) (HKP.out.stays (Stays.of_below hwr2)) hks)
    have HPK:Hid (∀ w',Below w.heap.size w w'→Calls Tryz.prog 34 #[.agg #[.string g.name,.slice qa g.params.length qc,.bool g.list,.slice ta g.temps.length tc,.slice ba g.body.length bc,.string g.result],.slice ka kept.length kc] w' (KPost g kept w')):=Lib.hid (fun w' h=>zlc g qa ta ba qc tc bc ka kc kept w' (hps.stays (Stays.of_below h)) (htm.stays (Stays.of_below h)) (hbd.stays (Stays.of_below h)) hsr (by have:=hgk.2.2.2.2;omega) hgk.2.1 hgk.2.2.1 hgk.2.2.2.1 (ziT g kept hgk.2.1 hgk.2.2.1) (HKP.out.stays (Stays.of_below h)) hks)
    obtain ⟨bI,hbI⟩:∃ bI,bI=inB kept g.name:=⟨_,rfl⟩
    have HIN:Hid (∀ w',Below w.heap.size w w'→Calls Tryz.prog 38 #[.slice ka kept.length kc,.string g.name] w' (fun e w2=>e=.returned (.bool bI)∧w'=w2)):=Lib.hid (fun w' h=>by rw [hbI];exact in41_any _ kept g.name Any w' (HKP.out.stays (Stays.of_below h)))
    have HBI:=Lib.hid hbI
    have HSN:=Lib.hid hsn
    have HN1:Hid ((g.name ++ (⟨#[49]⟩:ByteArray)).size≤maxLen):=Lib.hid (by have:=hgk.2.2.2.2;rw [ByteArray.size_append];unfold maxLen;show g.name.size+1≤_;omega)
    clear hps htm hbd hsn hsr hgk hbI hg hwr2 d0 d1 d2 d3 d4 d5
    go_wp2_with fail
    refine HPC.out.mono ?_
    rintro e w2 ⟨hb2,⟨er,her,rfl⟩|⟨B,xa,xc,ya,yn,yc,hB,l1,l2,l3,rfl,hv,hn⟩⟩
    · have e1:(er == 0)=false:=by simpa using her
      have HBF:Hid (Below w.heap.size w w2):=Lib.hid (HBW.out.trans ((hA2.trans (hb2.mono hA2.size)).mono HBW.out.size))
      clear her hb2 hA2 c0 c1 c2 c3 c4 c5
      go_wp2
      go_ret2
      exact ⟨zaa HBF.out,none,0,0,false,rfl,fun h=>by cases h⟩
    · have hB2:Below wr.heap.size wr w2:=hA2.trans (hb2.mono hA2.size)
      have hX3:Below w2.heap.size w2 (w2.alloc (.cells #[.string g.name,.slice xa (paramsN g).length xc,.int .u8 57,.int .i64 0,.string ⟨#[]⟩,.slice ya yn yc] 83)):=zaa (Below.refl _ _)
      have hX4:Below w2.heap.size w2 ((w2.alloc (.cells #[.string g.name,.slice xa (paramsN g).length xc,.int .u8 57,.int .i64 0,.string ⟨#[]⟩,.slice ya yn yc] 83)).alloc (.cells #[.string g.name,.slice xa (paramsN g).length xc,.int .u8 57,.int .i64 0,.string ⟨#[]⟩,.slice ya yn yc] 83)):=zaa hX3
      have hsz2:=hB2.size
      have hszw:=hbw.size
      have hz3:(w2.alloc (.cells #[.string g.name,.slice xa (paramsN g).length xc,.int .u8 57,.int .i64 0,.string ⟨#[]⟩,.slice ya yn yc] 83)).heap.size=w2.heap.size+1:=by simp
      have hz4:((w2.alloc (.cells #[.string g.name,.slice xa (paramsN g).length xc,.int .u8 57,.int .i64 0,.string ⟨#[]⟩,.slice ya yn yc] 83)).alloc (.cells #[.string g.name,.slice xa (paramsN g).length xc,.int .u8 57,.int .i64 0,.string ⟨#[]⟩,.slice ya yn yc] 83)).heap.size=w2.heap.size+2:=by simp
      have hwl:wr.heap.size < w2.heap.size:=by have:=hb2.size;simp at this;omega
      have HAA:Hid (_∧_∧_):=Lib.hid (zkG (B:=w.heap.size) (n:=wr.heap.size) (D:=fun k=>Up w.heap.size k∧k≠w2.heap.size) (w1:=w2.alloc (.cells #[.string g.name,.slice xa (paramsN g).length xc,.int .u8 57,.int .i64 0,.string ⟨#[]⟩,.slice ya yn yc] 83)) (q:=w2.heap.size+1) (Q:=paramsN g) (b:=B) (pn:=g.name) (xa:=xa) (xc:=xc) (ya:=ya) (yn:=yn) (yc:=yc)
       ((HOWN.out.youngD (D':=fun k=>Up w.heap.size k∧k≠w2.heap.size) (fun k hk hd=>⟨hd,by omega⟩)).below (hB2.trans (hX3.mono hsz2))) (fun k e=>(HOWN.out.lt e).2) hz3.symm (by omega) ⟨by unfold Up;omega,by omega⟩ HSN.out
       ((hv.stays (A':=fun k=>wr.heap.size≤k∧Up w.heap.size k∧k≠w2.heap.size) ⟨Nat.le_refl _,fun b hb a=>⟨rfl,by have a:(wr.alloc (.cells #[.string g.name,.slice qa g.params.length qc,.bool g.list,.slice ta g.temps.length tc,.slice ba g.body.length bc,.string g.result] 44)).heap.size≤b:=a;simp at a;exact ⟨by omega,by unfold Up;omega,by omega⟩⟩⟩).stays (Stays.of_below hX3))
       ((hn.stays (A':=fun k=>wr.heap.size≤k∧Up w.heap.size k∧k≠w2.heap.size) ⟨Nat.le_refl _,fun b hb a=>⟨rfl,by have a:(wr.alloc (.cells #[.string g.name,.slice qa g.params.length qc,.bool g.list,.slice ta g.temps.length tc,.slice ba g.body.length bc,.string g.result] 44)).heap.size≤b:=a;simp at a;exact ⟨by omega,by unfold Up;omega,by omega⟩⟩⟩).stays (Stays.of_below hX3)))
      have HX4:Hid (((w2.alloc (.cells #[.string g.name,.slice xa (paramsN g).length xc,.int .u8 57,.int .i64 0,.string ⟨#[]⟩,.slice ya yn yc] 83)).alloc (.cells #[.string g.name,.slice xa (paramsN g).length xc,.int .u8 57,.int .i64 0,.string ⟨#[]⟩,.slice ya yn yc] 83)).heap[wr.heap.size]?=some (.cells #[.string g.name,.slice qa g.params.length qc,.bool g.list,.slice ta g.temps.length tc,.slice ba g.body.length bc,.string g.result] 44)):=Lib.hid (zad hX4 (zad hb2 HX2.out))
      have HQ4:Hid (((w2.alloc (.cells #[.string g.name,.slice xa (paramsN g).length xc,.int .u8 57,.int .i64 0,.string ⟨#[]⟩,.slice ya yn yc] 83)).alloc (.cells #[.string g.name,.slice xa (paramsN g).length xc,.int .u8 57,.int .i64 0,.string ⟨#[]⟩,.slice ya yn yc] 83)).heap[w2.heap.size]?=some (.cells #[.string g.name,.slice xa (paramsN g).length xc,.int .u8 57,.int .i64 0,.string ⟨#[]⟩,.slice ya yn yc] 83)):=Lib.hid (zaI w2 _ _)
      have HB4:Hid (Below w.heap.size w ((w2.alloc (.cells #[.string g.name,.slice xa (paramsN g).length xc,.int .u8 57,.int .i64 0,.string ⟨#[]⟩,.slice ya yn yc] 83)).alloc (.cells #[.string g.name,.slice xa (paramsN g).length xc,.int .u8 57,.int .i64 0,.string ⟨#[]⟩,.slice ya yn yc] 83))):=Lib.hid (hbw.trans ((hB2.trans (hX4.mono hsz2)).mono hszw))
      have HOW:Hid (∀ j,(Value.slice a L.length c).ownBlock=some j→w.heap.size≤j∧j < wr.heap.size):=Lib.hid (fun j e=>HOWN.out.lt e)
      have HMC:Hid (∀ h:inB kept g.name=false,MixR lib kept (k+1) (ps ++ [cleanP g B])):=Lib.hid (fun h=>by have e:=HG.out;subst e;exact .clean HMX.out hB ⟨l1,l2,l3⟩ h)
      have HMB:Hid (∀ h:inB kept g.name=true,LimP (keptP g kept)→MixR lib kept (k+1) (ps ++ [cleanP g B] ++ [keptP g kept])):=Lib.hid (fun h h2=>by have e:=HG.out;subst e;exact .both HMX.out hB ⟨l1,l2,l3⟩ h h2)
      have HSW:Hid (w.heap.size≤w2.heap.size∧wr.heap.size < w2.heap.size∧((w2.alloc (.cells #[.string g.name,.slice xa (paramsN g).length xc,.int .u8 57,.int .i64 0,.string ⟨#[]⟩,.slice ya yn yc] 83)).alloc (.cells #[.string g.name,.slice xa (paramsN g).length xc,.int .u8 57,.int .i64 0,.string ⟨#[]⟩,.slice ya yn yc] 83)).heap.size=w2.heap.size+2∧w.heap.size≤wr.heap.size):=Lib.hid ⟨by omega,hwl,hz4,hszw⟩
      clear hv hn hB l1 l2 l3 hb2 hB2 hX3 hX4 hA2 hsz2 hszw hz3 hz4 hwl hbw c0 c1 c2 c3 c4 c5
      cases bI with
      | false=>
        go_wp2_with (first
         | (at_builtin;(refine zaF TPrcK rfl (by decide) rfl (.tmp 26) (.tmp 28) rfl rfl rfl HAA.out.1 HAA.out.2.1 HAA.out.2.2 (by have:=HLL.out;simp;unfold maxLen;omega) (by have:=HLL.out;simp;omega) HB4.out.size ?_;intro a7 c7 w7 h7 hg7 hn7;have e7:=(hg7.block wr.heap.size (by have:=HSW.out;omega) (fun e=>by have:=(HOW.out _ e.symm).2;omega)).trans HX4.out;obtain ⟨f0,f1,f2,f3,f4,f5⟩:=cells6q e7;have HR7:=Lib.hid h7;have HB7:=Lib.hid (HB4.out.grown hg7 HB4.out.size (fun j e=>(HOW.out j e).1));clear h7 hg7 hn7 e7))
         | (go_at_call 38;refine (HIN.out _ HB7.out).mono ?_;rintro e w8 ⟨rfl,rfl⟩))
        go_roundw
        case rel=>exact ⟨k+1,by omega,by go_num,L ++ [cleanP g B],ps ++ [cleanP g B],a7,c7,by simp,by rw [HLE.out,List.append_assoc],by have:=HLL.out;simp;omega,HMC.out HBI.out.symm,by
         have h:=HR7.out.mono (D':=Up w.heap.size) (fun k h=>h.1)
         have e:(L ++ [cleanP g B]).length=L.length+1:=by simp
         rw [e];exact h,HB7.out⟩
        case measure=>simp [intOf];omega
      | true=>
        go_wp2_with (first
         | (at_builtin;refine zaF TPrcK rfl (by decide) rfl (.tmp 26) (.tmp 28) rfl rfl rfl HAA.out.1 HAA.out.2.1 HAA.out.2.2 (by have:=HLL.out;simp;unfold maxLen;omega) (by have:=HLL.out;simp;omega) HB4.out.size ?_;intro a7 c7 w7 h7 hg7 hn7;have e7:=(hg7.block wr.heap.size (by have:=HSW.out;omega) (fun e=>by have:=(HOW.out _ e.symm).2;omega)).trans HX4.out;have HQ7:=Lib.hid ((hg7.block w2.heap.size (by have:=HSW.out;omega) (fun e=>by have:=(HOW.out _ e.symm).2;have:=HSW.out;omega)).trans HQ4.out);obtain ⟨f0,f1,f2,f3,f4,f5⟩:=cells6q e7;have HR7:=Lib.hid h7;have HN7:=Lib.hid hn7;have HZ7:=Lib.hid hg7.size;have HB7:=Lib.hid (HB4.out.grown hg7 HB4.out.size (fun j e=>(HOW.out j e).1));clear h7 hg7 hn7 e7)
         | (go_at_call 38;refine (HIN.out _ HB7.out).mono ?_;rintro e w8 ⟨rfl,rfl⟩))
        refine (HPK.out _ HB7.out).mono ?_
        rintro e w8 ⟨xb,xd,yb,yn2,yd,he,hv8,hn8,hb8⟩
        have HB8:Hid (Below w.heap.size w w8):=Lib.hid (HB7.out.trans (hb8.mono HB7.out.size))
        have HQ8:=Lib.hid (zad hb8 HQ7.out)
        have HR8:=Lib.hid (HR7.out.below hb8)
        have HOQ:Hid (∀ j,(Value.slice a7 (L.length+1) c7).ownBlock=some j→j≠w2.heap.size∧j < w7.heap.size):=Lib.hid (fun j e=>⟨fun e2=>by
         rcases HN7.out j e with h|h
         · have:=(HOW.out j h).2;have:=HSW.out;omega
         · have:=HSW.out;omega,(HR7.out.lt e).2⟩)
        have HV8:=Lib.hid hv8
        have HN8:=Lib.hid hn8
        have HZ8:=Lib.hid hb8.size
        obtain ⟨z0,z1,z2,z3,z4,z5⟩:=cells6q HQ8.out
        have zf:=unfrozen HQ8.out
        clear hv8 hn8 hb8 f0 f1 f2 f3 f4 f5 HAA HX4 HQ4 HB4 HPC HPK HIN
        by_cases hL0:limE (paramsK g).length (procK g kept)=0
        · rw [if_pos hL0,hL0] at he
          subst he
          have HMK:=Lib.hid (HMB.out HBI.out.symm (znm hL0))
          clear hL0
          have hK:=zbU w8 w2.heap.size (.string (g.name ++ ⟨#[49]⟩)) (.slice xb (paramsK g).length xd) (.int .u8 57) (.int .i64 0) (.string ⟨#[]⟩) (.slice yb yn2 yd)
          have hks:(((((((w8.setCell ⟨w2.heap.size,0,none⟩ (.string (g.name ++ ⟨#[49]⟩))).setCell ⟨w2.heap.size,1,none⟩ (.slice xb (paramsK g).length xd)).setCell ⟨w2.heap.size,2,none⟩ (.int .u8 57)).setCell ⟨w2.heap.size,3,none⟩ (.int .i64 0)).setCell ⟨w2.heap.size,4,none⟩ (.string ⟨#[]⟩)).setCell ⟨w2.heap.size,5,none⟩ (.slice yb yn2 yd))).heap.size=w8.heap.size:=by simp
          have hst:Stays (Up w7.heap.size) (fun k=>w7.heap.size≤k∧Up w.heap.size k∧k≠w2.heap.size) w8 ((((((w8.setCell ⟨w2.heap.size,0,none⟩ (.string (g.name ++ ⟨#[49]⟩))).setCell ⟨w2.heap.size,1,none⟩ (.slice xb (paramsK g).length xd)).setCell ⟨w2.heap.size,2,none⟩ (.int .u8 57)).setCell ⟨w2.heap.size,3,none⟩ (.int .i64 0)).setCell ⟨w2.heap.size,4,none⟩ (.string ⟨#[]⟩)).setCell ⟨w2.heap.size,5,none⟩ (.slice yb yn2 yd)):=⟨hK.size,fun b hb a=>by
           have a:w7.heap.size≤b:=a
           have h1:=HSW.out
           have h2:=HZ7.out
           exact ⟨hK.block b hb (by omega),a,by unfold Up;omega,by omega⟩⟩
          have HAA2:Hid (_∧_∧_):=Lib.hid (zkG (B:=w.heap.size) (n:=w7.heap.size) (D:=fun k=>Up w.heap.size k∧k≠w2.heap.size) (w1:=((((((w8.setCell ⟨w2.heap.size,0,none⟩ (.string (g.name ++ ⟨#[49]⟩))).setCell ⟨w2.heap.size,1,none⟩ (.slice xb (paramsK g).length xd)).setCell ⟨w2.heap.size,2,none⟩ (.int .u8 57)).setCell ⟨w2.heap.size,3,none⟩ (.int .i64 0)).setCell ⟨w2.heap.size,4,none⟩ (.string ⟨#[]⟩)).setCell ⟨w2.heap.size,5,none⟩ (.slice yb yn2 yd))) (q:=w8.heap.size) (Q:=paramsK g) (b:=procK g kept) (pn:=g.name ++ ⟨#[49]⟩) (xa:=xb) (xc:=xd) (ya:=yb) (yn:=yn2) (yc:=yd) (m:=L.length+1)
           (HR8.out.keeps hK (fun k e e2=>(HOQ.out k e).1 e2) (fun k _ hd e2=>hd.2 e2)) (fun k e=>(HOQ.out k e).2) hks.symm (by rw [hks];exact HZ8.out) (by rw [hks];have h1:=HSW.out;have h2:=HZ7.out;have h3:=HZ8.out;exact ⟨by unfold Up;omega,by omega⟩) HN1.out (HV8.out.stays hst) (HN8.out.stays hst))
          have HBS:Hid (Below w.heap.size w ((((((((w8.setCell ⟨w2.heap.size,0,none⟩ (.string (g.name ++ ⟨#[49]⟩))).setCell ⟨w2.heap.size,1,none⟩ (.slice xb (paramsK g).length xd)).setCell ⟨w2.heap.size,2,none⟩ (.int .u8 57)).setCell ⟨w2.heap.size,3,none⟩ (.int .i64 0)).setCell ⟨w2.heap.size,4,none⟩ (.string ⟨#[]⟩)).setCell ⟨w2.heap.size,5,none⟩ (.slice yb yn2 yd))).alloc (.cells #[.string (g.name ++ ⟨#[49]⟩),.slice xb (paramsK g).length xd,.int .u8 57,.int .i64 0,.string ⟨#[]⟩,.slice yb yn2 yd] 83))):=Lib.hid (zaa (zau HB8.out HSW.out.1))
          have HS9:=Lib.hid (set6 HQ8.out (.string (g.name ++ ⟨#[49]⟩)) (.slice xb (paramsK g).length xd) (.int .u8 57) (.int .i64 0) (.string ⟨#[]⟩) (.slice yb yn2 yd))
          clear hK hks hst
          go_wp2_with (at_builtin;refine zaF TPrcK rfl (by decide) rfl (.tmp 43) (.tmp 45) rfl rfl rfl HAA2.out.1 HAA2.out.2.1 HAA2.out.2.2 (by have:=HLL.out;simp;unfold maxLen;omega) (by have:=HLL.out;simp;omega) HBS.out.size ?_;intro a9 c9 w9 h9 hg9 hn9;have HR9:=Lib.hid h9;have HB9:=Lib.hid (HBS.out.grown hg9 HBS.out.size (fun j e=>(HR7.out.lt e).1));clear h9 hg9 hn9)
          go_roundw
          case rel=>exact ⟨k+1,by omega,by go_num,L ++ [cleanP g B] ++ [keptP g kept],ps ++ [cleanP g B] ++ [keptP g kept],a9,c9,by simp,by rw [HLE.out];simp,by have:=HLL.out;simp;omega,HMK.out,by
           have h:=HR9.out.mono (D':=Up w.heap.size) (fun k h=>h.1)
           have e:(L ++ [cleanP g B] ++ [keptP g kept]).length=(L ++ [cleanP g B]).length+[keptP g kept].length:=List.length_append
           rw [e];exact h,HB9.out⟩
          case measure=>simp [intOf];omega
        · rw [if_neg hL0] at he
          subst he
          have e1:(limE (paramsK g).length (procK g kept) == 0)=false:=by simpa using hL0
          clear hL0
          go_wp2
          go_ret2
          exact ⟨zau HB8.out HSW.out.1,none,0,0,false,rfl,fun h=>by cases h⟩
  · obtain rfl:k=lib.length:=by omega
    have hlt':¬ (lib.length:Int) < (lib.length:Int):=by omega
    have HFN:Hid (MxPost lib kept w (.returned (.tuple #[.slice a L.length c,.bool true])) wr):=Lib.hid ⟨HBW.out,a,L.length,c,true,rfl,fun _=>⟨ps,HMX.out,by rw [HLE.out],by rw [← HLE.out];exact HOWN.out.shut (fun _ _=>trivial) (fun _ _=>trivial) (by have:=HLL.out;unfold maxLen;omega)⟩⟩
    go_wp2
    go_ret2
    exact HFN.out
end Go.Proofs.YtpobmoegmdhbpaaGreatDoor
