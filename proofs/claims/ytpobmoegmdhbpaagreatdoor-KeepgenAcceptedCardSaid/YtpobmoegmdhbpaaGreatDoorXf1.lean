/- Contracts and plain lemmas (CfA, CfB, CfC, CfD): no statement of the seat is proved here. -/
import Derived.Test.YtpobmoegmdhbpaaGreatDoorXq12
import Derived.Test.YtpobmoegmdhbpaaGreatDoorXq15
import Derived.Test.YtpobmoegmdhbpaaGreatDoorXa1
import Derived.Test.YtpobmoegmdhbpaaGreatDoorXq27
import Derived.Test.YtpobmoegmdhbpaaGreatDoorXs2
set_option linter.unusedSimpArgs false
set_option linter.unusedVariables false
set_option linter.unusedSectionVars false
set_option maxRecDepth 100000
set_option maxHeartbeats 3200000
namespace Go.Proofs.YtpobmoegmdhbpaaGreatDoor
open Go.RowKit
def FoldC (c:Nat→Value) (b:Bool):Prop:=∃ k num s ka kl kc x,c 0=.int .u8 k∧c 1=.int .i64 num∧c 2=.string s∧c 3=.slice ka kl kc∧c 4=.int .i64 x∧c 5=.bool b
def FoldE:Elem Bool where
 size:=6
 C:=fun _ _ c b=>FoldC c b
 stays:=fun _ _ _ h=>h
 congr:=fun h e=>by
  obtain ⟨k,num,s,ka,kl,kc,x,h0,h1,h2,h3,h4,h5⟩:=h
  exact ⟨k,num,s,ka,kl,kc,x,(e 0 (by omega)).trans h0,(e 1 (by omega)).trans h1,(e 2 (by omega)).trans h2,(e 3 (by omega)).trans h3,(e 4 (by omega)).trans h4,(e 5 (by omega)).trans h5⟩
 one:=fun h i hi=>by
  obtain ⟨k,num,s,ka,kl,kc,x,h0,h1,h2,h3,h4,h5⟩:=h
  match i,hi with
  | 0,_=>rw [h0];rfl
  | 1,_=>rw [h1];rfl
  | 2,_=>rw [h2];rfl
  | 3,_=>rw [h3];rfl
  | 4,_=>rw [h4];rfl
  | 5,_=>rw [h5];rfl
def ShC (c:Nat→Value):Prop:=∃ k num s ka kl kc,c 0=.int .u8 k∧c 1=.int .i64 num∧c 2=.string s∧c 3=.slice ka kl kc
def ShE:Elem Unit where
 size:=4
 C:=fun _ _ c _=>ShC c
 stays:=fun _ _ _ h=>h
 congr:=fun h e=>by
  obtain ⟨k,num,s,ka,kl,kc,h0,h1,h2,h3⟩:=h
  exact ⟨k,num,s,ka,kl,kc,(e 0 (by omega)).trans h0,(e 1 (by omega)).trans h1,(e 2 (by omega)).trans h2,(e 3 (by omega)).trans h3⟩
 one:=fun h i hi=>by
  obtain ⟨k,num,s,ka,kl,kc,h0,h1,h2,h3⟩:=h
  match i,hi with
  | 0,_=>rw [h0];rfl
  | 1,_=>rw [h1];rfl
  | 2,_=>rw [h2];rfl
  | 3,_=>rw [h3];rfl
theorem TFold:RowT Tryz.prog 313 297 (.agg #[.int .u8 0,.int .i64 0,.string ByteArray.empty,.slice none 0 0,.int .i64 0,.bool false]) 6 72:=⟨Tryz.underlying313,by kernel_rfl⟩
def FoldR (b:Bool) (w:World) (e:Ending) (w':World):Prop:=∃ k num s ka kl kc x,e=.returned (.agg #[.int .u8 k,.int .i64 num,.string s,.slice ka kl kc,.int .i64 x,.bool b])∧Below w.heap.size w w'
theorem zlj (l:List Nd) (bs:List Bool) (hbs:bs.length=l.length) (h10:l.length≤1000) (F:Nat) (hE:Enters F) (hF:∀ j v A w',j < l.length→NdAt A w' v (at' l j)→Calls Tryz.prog F #[v] w' (FoldR (at' bs j) w')) (ka:Option Addr) (kc:Nat) (A:Nat→Prop) (w:World) (hl:KidsAt A w (.slice ka l.length kc) l):
 Calls Tryz.prog 265 #[.slice ka l.length kc,.func (.func F) #[] #[]] w fun e w'=>∃ a c,e=.returned (.slice a l.length c)∧RowsAt FoldE (Up w.heap.size) w' (.slice a l.length c) bs∧Below w.heap.size w w':=by
 have HL:=Lib.hid hl
 have HF:=Lib.hid hF
 have HBS:=Lib.hid hbs
 unfold Enters at hE
 clear hl hF hbs
 go_enter Tryz.func265,Tryz.ntmps265
 go_wp2
 go_loopw [10,5] (fun i v wr=>∃ k:Nat,i=.int .i64 k∧k≤l.length∧Below w.heap.size w wr∧RowsOwn FoldE 297 (Up w.heap.size) w.heap.size wr v (bs.take k)) (fun i _ _=>l.length - (intOf i).toNat)
 case atStart=>exact ⟨0,rfl,Nat.zero_le _,Below.refl _ _,by rw [List.take_zero];exact RowsOwn.nil _ _ _ _ _⟩
 case round=>
  obtain ⟨k,rfl,hk,hbl,hown⟩:=hrel
  have hlk:(bs.take k).length=k:=by have:=HBS.out;simp;omega
  obtain ⟨va,vc,hv⟩:=hown.form
  rw [hlk] at hv
  subst hv
  have HOWN:=Lib.hid hown
  have HLK:=Lib.hid hlk
  have HBL:=Lib.hid hbl
  clear hown hlk
  by_cases hlt:k < l.length
  · obtain ⟨b,off,cap,kb,kd,he,hb,_,_,c0,c1,c2,c3,hnd⟩:=(HL.out.stays (Stays.of_below hbl)).at hlt
    simp only [Value.slice.injEq] at he
    obtain ⟨rfl,-,rfl⟩:=he
    have i0:(0:Int)≤(k:Int):=by omega
    have i1:(k:Int) < (l.length:Int):=by omega
    have HTK:Hid (bs.take (k+1)=bs.take k ++ [at' bs k]):=Lib.hid (by
     have hkb:k < bs.length:=by have:=HBS.out;omega
     rw [List.take_add_one,List.getElem?_eq_getElem hkb,zax hkb];rfl)
    have hA2:Below wr.heap.size wr (wr.alloc (.cells #[.int .u8 (at' l k).kind,.int .i64 (at' l k).num,.string (at' l k).name,.slice kb (at' l k).kids.length kd] 34)):=zaa (Below.refl _ _)
    have HC:=Lib.hid (HF.out k _ A _ hlt (hnd.stays (Stays.of_below hA2)))
    have HA2:=Lib.hid hA2
    clear hnd hA2 hbl
    go_wp2_with fail
    refine HC.out.mono ?_
    rintro e w1 ⟨k1,n1,s1,a1,l1,q1,x1,rfl,hb1⟩
    have hB1:Below wr.heap.size wr w1:=HA2.out.trans (hb1.mono HA2.out.size)
    have hBa:Below w1.heap.size w1 (w1.alloc (.cells #[.int .u8 k1,.int .i64 n1,.string s1,.slice a1 l1 q1,.int .i64 x1,.bool (at' bs k)] 297)):=zaa (Below.refl _ _)
    have HK1:=Lib.hid (zfp (E:=FoldE) (A:=fun j=>j=w1.heap.size) (x:=at' bs k) (heap_alloc_new w1 (.cells #[.int .u8 k1,.int .i64 n1,.string s1,.slice a1 l1 q1,.int .i64 x1,.bool (at' bs k)] 297)) rfl rfl ⟨k1,n1,s1,a1,l1,q1,x1,rfl,rfl,rfl,rfl,rfl,rfl⟩)
    have HO1:=Lib.hid ((HOWN.out.below hB1).below hBa)
    have hbl:=HBL.out
    have HD:Hid (∀ b,b < (w1.alloc (.cells #[.int .u8 k1,.int .i64 n1,.string s1,.slice a1 l1 q1,.int .i64 x1,.bool (at' bs k)] 297)).heap.size→b=w1.heap.size→Up w.heap.size b∧(Value.slice va k vc).ownBlock≠some b):=Lib.hid (fun b _ e=>⟨by have:=hbl.size;have:=hB1.size;unfold Up;omega,fun e2=>by have:=(HOWN.out.lt e2).2;have:=hB1.size;omega⟩)
    have hbase:w.heap.size≤(w1.alloc (.cells #[.int .u8 k1,.int .i64 n1,.string s1,.slice a1 l1 q1,.int .i64 x1,.bool (at' bs k)] 297)).heap.size:=Nat.le_trans hbl.size (Nat.le_trans hB1.size hBa.size)
    have HB1:=Lib.hid hB1
    have HBA:=Lib.hid hBa
    clear hB1 hBa hb1 hbl HC
    go_wp2_with (at_builtin;refine zaF TFold rfl (by decide) rfl (.tmp 14) (.tmp 18) rfl rfl rfl HO1.out HK1.out HD.out (by rw [HLK.out];unfold maxLen;simp;omega) (by rw [HLK.out];simp;omega) hbase ?_;intro a' c' w3 h3 hg3 hn3;have H3:=Lib.hid h3;have HG3:Hid (World.grownBy _ w3 (Value.slice va k vc).ownBlock):=Lib.hid hg3;clear h3 hg3 hn3)
    refine ⟨⟨k+1,by go_num,by omega,?_,by have hmin:min k bs.length=k:=(by have:=HBS.out;omega);rw [HTK.out,hmin];have h3:=H3.out;rw [HLK.out] at h3;exact h3⟩,by simp [intOf];omega⟩
    exact ((HBL.out.trans ((HB1.out.trans (HBA.out.mono HB1.out.size)).mono HBL.out.size))).grown HG3.out hbase (fun j e=>(HOWN.out.lt e).1)
  · obtain rfl:k=l.length:=by omega
    have hlt':¬ (l.length:Int) < (l.length:Int):=by omega
    clear hbl
    go_wp2
    go_ret
    have h3:=HOWN.out
    rw [← HBS.out,List.take_length] at h3
    rw [HBS.out] at h3
    exact ⟨va,vc,rfl,h3.shut (fun j a=>a) (fun j e=>(h3.lt e).1) (by have:=HBS.out;unfold maxLen;omega),HBL.out⟩
theorem zll (k num:Int) (s:ByteArray) (ka:Option Addr) (kl kc:Nat) (x:Int) (b:Bool) (w:World):
 Calls Tryz.prog 269 #[.agg #[.int .u8 k,.int .i64 num,.string s,.slice ka kl kc,.int .i64 x,.bool b]] w fun e w'=>e=.returned (.agg #[.int .u8 k,.int .i64 num,.string s,.slice ka kl kc])∧Below w.heap.size w w':=by
 go_enter Tryz.func269,Tryz.ntmps269
 go_wp2
 go_returns
 exact ⟨rfl,zaa (zaa (Below.refl _ _))⟩
theorem zhR (x:Int) (hx:0≤x) (w:World):
 Calls Tryz.prog 267 #[.int .i64 x] w fun e w'=>e=.returned (.agg #[.int .u8 1,.int .i64 x,.string ⟨#[]⟩,.slice none 0 0])∧Below w.heap.size w w':=by
 go_enter Tryz.func267,Tryz.ntmps267
 go_wp2
 go_returns
 exact ⟨rfl,zaa (Below.refl _ _)⟩
end Go.Proofs.YtpobmoegmdhbpaaGreatDoor
namespace Go.Proofs.YtpobmoegmdhbpaaGreatDoor
open Go.RowKit
def RowOut (n:Nat) (w:World) (e:Ending) (w':World):Prop:=∃ a c,e=.returned (.slice a n c)∧Below w.heap.size w w'
theorem zkR (bs:List Bool) (h10:bs.length≤1000) (ka:Option Addr) (kc:Nat) (A:Nat→Prop) (w:World) (hl:RowsAt FoldE A w (.slice ka bs.length kc) bs):
 Calls Tryz.prog 268 #[.slice ka bs.length kc,.func (.func 269) #[] #[]] w (RowOut bs.length w):=by
 have HL:=Lib.hid hl
 have hE:Enters 269:=fun args w=>by kernel_rfl
 clear hl
 go_enter Tryz.func268,Tryz.ntmps268
 go_wp2
 go_loopw [10,5] (fun i v wr=>∃ k:Nat,i=.int .i64 k∧k≤bs.length∧Below w.heap.size w wr∧RowsOwn ShE 34 (Up w.heap.size) w.heap.size wr v (List.replicate k ())) (fun i _ _=>bs.length - (intOf i).toNat)
 case atStart=>exact ⟨0,rfl,Nat.zero_le _,Below.refl _ _,RowsOwn.nil _ _ _ _ _⟩
 case round=>
  obtain ⟨k,rfl,hk,hbl,hown⟩:=hrel
  have hlk:(List.replicate k ()).length=k:=by simp
  obtain ⟨va,vc,hv⟩:=hown.form
  rw [hlk] at hv
  subst hv
  have HOWN:=Lib.hid hown
  have HLK:=Lib.hid hlk
  have HBL:=Lib.hid hbl
  clear hown hlk
  by_cases hlt:k < bs.length
  · obtain ⟨b,off,cap,cs,he,hb,_,_,hc,k1,n1,s1,a1,l1,q1,x1,e0,e1,e2,e3,e4,e5⟩:=(HL.out.stays (Stays.of_below hbl)).at hlt
    simp only [Value.slice.injEq] at he
    obtain ⟨rfl,-,rfl⟩:=he
    have c0:=(hc 0 (by decide)).trans (congrArg some e0)
    have c1:=(hc 1 (by decide)).trans (congrArg some e1)
    have c2:=(hc 2 (by decide)).trans (congrArg some e2)
    have c3:=(hc 3 (by decide)).trans (congrArg some e3)
    have c4:=(hc 4 (by decide)).trans (congrArg some e4)
    have c5:=(hc 5 (by decide)).trans (congrArg some e5)
    have i0:(0:Int)≤(k:Int):=by omega
    have i1:(k:Int) < (bs.length:Int):=by omega
    have hA2:Below wr.heap.size wr (wr.alloc (.cells #[.int .u8 k1,.int .i64 n1,.string s1,.slice a1 l1 q1,.int .i64 x1,.bool (at' bs k)] 297)):=zaa (Below.refl _ _)
    have HA2:=Lib.hid hA2
    clear hA2 hbl hc e0 e1 e2 e3 e4 e5
    simp only [show FoldE.size=6 from rfl,Nat.add_zero] at c0 c1 c2 c3 c4 c5
    have HRP:Hid (List.replicate (k+1) ()=List.replicate k () ++ [()]):=Lib.hid (by rw [List.replicate_succ'])
    have HSZ:Hid (∀ w1,Below wr.heap.size wr w1→w.heap.size≤w1.heap.size∧∀ b,b=w1.heap.size→(Value.slice va k vc).ownBlock≠some b):=Lib.hid (fun w1 h=>⟨Nat.le_trans HBL.out.size h.size,fun b e e2=>by have:=(HOWN.out.lt e2).2;have:=h.size;omega⟩)
    go_wp2_with (first
     | (go_at_call 269;refine (zll _ _ _ _ _ _ _ _ _).mono ?_;rintro e w1 ⟨rfl,hb1⟩;have HB1:=Lib.hid (HA2.out.trans (hb1.mono HA2.out.size));clear hb1)
     | (at_builtin;refine zaF TNd rfl (by decide) rfl (.tmp 14) (.tmp 18) rfl rfl rfl ((HOWN.out.below HB1.out).below (zaa (Below.refl _ _))) (zfp (E:=ShE) (A:=fun j=>j=w1.heap.size) (x:=()) (heap_alloc_new w1 (.cells #[.int .u8 k1,.int .i64 n1,.string s1,.slice a1 l1 q1] 34)) rfl rfl ⟨k1,n1,s1,a1,l1,q1,rfl,rfl,rfl,rfl⟩) (fun b _ e=>⟨by have:=(HSZ.out w1 HB1.out).1;unfold Up;omega,(HSZ.out w1 HB1.out).2 b e⟩) (by rw [HLK.out];unfold maxLen;simp;omega) (by rw [HLK.out];simp;omega) (by have:=(HSZ.out w1 HB1.out).1;simp;omega) ?_;intro a' c' w3 h3 hg3 hn3;have H3:=Lib.hid h3;have HG3:Hid (World.grownBy _ w3 (Value.slice va k vc).ownBlock):=Lib.hid hg3;clear h3 hg3 hn3))
    refine ⟨⟨k+1,by go_num,by omega,?_,by rw [HRP.out];have h3:=H3.out;rw [HLK.out] at h3;exact h3⟩,by simp [intOf];omega⟩
    have hBa:Below w1.heap.size w1 (w1.alloc (.cells #[.int .u8 k1,.int .i64 n1,.string s1,.slice a1 l1 q1] 34)):=zaa (Below.refl _ _)
    exact ((HBL.out.trans ((HB1.out.trans (hBa.mono HB1.out.size)).mono HBL.out.size))).grown HG3.out (by have:=(HSZ.out w1 HB1.out).1;simp;omega) (fun j e=>(HOWN.out.lt e).1)
  · obtain rfl:k=bs.length:=by omega
    have hlt':¬ (bs.length:Int) < (bs.length:Int):=by omega
    clear hbl
    go_wp2
    go_ret
    exact ⟨va,vc,rfl,HBL.out⟩
end Go.Proofs.YtpobmoegmdhbpaaGreatDoor
namespace Go.Proofs.YtpobmoegmdhbpaaGreatDoor
open Go.RowKit
def ValR (x:Int) (b:Bool) (w:World) (e:Ending) (w':World):Prop:=e=.returned (.tuple #[.int .i64 x,.bool b])∧Below w.heap.size w w'
theorem zjX (num:Int) (s:ByteArray) (ka:Option Addr) (kn kc:Nat) (ja:Option Addr) (jc:Nat) (w:World):
 Calls Tryz.prog 266 #[.agg #[.int .u8 1,.int .i64 num,.string s,.slice ka kn kc],.slice ja 0 jc] w (ValR num true w):=by
 have hX:=zah w (.cells #[.int .u8 1,.int .i64 num,.string s,.slice ka kn kc] 34)
 obtain ⟨n0,n1,n2,n3⟩:=cells4 hX
 clear hX
 go_enter Tryz.func266,Tryz.ntmps266
 go_wp2
 go_loopw [12] (fun i wr=>i=.int .i64 0∧wr=w.alloc (.cells #[.int .u8 1,.int .i64 num,.string s,.slice ka kn kc] 34)) (fun i _=>0)
 case atStart=>exact ⟨rfl,rfl⟩
 case round=>
  obtain ⟨rfl,rfl⟩:=hrel
  go_wp2
  go_ret2
  exact ⟨rfl,zaa (Below.refl _ _)⟩
theorem zjM (k:Int) (hk:k=2∨k=4∨k=5) (num:Int) (s:ByteArray) (ka:Option Addr) (kn kc:Nat) (ja:Option Addr) (jc:Nat) (w:World):
 Calls Tryz.prog 266 #[.agg #[.int .u8 k,.int .i64 num,.string s,.slice ka kn kc],.slice ja 0 jc] w (ValR 0 false w):=by
 have e1:(k == 1)=false:=by simp;omega
 have e:(k == 2)=true∨((k == 2)=false∧(k == 3)=false∧(k == 4)=true)∨((k == 2)=false∧(k == 3)=false∧(k == 4)=false∧(k == 5)=true):=by
  rcases hk with rfl|rfl|rfl <;> simp
 have hX:=zah w (.cells #[.int .u8 k,.int .i64 num,.string s,.slice ka kn kc] 34)
 obtain ⟨n0,n1,n2,n3⟩:=cells4 hX
 clear hX hk
 rcases e with e2|⟨e2,e3,e4⟩|⟨e2,e3,e4,e5⟩
 all_goals
  go_enter Tryz.func266,Tryz.ntmps266
  go_wp2
  go_loopw [12] (fun i wr=>i=.int .i64 0∧wr=w.alloc (.cells #[.int .u8 k,.int .i64 num,.string s,.slice ka kn kc] 34)) (fun i _=>0)
  case atStart=>exact ⟨rfl,rfl⟩
  case round=>
   obtain ⟨rfl,rfl⟩:=hrel
   go_wp2
   go_ret2
   exact ⟨rfl,zaa (Below.refl _ _)⟩
theorem zki (k num:Int) (s:ByteArray) (ka:Option Addr) (kn kc:Nat) (ja:Option Addr) (jc:Nat) (b:Bool) (A:Nat→Prop) (w:World) (hr:RowsAt FoldE A w (.slice ja 2 jc) [false,b]):
 Calls Tryz.prog 266 #[.agg #[.int .u8 k,.int .i64 num,.string s,.slice ka kn kc],.slice ja 2 jc] w (ValR 0 false w):=by
 have hA:Below w.heap.size w (w.alloc (.cells #[.int .u8 k,.int .i64 num,.string s,.slice ka kn kc] 34)):=zaa (Below.refl _ _)
 obtain ⟨q,off,cap,cs,he,hb,_,_,hc,k1,n1,s1,a1,l1,q1,x1,e0,e1,e2,e3,e4,e5⟩:=(hr.stays (Stays.of_below hA)).at (j:=0) (by simp)
 simp only [Value.slice.injEq] at he
 obtain ⟨rfl,-,rfl⟩:=he
 have c0:=(hc 0 (by decide)).trans (congrArg some e0)
 have c1:=(hc 1 (by decide)).trans (congrArg some e1)
 have c2:=(hc 2 (by decide)).trans (congrArg some e2)
 have c3:=(hc 3 (by decide)).trans (congrArg some e3)
 have c4:=(hc 4 (by decide)).trans (congrArg some e4)
 have c5:=(hc 5 (by decide)).trans (congrArg some e5)
 have HA:=Lib.hid hA
 simp only [show FoldE.size=6 from rfl,Nat.add_zero,Nat.zero_mul,show at' [false,b] 0=false from rfl] at c0 c1 c2 c3 c4 c5
 clear hA hr hc e0 e1 e2 e3 e4 e5
 go_enter Tryz.func266,Tryz.ntmps266
 go_wp2
 generalize (w.alloc (.cells #[.int .u8 k,.int .i64 num,.string s,.slice ka kn kc] 34))=W at *
 go_loopw [12] (fun i wr=>i=.int .i64 0∧wr=W) (fun i _=>0)
 case atStart=>exact ⟨rfl,rfl⟩
 case round=>
  obtain ⟨rfl,rfl⟩:=hrel
  go_wp2
  go_ret2
  exact ⟨rfl,zaa HA.out⟩
end Go.Proofs.YtpobmoegmdhbpaaGreatDoor
namespace Go.Proofs.YtpobmoegmdhbpaaGreatDoor
open Go.RowKit
theorem zhO:Enters 246:=fun args w=>by kernel_rfl
theorem zeN (n:Nd) (bs:List Bool) (x:Int) (b:Bool) (h10:n.kids.length≤1000) (hbs:bs.length=n.kids.length) (hF:∀ j v A w',j < n.kids.length→NdAt A w' v (at' n.kids j)→Calls Tryz.prog 246 #[v] w' (FoldR (at' bs j) w'))
 (hV:∀ w' ja jc ka kc A,RowsAt FoldE A w' (.slice ja n.kids.length jc) bs→Calls Tryz.prog 266 #[(.agg #[.int .u8 n.kind,.int .i64 n.num,.string n.name,.slice ka n.kids.length kc]),.slice ja n.kids.length jc] w' (ValR x b w')) (hb:b=true→0≤x)
 (v:Value) (A:Nat→Prop) (w:World) (hv:NdAt A w v n):Calls Tryz.prog 246 #[v] w (FoldR b w):=by
 obtain ⟨hok,hlen,ka,kc,rfl,hk⟩:=hv.open
 have hA:Below w.heap.size w ((w.alloc (.cells #[.int .u8 n.kind,.int .i64 n.num,.string n.name,.slice ka n.kids.length kc] 34)).alloc (.cells #[.int .u8 0,.int .i64 0,.string ⟨#[]⟩,.slice none 0 0,.int .i64 0,.bool false] 297)):=zaa (zaa (Below.refl _ _))
 have hO:=zaI w (.cells #[.int .u8 n.kind,.int .i64 n.num,.string n.name,.slice ka n.kids.length kc] 34) (.cells #[.int .u8 0,.int .i64 0,.string ⟨#[]⟩,.slice none 0 0,.int .i64 0,.bool false] 297)
 have hN:=zaw w (.cells #[.int .u8 n.kind,.int .i64 n.num,.string n.name,.slice ka n.kids.length kc] 34) (.cells #[.int .u8 0,.int .i64 0,.string ⟨#[]⟩,.slice none 0 0,.int .i64 0,.bool false] 297)
 have HK:Hid (KidsAt A _ (.slice ka n.kids.length kc) n.kids):=Lib.hid (hk.stays (Stays.of_below hA))
 have HA:=Lib.hid hA
 have HBS:=Lib.hid hbs
 have HF:=Lib.hid hF
 have HV:=Lib.hid hV
 have HB:=Lib.hid hb
 obtain ⟨n0,n1,n2,n3⟩:=cells4 hO
 clear hv hk hA hbs hF hV hb
 go_enter Tryz.func246,Tryz.ntmps246
 go_upto_region 1 with fail
 generalize hW:((w.alloc (.cells #[.int .u8 n.kind,.int .i64 n.num,.string n.name,.slice ka n.kids.length kc] 34)).alloc (.cells #[.int .u8 0,.int .i64 0,.string ⟨#[]⟩,.slice none 0 0,.int .i64 0,.bool false] 297))=W at *
 have hz:W.heap.size=w.heap.size+2:=by subst hW;simp
 have HX:Hid (∀ w',Below W.heap.size W w'→(w'.cell? ⟨w.heap.size,0,none⟩=some (.int .u8 n.kind)∧w'.cell? ⟨w.heap.size,1,none⟩=some (.int .i64 n.num)∧w'.cell? ⟨w.heap.size,2,none⟩=some (.string n.name)∧w'.cell? ⟨w.heap.size,3,none⟩=some (.slice ka n.kids.length kc))∧w'.heap[w.heap.size]?=some (.cells #[.int .u8 n.kind,.int .i64 n.num,.string n.name,.slice ka n.kids.length kc] 34)):=Lib.hid (fun w' h=>⟨cells4 (zad h hO),zad h hO⟩)
 have HR:Hid (∀ w',Below W.heap.size W w'→w'.heap[w.heap.size+1]?=some (.cells #[.int .u8 0,.int .i64 0,.string ⟨#[]⟩,.slice none 0 0,.int .i64 0,.bool false] 297 (0,0))):=Lib.hid (fun w' h=>zad h hN)
 have HE1:=Lib.hid (zlj n.kids bs HBS.out h10 246 zhO HF.out ka kc A W HK.out)
 clear hO hN hW
 go_upto_region 2 with (go_at_call 265;refine HE1.out.mono ?_;rintro e w1 ⟨ja,jc,rfl,hr1,hb1⟩;have HR1:=Lib.hid hr1;have HB1:=Lib.hid hb1;obtain ⟨⟨n0,n1,n2,n3⟩,hnx⟩:=HX.out w1 hb1;clear hr1 hb1 hnx)
 have HVC:=Lib.hid (HV.out w1 ja jc ka kc _ HR1.out)
 clear HE1
 cases b with
 | true=>
   have HX0:=Lib.hid (HB.out rfl)
   go_wp2_with (first
    | (go_at_call 266;refine HVC.out.mono ?_;rintro e w2 ⟨rfl,hb2⟩;have HB2:=Lib.hid (HB1.out.trans (hb2.mono HB1.out.size));clear hb2)
    | (go_at_call 267;refine (zhR x HX0.out _).mono ?_;rintro e w3 ⟨rfl,hb3⟩;have HB3:=Lib.hid (HB2.out.trans (hb3.mono HB2.out.size));clear hb3;have hr:=HR.out w3 HB3.out;have r0:=zae hr 0 rfl;have r1:=zae hr 1 rfl;have r2:=zae hr 2 rfl;have r3:=zae hr 3 rfl;have r4:=zae hr 4 rfl;have r5:=zae hr 5 rfl;have f:=unfrozen hr;have HRR:=Lib.hid hr;clear hr))
   (try simp only [Exit.inBlock,Exit.then])
   refine bodyPost_ret (results_cell_row (P:=Tryz.prog) rfl _ _ (w.heap.size+1) _ _ _ _ rfl (set6 HRR.out _ _ _ _ _ _) Tryz.underlying297 rfl (by kernel_rfl)) rfl ?_
   exact ⟨_,_,_,_,_,_,_,rfl,zau (HA.out.trans (HB3.out.mono HA.out.size)) (by omega)⟩
 | false=>
   have HE2:Hid (∀ w',Below w1.heap.size w1 w'→Calls Tryz.prog 268 #[.slice ja n.kids.length jc,.func (.func 269) #[] #[]] w' (RowOut n.kids.length w')):=Lib.hid (fun w' h=>by
    have:=zkR bs (by rw [HBS.out];exact h10) ja jc _ w' (by rw [HBS.out];exact HR1.out.stays (Stays.of_below h))
    rwa [HBS.out] at this)
   go_wp2_with (first
    | (go_at_call 266;refine HVC.out.mono ?_;rintro e w2 ⟨rfl,hb2⟩;have HB2:=Lib.hid (HB1.out.trans (hb2.mono HB1.out.size));have HB12:=Lib.hid hb2;clear hb2)
    | (go_at_call 268;refine (HE2.out _ HB12.out).mono ?_;rintro e w3 ⟨ga,gc,rfl,hb3⟩;have HB3:=Lib.hid (HB2.out.trans (hb3.mono HB2.out.size));clear hb3;obtain ⟨⟨m0,m1,m2,m3⟩,hnx⟩:=HX.out w3 HB3.out;have fn:=unfrozen hnx;have HNX:=Lib.hid hnx;have hr:=HR.out w3 HB3.out;have r0:=zae hr 0 rfl;have r1:=zae hr 1 rfl;have r2:=zae hr 2 rfl;have r3:=zae hr 3 rfl;have r4:=zae hr 4 rfl;have r5:=zae hr 5 rfl;have f:=unfrozen hr;have HRR:=Lib.hid hr;clear hr hnx))
   (try simp only [Exit.inBlock,Exit.then])
   refine bodyPost_ret (results_cell_row (P:=Tryz.prog) rfl _ _ (w.heap.size+1) _ _ _ _ rfl (set6 (zga HRR.out (by omega)) _ _ _ _ _ _) Tryz.underlying297 rfl (by kernel_rfl)) rfl ?_
   exact ⟨_,_,_,_,_,_,_,rfl,zau ((HA.out.trans (HB3.out.mono HA.out.size)).setCell (Nat.le_refl _) _) (by omega)⟩
theorem zdC (k num:Int) (s:ByteArray) (b:Bool) (hk:k=1∧0≤num∧b=true∨(k=2∨k=4∨k=5)∧b=false) (v:Value) (A:Nat→Prop) (w:World) (hv:NdAt A w v (.mk k num s [])):Calls Tryz.prog 246 #[v] w (FoldR b w):=by
 rcases hk with ⟨rfl,hn,rfl⟩|⟨hk,rfl⟩
 · exact zeN (.mk 1 num s []) [] num true (by simp [Nd.kids]) rfl (fun j v A w' hj=>absurd hj (by simp [Nd.kids])) (fun w' ja jc ka kc A hr=>zjX num s ka 0 kc ja jc w') (fun _=>hn) v A w hv
 · exact zeN (.mk k num s []) [] 0 false (by simp [Nd.kids]) rfl (fun j v A w' hj=>absurd hj (by simp [Nd.kids])) (fun w' ja jc ka kc A hr=>zjM k hk num s ka 0 kc ja jc w') (fun h=>by cases h) v A w hv
theorem zia {n:Nd} (h:isLeaf n) (h0:n.kind=1→0≤n.num):∃ b,∀ (v:Value) (A:Nat→Prop) (w:World),NdAt A w v n→Calls Tryz.prog 246 #[v] w (FoldR b w):=by
 rcases h with ⟨x,rfl⟩|⟨s,rfl⟩
 · exact ⟨true,fun v A w hv=>zdC 1 x _ true (.inl ⟨rfl,h0 rfl,rfl⟩) v A w hv⟩
 · exact ⟨false,fun v A w hv=>zdC 2 0 s false (.inr ⟨.inl rfl,rfl⟩) v A w hv⟩
theorem zoh (k num:Int) (s t:ByteArray) (c:Nd) (hc:isLeaf c) (h0:c.kind=1→0≤c.num) (v:Value) (A:Nat→Prop) (w:World) (hv:NdAt A w v (.mk k num t [nodeN 5 s [],c])):Calls Tryz.prog 246 #[v] w (FoldR false w):=by
 obtain ⟨b,hb⟩:=zia hc h0
 refine zeN (.mk k num t [nodeN 5 s [],c]) [false,b] 0 false (by simp [Nd.kids]) rfl (fun j v A w' hj hv=>?_) (fun w' ja jc ka kc A hr=>zki k num t ka 2 kc ja jc b A w' hr) (fun h=>by cases h) v A w hv
 match j,hj with
 | 0,_=>exact zdC 5 0 s false (.inr ⟨by omega,rfl⟩) v A w' hv
 | 1,_=>exact hb v A w' hv
theorem zhp (n:Nd) (hp:Passes 214 n) (hf:∀ (v:Value) (A:Nat→Prop) (w:World),NdAt A w v n→Calls Tryz.prog 246 #[v] w (FoldR false w)) (v:Value) (A:Nat→Prop) (w:World) (hv:NdAt A w v n):
 Calls Tryz.prog 222 #[v] w fun e w'=>∃ x,e=.returned (.tuple #[.int .i64 x,.bool false])∧Below w.heap.size w w':=by
 obtain ⟨hok,hlen,ka,kc,rfl,hk⟩:=hv.open
 have hA:Below w.heap.size w (w.alloc (.cells #[.int .u8 n.kind,.int .i64 n.num,.string n.name,.slice ka n.kids.length kc] 34)):=zaa (Below.refl _ _)
 have hO:=zah w (.cells #[.int .u8 n.kind,.int .i64 n.num,.string n.name,.slice ka n.kids.length kc] 34)
 have HN:=Lib.hid (hp _ A _ (hv.stays (Stays.of_below hA)))
 have HF:=Lib.hid (fun w' (h:Below w.heap.size w w')=>hf _ A w' (hv.stays (Stays.of_below h)))
 have HO:=Lib.hid hO
 have HA:=Lib.hid hA
 obtain ⟨n0,n1,n2,n3⟩:=cells4 hO
 clear hv hk hA hO hp hf
 go_enter Tryz.func222,Tryz.ntmps222
 go_wp2_with (first
  | (go_at_call 214;refine HN.out.mono ?_;rintro e w1 ⟨rfl,hb1⟩;have HB1:=Lib.hid (HA.out.trans (hb1.mono HA.out.size));obtain ⟨m0,m1,m2,m3⟩:=cells4 (zad hb1 HO.out);clear hb1)
  | (go_at_call 246;refine (HF.out _ HB1.out).mono ?_;rintro e w2 ⟨k1,n1',s1,a1,l1,q1,x1,rfl,hb2⟩;have HB2:=Lib.hid (HB1.out.trans (hb2.mono HB1.out.size));clear hb2))
 go_quiet (fail)
 go_wp2
 go_ret2
 exact ⟨x1,rfl,zal (zaa HB2.out) _⟩
theorem zcM (n:Nd) (hp:Passes 214 n) (hf:∀ (v:Value) (A:Nat→Prop) (w:World),NdAt A w v n→Calls Tryz.prog 246 #[v] w (FoldR false w)) (v:Value) (A:Nat→Prop) (w:World) (hv:NdAt A w v n):
 Calls Tryz.prog 184 #[v] w fun e w'=>e=.returned (.bool false)∧Below w.heap.size w w':=by
 obtain ⟨hok,hlen,ka,kc,rfl,hk⟩:=hv.open
 have hA:Below w.heap.size w (w.alloc (.cells #[.int .u8 n.kind,.int .i64 n.num,.string n.name,.slice ka n.kids.length kc] 34)):=zaa (Below.refl _ _)
 have HN:=Lib.hid (zhp n hp hf _ A _ (hv.stays (Stays.of_below hA)))
 have HA:=Lib.hid hA
 obtain ⟨n0,n1,n2,n3⟩:=cells4 (zah w (.cells #[.int .u8 n.kind,.int .i64 n.num,.string n.name,.slice ka n.kids.length kc] 34))
 clear hv hk hA hp hf
 go_enter Tryz.func184,Tryz.ntmps184
 go_wp2_with (go_at_call 222;refine HN.out.mono ?_;rintro e w1 ⟨x,rfl,hb1⟩;have HB1:=Lib.hid (HA.out.trans (hb1.mono HA.out.size));clear hb1)
 go_ret
 exact ⟨rfl,HB1.out⟩
end Go.Proofs.YtpobmoegmdhbpaaGreatDoor
