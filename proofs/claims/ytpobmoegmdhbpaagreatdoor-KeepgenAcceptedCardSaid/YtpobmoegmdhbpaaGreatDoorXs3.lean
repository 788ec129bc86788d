/- Contracts and plain lemmas (ScpB, ScpC): no statement of the seat is proved here. -/
import Derived.Test.YtpobmoegmdhbpaaGreatDoorXs1
import Derived.Test.YtpobmoegmdhbpaaGreatDoorXs2
set_option linter.unusedSimpArgs false
set_option linter.unusedVariables false
set_option linter.unusedSectionVars false
set_option maxRecDepth 100000
set_option maxHeartbeats 3200000
namespace Go.Proofs.YtpobmoegmdhbpaaGreatDoor
open Go.RowKit
def IxE:Elem Int where
 size:=1
 C:=fun _ _ c x=>c 0=.int .i64 x
 stays:=fun _ _ _ h=>h
 congr:=fun h e=>(e 0 (by omega)).trans h
 one:=fun h i hi=>by
  obtain rfl:i=0:=by omega
  rw [h];rfl
theorem TIx:RowT Tryz.prog 45 3 (.int .i64 0) 1 8:=⟨Tryz.underlying45,by kernel_rfl⟩
theorem zgb {α:Type} [Inhabited α] {E:Elem α} {A:Nat→Prop} {w:World} {va:Option Addr} {n c:Nat} {l:List α} (h:RowsAt E A w (.slice va n c) l):RowsAt E A w (.slice va l.length l.length) l∧n=l.length∧l.length≤c∧(va=none→c=0)∧c=c:=by
 obtain ⟨cs,⟨h0,a,cap,he,h1,h2,h3⟩,h4⟩:=h
 simp only [Value.slice.injEq] at he
 obtain ⟨rfl,rfl,rfl⟩:=he
 exact ⟨⟨cs,⟨h0,va,l.length,rfl,Nat.le_refl _,fun e=>by have:=h2 e;omega,h3⟩,h4⟩,rfl,h1,h2,rfl⟩
theorem clipI (va:Option Addr) (n c:Nat) (w:World) (hc:n≤c) (hn:va=none→c=0):
 Calls Tryz.prog 174 #[.slice va n c] w fun e w'=>e=.returned (.slice va n n)∧w=w':=by
 cases va with
 | none=>
   obtain rfl:=hn rfl
   obtain rfl:n=0:=by omega
   go_enter Tryz.func174,Tryz.ntmps174
   go_wp2
   go_ret
   exact ⟨rfl,rfl⟩
 | some a=>
   have h1:(n:Int)≤(c:Int):=by omega
   have h0:(0:Int)≤(n:Int):=by omega
   clear hn
   by_cases hn0:n=0
   · subst hn0
     go_enter Tryz.func174,Tryz.ntmps174
     go_wp2
     go_ret
     exact ⟨rfl,rfl⟩
   · go_enter Tryz.func174,Tryz.ntmps174
     go_wp2
     go_ret
     exact ⟨rfl,rfl⟩
theorem clipD (va:Option Addr) (n c:Nat) (w:World) (hc:n≤c) (hn:va=none→c=0):
 Calls Tryz.prog 175 #[.slice va n c] w fun e w'=>e=.returned (.slice va n n)∧w=w':=by
 cases va with
 | none=>
   obtain rfl:=hn rfl
   obtain rfl:n=0:=by omega
   go_enter Tryz.func175,Tryz.ntmps175
   go_wp2
   go_ret
   exact ⟨rfl,rfl⟩
 | some a=>
   have h1:(n:Int)≤(c:Int):=by omega
   have h0:(0:Int)≤(n:Int):=by omega
   clear hn
   by_cases hn0:n=0
   · subst hn0
     go_enter Tryz.func175,Tryz.ntmps175
     go_wp2
     go_ret
     exact ⟨rfl,rfl⟩
   · go_enter Tryz.func175,Tryz.ntmps175
     go_wp2
     go_ret
     exact ⟨rfl,rfl⟩
theorem znO (l:List Int) (i:Int) (va:Option Addr) (vc:Nat) (A:Nat→Prop) (w:World) (hv:RowsAt IxE A w (.slice va l.length vc) l) (hl:l.length≤100000):
 Calls Tryz.prog 131 #[.slice va l.length vc,.int .i64 i] w fun e w'=>∃ a c,e=.returned (.slice a (l ++ [i]).length c)∧RowsAt IxE Any w' (.slice a (l ++ [i]).length c) (l ++ [i])∧Below w.heap.size w w':=by
 obtain ⟨hr,-,hc,hn,-⟩:=zgb hv
 have HR:=Lib.hid hr
 have HC:=Lib.hid (clipI va l.length vc w hc hn)
 have hA:Below w.heap.size w (w.alloc (.cells #[.int .i64 i] 3)):=zaa (Below.refl _ _)
 have HA:=Lib.hid hA
 have HU:Hid (RowsAt IxE Any (w.alloc (.cells #[.int .i64 i] 3)) (.slice (some ⟨w.heap.size,0,none⟩) 1 1) [i]):=Lib.hid (zfp (heap_alloc_new w _) trivial rfl rfl)
 clear hv hr hc hn hA
 go_enter Tryz.func131,Tryz.ntmps131
 go_wp2_with (first
  | (go_at_call 174;refine HC.out.mono ?_;rintro e w1 ⟨rfl,rfl⟩)
  | (at_builtin;refine zmf TIx rfl (by decide) rfl (.tmp 6) (.tmp 8) rfl rfl rfl (HR.out.stays (Stays.of_below HA.out)) HU.out (by simp) (by simp [maxLen];omega) (by simp;omega) ?_;intro a' c' w3 h3 hb3;have H3:=Lib.hid h3;have HB3:=Lib.hid hb3;clear h3 hb3))
 go_ret
 refine ⟨a',c',by simp,?_,HA.out.trans (HB3.out.mono HA.out.size)⟩
 have h3:=H3.out
 rw [List.length_append]
 exact h3.stays ⟨Nat.le_refl _,fun b _ _=>⟨rfl,trivial⟩⟩
def innerL (n:Nd) (i:Int) (l:List Dcl):List Dcl:=if n.kind=54∧i=1 then l ++ [dclN n.name false] else if n.kind=55∧i=0 then l ++ [dclN n.name true] else l
def InPost (n:Nd) (i:Int) (l:List Dcl) (w:World) (e:Ending) (w':World):Prop:=∃ a c,e=.returned (.slice a (innerL n i l).length c)∧RowsAt DclE Any w' (.slice a (innerL n i l).length c) (innerL n i l)∧Below w.heap.size w w'
theorem znb {w:World} {g:Nat} {s:ByteArray} {b:Bool} {k:Int} (hk:k=if b then 3 else 1) (h:w.heap[g]?=some (.cells #[.string s,.int .u8 k,.int .i64 0] 100 (0,0))) (hs:s.size≤maxLen):RowsAt DclE Any w (.slice (some ⟨g,0,none⟩) 1 1) [dclN s b]:=by
 subst hk
 exact zjd h trivial hs
theorem zlr (num:Int) (s:ByteArray) (kids:List Nd) (l:List Dcl) (v:Value) (va:Option Addr) (vc:Nat) (A:Nat→Prop) (w:World) (hn:NdAt A w v (.mk 54 num s kids)) (hv:RowsAt DclE Any w (.slice va l.length vc) l) (hl:l.length≤100000):
 Calls Tryz.prog 133 #[v,.int .i64 1,.slice va l.length vc] w (InPost (.mk 54 num s kids) 1 l w):=by
 obtain ⟨hok,hlen,ka,kc,he,hkk⟩:=hn.open
 have he':v=.agg #[.int .u8 54,.int .i64 num,.string s,.slice ka kids.length kc]:=he
 subst he'
 obtain ⟨hr,-,hc,hz,-⟩:=zgb hv
 have HIN:Hid (innerL (.mk 54 num s kids) 1 l=l ++ [dclN s false]):=Lib.hid (by simp [innerL,Nd.kind,Nd.name])
 have hA:Below w.heap.size w (w.alloc (.cells #[.int .u8 54,.int .i64 num,.string s,.slice ka kids.length kc] 34)):=zaa (Below.refl _ _)
 have hbx:=zah w (.cells #[.int .u8 54,.int .i64 num,.string s,.slice ka kids.length kc] 34)
 have HX:=Lib.hid hbx
 have HA:=Lib.hid hA
 have HC:=Lib.hid (fun w1=>clipD va l.length vc w1 hc hz)
 have hsz:s.size≤maxLen:=hok.2.2
 have HR:Hid (∀ w1,Below (w.alloc (.cells #[.int .u8 54,.int .i64 num,.string s,.slice ka kids.length kc] 34)).heap.size (w.alloc (.cells #[.int .u8 54,.int .i64 num,.string s,.slice ka kids.length kc] 34)) w1→RowsAt DclE Any w1 (.slice va l.length l.length) l):=Lib.hid (fun w1 h=>hr.stays (Stays.of_below (hA.trans (h.mono hA.size))))
 have HS:Hid (∀ w1,Below (w.alloc (.cells #[.int .u8 54,.int .i64 num,.string s,.slice ka kids.length kc] 34)).heap.size (w.alloc (.cells #[.int .u8 54,.int .i64 num,.string s,.slice ka kids.length kc] 34)) w1→w1.cell? ⟨w.heap.size,2,none⟩=some (.string s)):=Lib.hid (fun w1 h=>zae (zad h hbx) 2 rfl)
 clear hn hv hr hc hz hA hkk hok he hbx
 go_enter Tryz.func133,Tryz.ntmps133
 go_wp2
 generalize (w.alloc (.cells #[.int .u8 54,.int .i64 num,.string s,.slice ka kids.length kc] 34))=W at *
 go_region_held3 (fun w1=>w1.cell? ⟨w.heap.size,2,none⟩=some (.string s))
  (with_reducible exact HS.out _ (by (repeat (with_reducible first|exact Below.refl _ _|refine zab ?_|refine zaa ?_|(apply zac;focus assumption)))))
  (first
  | (refine zgp (E:=DclE) (A:=Any) (D':=Any) (va:=va) (l:=l) (m:=[dclN s false]) TDcl rfl (by decide) (by rfl) (.tmp 16) (.tmp 20) (by rfl) (by rfl) (by rfl) (HR.out _ (by (repeat (with_reducible first|exact Below.refl _ _|refine zab ?_|refine zaa ?_|(apply zac;focus assumption))))) (znb (b:=false) (k:=1) rfl (by (repeat (with_reducible first|(refine zaj ?_;(simp;done))|(refine zaj ?_;rfl)|refine zai ?_|refine zag ?_|(apply zad;focus assumption)))) hsz) (by simp) (by simp [maxLen];omega) (by simp;omega) ?_;intro a' c' w3 h3 hb3;have H3:=Lib.hid h3;clear h3)
  | (go_simp;first
  | (go_at_call 175;(with_reducible refine (HC.out _).mono ?_);rintro e w1 ⟨rfl,rfl⟩)
  | fail))
 all_goals
  have HB3:Hid (Below W.heap.size W w3):=Lib.hid (by (repeat (with_reducible first|exact Below.refl _ _|refine zab ?_|refine zaa ?_|(apply zac;focus assumption))))
  clear hb3
  go_wp2
  go_ret
  refine ⟨a',c',by rw [HIN.out];simp,?_,HA.out.trans (HB3.out.mono HA.out.size)⟩
  have h3:=H3.out
  rw [HIN.out,List.length_append]
  exact h3.stays ⟨Nat.le_refl _,fun b _ _=>⟨rfl,trivial⟩⟩
theorem zkP (num:Int) (s:ByteArray) (kids:List Nd) (l:List Dcl) (v:Value) (va:Option Addr) (vc:Nat) (A:Nat→Prop) (w:World) (hn:NdAt A w v (.mk 55 num s kids)) (hv:RowsAt DclE Any w (.slice va l.length vc) l) (hl:l.length≤100000):
 Calls Tryz.prog 133 #[v,.int .i64 0,.slice va l.length vc] w (InPost (.mk 55 num s kids) 0 l w):=by
 obtain ⟨hok,hlen,ka,kc,he,hkk⟩:=hn.open
 have he':v=.agg #[.int .u8 55,.int .i64 num,.string s,.slice ka kids.length kc]:=he
 subst he'
 obtain ⟨hr,-,hc,hz,-⟩:=zgb hv
 have HIN:Hid (innerL (.mk 55 num s kids) 0 l=l ++ [dclN s true]):=Lib.hid (by simp [innerL,Nd.kind,Nd.name])
 have hA:Below w.heap.size w (w.alloc (.cells #[.int .u8 55,.int .i64 num,.string s,.slice ka kids.length kc] 34)):=zaa (Below.refl _ _)
 have hbx:=zah w (.cells #[.int .u8 55,.int .i64 num,.string s,.slice ka kids.length kc] 34)
 have HX:=Lib.hid hbx
 have HA:=Lib.hid hA
 have HC:=Lib.hid (fun w1=>clipD va l.length vc w1 hc hz)
 have hsz:s.size≤maxLen:=hok.2.2
 have HR:Hid (∀ w1,Below (w.alloc (.cells #[.int .u8 55,.int .i64 num,.string s,.slice ka kids.length kc] 34)).heap.size (w.alloc (.cells #[.int .u8 55,.int .i64 num,.string s,.slice ka kids.length kc] 34)) w1→RowsAt DclE Any w1 (.slice va l.length l.length) l):=Lib.hid (fun w1 h=>hr.stays (Stays.of_below (hA.trans (h.mono hA.size))))
 have HS:Hid (∀ w1,Below (w.alloc (.cells #[.int .u8 55,.int .i64 num,.string s,.slice ka kids.length kc] 34)).heap.size (w.alloc (.cells #[.int .u8 55,.int .i64 num,.string s,.slice ka kids.length kc] 34)) w1→w1.cell? ⟨w.heap.size,2,none⟩=some (.string s)):=Lib.hid (fun w1 h=>zae (zad h hbx) 2 rfl)
 clear hn hv hr hc hz hA hkk hok he hbx
 go_enter Tryz.func133,Tryz.ntmps133
 go_wp2
 generalize (w.alloc (.cells #[.int .u8 55,.int .i64 num,.string s,.slice ka kids.length kc] 34))=W at *
 go_region_held3 (fun w1=>w1.cell? ⟨w.heap.size,2,none⟩=some (.string s))
  (with_reducible exact HS.out _ (by (repeat (with_reducible first|exact Below.refl _ _|refine zab ?_|refine zaa ?_|(apply zac;focus assumption)))))
  (first
  | (refine zgp (E:=DclE) (A:=Any) (D':=Any) (va:=va) (l:=l) (m:=[dclN s true]) TDcl rfl (by decide) (by rfl) (.tmp 31) (.tmp 35) (by rfl) (by rfl) (by rfl) (HR.out _ (by (repeat (with_reducible first|exact Below.refl _ _|refine zab ?_|refine zaa ?_|(apply zac;focus assumption))))) (znb (b:=true) (k:=3) rfl (by (repeat (with_reducible first|(refine zaj ?_;(simp;done))|(refine zaj ?_;rfl)|refine zai ?_|refine zag ?_|(apply zad;focus assumption)))) hsz) (by simp) (by simp [maxLen];omega) (by simp;omega) ?_;intro a' c' w3 h3 hb3;have H3:=Lib.hid h3;clear h3)
  | (go_simp;first
  | (go_at_call 175;(with_reducible refine (HC.out _).mono ?_);rintro e w1 ⟨rfl,rfl⟩)
  | fail))
 all_goals
  have HB3:Hid (Below W.heap.size W w3):=Lib.hid (by (repeat (with_reducible first|exact Below.refl _ _|refine zab ?_|refine zaa ?_|(apply zac;focus assumption))))
  clear hb3
  go_wp2
  go_ret
  refine ⟨a',c',by rw [HIN.out];simp,?_,HA.out.trans (HB3.out.mono HA.out.size)⟩
  have h3:=H3.out
  rw [HIN.out,List.length_append]
  exact h3.stays ⟨Nat.le_refl _,fun b _ _=>⟨rfl,trivial⟩⟩
theorem zjz (n:Nd) (i:Int) (l:List Dcl) (h1:¬ (n.kind=54∧i=1)) (h2:¬ (n.kind=55∧i=0)) (v:Value) (va:Option Addr) (vc:Nat) (A:Nat→Prop) (w:World) (hn:NdAt A w v n) (hv:RowsAt DclE Any w (.slice va l.length vc) l):
 Calls Tryz.prog 133 #[v,.int .i64 i,.slice va l.length vc] w (InPost n i l w):=by
 obtain ⟨hok,hlen,ka,kc,rfl,hkk⟩:=hn.open
 have HIN:Hid (innerL n i l=l):=Lib.hid (by simp only [innerL,if_neg h1,if_neg h2])
 have hA:Below w.heap.size w (w.alloc (.cells #[.int .u8 n.kind,.int .i64 n.num,.string n.name,.slice ka n.kids.length kc] 34)):=zaa (Below.refl _ _)
 have HA:=Lib.hid hA
 have HR:=Lib.hid (hv.stays (Stays.of_below hA))
 clear hn hv hA hkk hok
 by_cases k4:n.kind=54
 · have i1:(i == 1)=false:=by simp;exact fun e=>h1 ⟨k4,e⟩
   have k5:(n.kind == 55)=false:=by simp;omega
   have k6:(n.kind == 54)=true:=by simp;omega
   clear h1 h2 k4
   go_enter Tryz.func133,Tryz.ntmps133
   go_wp2
   go_ret
   exact ⟨va,vc,by rw [HIN.out];rfl,by rw [HIN.out];exact HR.out,HA.out⟩
 · have k6:(n.kind == 54)=false:=by simp;omega
   by_cases k5:n.kind=55
   · have i1:(i == 0)=false:=by simp;exact fun e=>h2 ⟨k5,e⟩
     have k7:(n.kind == 55)=true:=by simp;omega
     clear h1 h2 k4 k5
     go_enter Tryz.func133,Tryz.ntmps133
     go_wp2
     go_ret
     exact ⟨va,vc,by rw [HIN.out];rfl,by rw [HIN.out];exact HR.out,HA.out⟩
   · have k7:(n.kind == 55)=false:=by simp;omega
     clear h1 h2 k4 k5
     go_enter Tryz.func133,Tryz.ntmps133
     go_wp2
     go_ret
     exact ⟨va,vc,by rw [HIN.out];rfl,by rw [HIN.out];exact HR.out,HA.out⟩
end Go.Proofs.YtpobmoegmdhbpaaGreatDoor
namespace Go.Proofs.YtpobmoegmdhbpaaGreatDoor
open Go.RowKit
def ZeroB (w:World) (e:Ending) (w':World):Prop:=e=.returned (.int .i64 0)∧Below w.heap.size w w'
abbrev bxP (va:Option Addr) (vc:Nat) (pa:Option Addr) (pc:Nat) (ka:Option Addr) (kc:Nat) (p:Prg):Obj:=.cells #[.slice va p.vars.length vc,.slice pa p.procs.length pc,.int .u8 p.main.kind,.int .i64 p.main.num,.string p.main.name,.slice ka p.main.kids.length kc] 37
theorem zgI (k:Int) (num:Int) (s:ByteArray) (kids:List Nd) (d:Dcl) (hk:k=2∧d.kind=1∨(k=4∨k=5∨k=44∨k=45)∧d.kind=3) (l:List Dcl) (hd:findD l s=some d) (pv v:Value) (la:Option Addr) (lc:Nat) (A:Nat→Prop) (w:World)
 (p:Prg) (va:Option Addr) (vc:Nat) (pa:Option Addr) (pc:Nat) (ka:Option Addr) (kc:Nat) (hn:NdAt A w v (.mk k num s kids)) (hv:RowsAt DclE Any w (.slice la l.length lc) l):
 Calls Tryz.prog 130 #[PrgV va vc pa pc ka kc p,v,.slice la l.length lc] w (ZeroB w):=by
 obtain ⟨hok,hlen,ja,jc,he,hkk⟩:=hn.open
 have he':v=.agg #[.int .u8 k,.int .i64 num,.string s,.slice ja kids.length jc]:=he
 subst he'
 have hA:Below w.heap.size w ((w.alloc (bxP va vc pa pc ka kc p)).alloc (.cells #[.int .u8 k,.int .i64 num,.string s,.slice ja kids.length jc] 34)):=zaa (zaa (Below.refl _ _))
 have HA:=Lib.hid hA
 have HU:=Lib.hid (zou l s d la lc Any _ (hv.stays (Stays.of_below hA)) hd)
 clear hn hv hA hkk hok he hd
 unfold PrgV
 rcases hk with ⟨rfl,h⟩|⟨rfl|rfl|rfl|rfl,h⟩
 all_goals
  rw [h] at HU
  go_enter Tryz.func130,Tryz.ntmps130
  go_wp2_with (go_at_call 173;refine HU.out.mono ?_;rintro e w1 ⟨rfl,hb1⟩)
  go_ret
  exact ⟨rfl,HA.out.trans (hb1.mono HA.out.size)⟩
theorem zko (k:Int) (num:Int) (s:ByteArray) (kids:List Nd) (hk:k=54∨k=55) (l:List Dcl) (hd:findD l s=none) (pv v:Value) (la:Option Addr) (lc:Nat) (A:Nat→Prop) (w:World)
 (p:Prg) (va:Option Addr) (vc:Nat) (pa:Option Addr) (pc:Nat) (ka:Option Addr) (kc:Nat) (hn:NdAt A w v (.mk k num s kids)) (hv:RowsAt DclE Any w (.slice la l.length lc) l):
 Calls Tryz.prog 130 #[PrgV va vc pa pc ka kc p,v,.slice la l.length lc] w (ZeroB w):=by
 obtain ⟨hok,hlen,ja,jc,he,hkk⟩:=hn.open
 have he':v=.agg #[.int .u8 k,.int .i64 num,.string s,.slice ja kids.length jc]:=he
 subst he'
 have hA:Below w.heap.size w ((w.alloc (bxP va vc pa pc ka kc p)).alloc (.cells #[.int .u8 k,.int .i64 num,.string s,.slice ja kids.length jc] 34)):=zaa (zaa (Below.refl _ _))
 have HA:=Lib.hid hA
 have HU:=Lib.hid (zdJ l s la lc Any _ (hv.stays (Stays.of_below hA)) hd)
 clear hn hv hA hkk hok he hd
 unfold PrgV
 rcases hk with rfl|rfl
 all_goals
  go_enter Tryz.func130,Tryz.ntmps130
  go_wp2_with (go_at_call 76;refine HU.out.mono ?_;rintro e w1 ⟨rfl,hb1⟩)
  go_ret
  exact ⟨rfl,HA.out.trans (hb1.mono HA.out.size)⟩
theorem zjy (n:Nd) (hk:n.kind≠2∧n.kind≠3∧n.kind≠4∧n.kind≠5∧n.kind≠44∧n.kind≠45∧n.kind≠50∧n.kind≠51∧n.kind≠54∧n.kind≠55) (pv v lv:Value) (A:Nat→Prop) (w:World)
 (p:Prg) (va:Option Addr) (vc:Nat) (pa:Option Addr) (pc:Nat) (ka:Option Addr) (kc:Nat) (hn:NdAt A w v n):
 Calls Tryz.prog 130 #[PrgV va vc pa pc ka kc p,v,lv] w (ZeroB w):=by
 obtain ⟨hok,hlen,ja,jc,rfl,hkk⟩:=hn.open
 have hA:Below w.heap.size w ((w.alloc (bxP va vc pa pc ka kc p)).alloc (.cells #[.int .u8 n.kind,.int .i64 n.num,.string n.name,.slice ja n.kids.length jc] 34)):=zaa (zaa (Below.refl _ _))
 have HA:=Lib.hid hA
 have k2:(n.kind == 2)=false:=by simp;omega
 have k3:(n.kind == 3)=false:=by simp;omega
 have k4:(n.kind == 4)=false:=by simp;omega
 have k5:(n.kind == 5)=false:=by simp;omega
 have k44:(n.kind == 44)=false:=by simp;omega
 have k45:(n.kind == 45)=false:=by simp;omega
 have k50:(n.kind == 50)=false:=by simp;omega
 have k51:(n.kind == 51)=false:=by simp;omega
 have k54:(n.kind == 54)=false:=by simp;omega
 have k55:(n.kind == 55)=false:=by simp;omega
 clear hn hA hkk hok hk
 unfold PrgV
 go_enter Tryz.func130,Tryz.ntmps130
 go_wp2
 go_ret
 exact ⟨rfl,HA.out⟩
theorem ziV (k:Int) (num:Int) (s:ByteArray) (kids:List Nd) (hk:k=50∨k=51) (q:Nat) (v lv:Value) (A:Nat→Prop) (w:World)
 (p:Prg) (va:Option Addr) (vc:Nat) (pa:Option Addr) (pc:Nat) (ka:Option Addr) (kc:Nat) (hp:PrgAt Any w va vc pa pc ka kc p) (hq:IdxP p.procs s q) (hlq:kids.length=(at' p.procs q).params.length) (hn:NdAt A w v (.mk k num s kids)):
 Calls Tryz.prog 130 #[PrgV va vc pa pc ka kc p,v,lv] w (ZeroB w):=by
 obtain ⟨hok,hlen,ja,jc,he,hkk⟩:=hn.open
 have he':v=.agg #[.int .u8 k,.int .i64 num,.string s,.slice ja kids.length jc]:=he
 subst he'
 have hA:Below w.heap.size w ((w.alloc (bxP va vc pa pc ka kc p)).alloc (.cells #[.int .u8 k,.int .i64 num,.string s,.slice ja kids.length jc] 34)):=zaa (zaa (Below.refl _ _))
 have HA:=Lib.hid hA
 have HU:=Lib.hid (zhH p s q va vc pa pc ka kc Any _ (hp.stays (Stays.of_below hA)) hq)
 have HP:=Lib.hid hp
 have HO:=Lib.hid (zaI w (bxP va vc pa pc ka kc p) (.cells #[.int .u8 k,.int .i64 num,.string s,.slice ja kids.length jc] 34))
 have HNW:=Lib.hid (zaw w (bxP va vc pa pc ka kc p) (.cells #[.int .u8 k,.int .i64 num,.string s,.slice ja kids.length jc] 34))
 obtain ⟨x0,x1,x2,x3,x4,x5⟩:=cells6' HO.out
 obtain ⟨y0,y1,y2,y3⟩:=cells4 HNW.out
 have hqlt:=hq.lt
 have HLQ:=Lib.hid hlq
 clear hlq
 have i0:(0:Int)≤(q:Int):=by omega
 have i1:(q:Int) < (p.procs.length:Int):=by omega
 have hlm:=hp.hp.form.1
 unfold maxLen at hlm
 clear hn hA hkk hok he hp hq
 unfold PrgV
 rcases hk with rfl|rfl
 all_goals
  go_enter Tryz.func130,Tryz.ntmps130
  go_wp2_with fail
  refine HU.out.mono ?_
  rintro e w1 ⟨rfl,hb1⟩
  have HB1:=Lib.hid (HA.out.trans (hb1.mono HA.out.size))
  obtain ⟨u0,u1,u2,u3,u4,u5⟩:=cells6' (zad hb1 HO.out)
  obtain ⟨z0,z1,z2,z3⟩:=cells4 (zad hb1 HNW.out)
  obtain ⟨b,off,qa,qc,xa,xc,he,hb,_,_,_,c0,c1,c2,c3,c4,c5,hr,hnn,hsz⟩:=zdP (HP.out.hp.stays (Stays.of_below HB1.out)) hqlt
  subst he
  rw [← HLQ.out] at c1
  clear hb1 HU hr hnn x0 x1 x2 x3 x4 x5 y0 y1 y2 y3
  go_wp2
  go_region
  go_wp2
  go_ret
  exact ⟨rfl,zal HB1.out 1⟩
theorem zhs (k:Int) (num:Int) (s:ByteArray) (kids:List Nd) (i q:Nat) (l:List Dcl) (d:Dcl) (hi:i < kids.length) (hd:findD l (at' kids i).name=some d) (v:Value) (la:Option Addr) (lc:Nat) (A:Nat→Prop) (w:World)
 (p:Prg) (va:Option Addr) (vc:Nat) (pa:Option Addr) (pc:Nat) (ka:Option Addr) (kc:Nat) (hp:PrgAt Any w va vc pa pc ka kc p) (hq:IdxP p.procs s q) (hlq:kids.length=(at' p.procs q).params.length) (hkd:(at' (at' p.procs q).params i).kind=d.kind) (hn:NdAt A w v (.mk k num s kids)) (hv:RowsAt DclE Any w (.slice la l.length lc) l):
 Calls Tryz.prog 132 #[PrgV va vc pa pc ka kc p,v,.int .i64 i,.slice la l.length lc] w (ZeroB w):=by
 obtain ⟨hok,hlen,ja,jc,he,hkk⟩:=hn.open
 have he':v=.agg #[.int .u8 k,.int .i64 num,.string s,.slice ja kids.length jc]:=he
 subst he'
 have hkk':KidsAt A w (.slice ja kids.length jc) kids:=hkk
 have hA:Below w.heap.size w ((w.alloc (bxP va vc pa pc ka kc p)).alloc (.cells #[.int .u8 k,.int .i64 num,.string s,.slice ja kids.length jc] 34)):=zaa (zaa (Below.refl _ _))
 have HA:=Lib.hid hA
 have HF:=Lib.hid (zjY l (at' kids i).name la lc Any _ (hv.stays (Stays.of_below hA)))
 have HPR:=Lib.hid (fun w1 (h:Below w.heap.size w w1)=>zhH p s q va vc pa pc ka kc Any w1 (hp.stays (Stays.of_below h)) hq)
 have HP:=Lib.hid hp
 have HO:=Lib.hid (zaI w (bxP va vc pa pc ka kc p) (.cells #[.int .u8 k,.int .i64 num,.string s,.slice ja kids.length jc] 34))
 have HNW:=Lib.hid (zaw w (bxP va vc pa pc ka kc p) (.cells #[.int .u8 k,.int .i64 num,.string s,.slice ja kids.length jc] 34))
 obtain ⟨x0,x1,x2,x3,x4,x5⟩:=cells6' HO.out
 obtain ⟨y0,y1,y2,y3⟩:=cells4 HNW.out
 obtain ⟨kb,koff,kcap,k1,k2,ke,hkb,_,_,g0,g1,g2,g3,hknd⟩:=(hkk'.stays (Stays.of_below hA)).at hi
 simp only [Value.slice.injEq] at ke
 obtain ⟨rfl,-,rfl⟩:=ke
 have hqlt:=hq.lt
 have i0:(0:Int)≤(q:Int):=by omega
 have i1:(q:Int) < (p.procs.length:Int):=by omega
 have j0:(0:Int)≤(i:Int):=by omega
 have j1:(i:Int) < (kids.length:Int):=by omega
 have hlm:=hp.hp.form.1
 have HD:=Lib.hid hd
 have HLQ:=Lib.hid hlq
 have HKD:=Lib.hid hkd
 unfold maxLen at hlm
 clear hn hA hkk hkk' hok he hp hq hd hlq hkd hknd hv
 go_enter Tryz.func132,Tryz.ntmps132
 go_wp2_with fail
 refine HF.out.mono ?_
 rintro e w1 ⟨rfl,hb1⟩
 rw [HD.out]
 simp only [dclV,Option.isSome]
 have HB1:=Lib.hid (HA.out.trans (hb1.mono HA.out.size))
 have hba:Below w1.heap.size w1 (w1.alloc (.cells #[.string d.name,.int .u8 d.kind,.int .i64 0] 100)):=zaa (Below.refl _ _)
 have HB2:=Lib.hid (HB1.out.trans (hba.mono HB1.out.size))
 have HO2:=Lib.hid (zad hba (zad hb1 HO.out))
 have HN2:=Lib.hid (zad hba (zad hb1 HNW.out))
 have HD2:=Lib.hid (zah w1 (.cells #[.string d.name,.int .u8 d.kind,.int .i64 0] 100))
 obtain ⟨u0,u1,u2,u3,u4,u5⟩:=cells6' HO2.out
 obtain ⟨z0,z1,z2,z3⟩:=cells4 HN2.out
 have HPC:=Lib.hid (HPR.out _ HB2.out)
 clear hb1 hba HF HPR x0 x1 x2 x3 x4 x5 y0 y1 y2 y3 g0 g1 g2 g3
 go_wp2_with fail
 refine HPC.out.mono ?_
 rintro e w3 ⟨rfl,hb3⟩
 have HB3:=Lib.hid (HB2.out.trans (hb3.mono HB2.out.size))
 have HO3:=Lib.hid (zad hb3 HO2.out)
 have HN3:=Lib.hid (zad hb3 HN2.out)
 have HD3:=Lib.hid (zad hb3 HD2.out)
 obtain ⟨t0,t1,t2,t3,t4,t5⟩:=cells6' HO3.out
 obtain ⟨s0,s1,s2,s3⟩:=cells4 HN3.out
 have hw13:w1.heap.size < w3.heap.size:=(Array.getElem?_eq_some_iff.1 HD3.out).1
 have d0:=zae HD3.out 0 rfl
 have d1:=zae HD3.out 1 rfl
 have d2:=zae HD3.out 2 rfl
 obtain ⟨b,off,qa,qc,xa,xc,he,hb,_,_,_,c0,c1,c2,c3,c4,c5,hr,hnn,hsz⟩:=zdP (HP.out.hp.stays (Stays.of_below HB3.out)) hqlt
 subst he
 have hrl:i < (at' p.procs q).params.length:=by rw [← HLQ.out];exact hi
 obtain ⟨b2,off2,he2,hbb2,f0,f1,f2⟩:=zdn hr hrl
 subst he2
 rw [← HLQ.out] at c1
 rw [HKD.out] at f1
 clear hb3 HPC hr hnn u0 u1 u2 u3 u4 u5 z0 z1 z2 z3
 go_wp2
 go_region
 all_goals
  go_wp2
  go_ret
  exact ⟨rfl,by first|exact zaa (zal HB3.out 1)|exact zal (zaa HB3.out) 1⟩
end Go.Proofs.YtpobmoegmdhbpaaGreatDoor
