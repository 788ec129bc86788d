/- Contracts and plain lemmas (TreeC, TreeD, TreeE): no statement of the seat is proved here. -/
import Derived.Test.YtpobmoegmdhbpaaGreatDoorXq14
/- Walks:tests of trees that pass (package ast:kids,every,plain). -/
set_option linter.unusedSimpArgs false
set_option linter.unusedVariables false
set_option linter.unusedSectionVars false
set_option maxRecDepth 100000
set_option maxHeartbeats 1600000
namespace Go.Proofs.YtpobmoegmdhbpaaGreatDoor
open Go.RowKit
def Enters (F:Nat):Prop:=∀ (args:Array Value) (w:World),(callFunc F args).run Tryz.prog w=.ok (.enter F args) w
theorem zbc:Enters 214:=fun args w=>by kernel_rfl
def Passes (F:Nat) (n:Nd):Prop:=∀ (v:Value) (A:Nat→Prop) (w:World),NdAt A w v n→Calls Tryz.prog F #[v] w fun e w'=>e=.returned (.bool true)∧Below w.heap.size w w'
theorem zbQ (n:Nd) (h1:n.num=0) (h2:n.name=ByteArray.empty):Passes 171 n:=by
 intro v A w hv
 obtain ⟨hok,hlen,ka,kc,rfl,hk⟩:=hv.open
 rw [h1,h2]
 go_enter Tryz.func171,Tryz.ntmps171
 go_wp2
 go_ret
 exact ⟨rfl,(Below.refl _ _).alloc (Nat.le_refl _) _⟩
theorem zfj (F:Nat) (l:List Nd) (v:Value) (A:Nat→Prop) (w:World) (hv:KidsAt A w v l) (hF:Enters F) (hp:∀ j,j < l.length→Passes F (at' l j)):
 Calls Tryz.prog 172 #[v,.func (.func F) #[] #[]] w fun e w'=>e=.returned (.bool true)∧Below w.heap.size w w':=by
 obtain ⟨hlen,ka,kc,rfl⟩:=hv.form
 have HP:=Lib.hid hp
 have HV:=Lib.hid hv
 unfold Enters at hF
 unfold maxLen at hlen
 clear hp hv
 go_enter Tryz.func172,Tryz.ntmps172
 go_wp2
 go_loopw [9] (fun i wr=>∃ k:Nat,k≤l.length∧i=.int .i64 k∧Below w.heap.size w wr) (fun i _=>l.length - (intOf i).toNat)
 case atStart=>exact ⟨0,Nat.zero_le _,rfl,Below.refl _ _⟩
 case round=>
  obtain ⟨k,hkk,rfl,hbl⟩:=hrel
  have hz:=hbl.size
  by_cases hlt:k < l.length
  · obtain ⟨b,off,cap,kb,kd,he,hb,_,_,c0,c1,c2,c3,hnd⟩:=(HV.out.stays (Stays.of_below hbl)).at hlt
    simp only [Value.slice.injEq] at he
    obtain ⟨rfl,-,rfl⟩:=he
    have hA2:Below wr.heap.size wr (wr.alloc (.cells #[.int .u8 (at' l k).kind,.int .i64 (at' l k).num,.string (at' l k).name,.slice kb (at' l k).kids.length kd] 34)):=(Below.refl _ _).alloc (Nat.le_refl _) _
    have HND:=Lib.hid (hnd.stays (Stays.of_below hA2))
    clear hnd
    go_wp2_with fail
    refine (HP.out k hlt _ A _ HND.out).mono ?_
    rintro e w2 ⟨rfl,hb2⟩
    have hB2:Below w.heap.size w w2:=hbl.trans ((hA2.trans (hb2.mono hA2.size)).mono hz)
    go_wp2
    go_roundw
    case rel=>exact ⟨k+1,by omega,by go_num,hB2⟩
    case measure=>simp [intOf];omega
  · obtain rfl:k=l.length:=by omega
    have hlt':¬ (l.length:Int) < (l.length:Int):=by omega
    go_wp2
    go_ret
    exact ⟨rfl,hbl⟩
theorem zdy (n:Nd) (v:Value) (A:Nat→Prop) (w:World) (g:Nat) (fs:Nat→Nat) (hv:NdAt A w v n) (hg:g < w.heap.size) (hf:∀ j,j < n.kids.length→w.cell? ⟨g,j,none⟩=some (.func (.func (fs j)) #[] #[])) (hF:∀ j,j < n.kids.length→Enters (fs j)) (hp:∀ j,j < n.kids.length→Passes (fs j) (at' n.kids j)):
 Calls Tryz.prog 212 #[v,.slice (some ⟨g,0,none⟩) n.kids.length n.kids.length] w fun e w'=>e=.returned (.bool true)∧Below w.heap.size w w':=by
 obtain ⟨hok,hlen,ka,kc,rfl,hk⟩:=hv.open
 unfold maxLen at hlen
 have hA:Below w.heap.size w (w.alloc (.cells #[.int .u8 n.kind,.int .i64 n.num,.string n.name,.slice ka n.kids.length kc] 34)):=(Below.refl _ _).alloc (Nat.le_refl _) _
 have hws:w.heap.size < (w.alloc (.cells #[.int .u8 n.kind,.int .i64 n.num,.string n.name,.slice ka n.kids.length kc] 34)).heap.size:=by simp
 have HN:=Lib.hid (zae (zah w (.cells #[.int .u8 n.kind,.int .i64 n.num,.string n.name,.slice ka n.kids.length kc] 34)) 3 rfl)
 have HK:=Lib.hid (hk.stays (Stays.of_below hA))
 have HP:=Lib.hid hp
 have HF:Hid (∀ j,j < n.kids.length→(w.alloc (.cells #[.int .u8 n.kind,.int .i64 n.num,.string n.name,.slice ka n.kids.length kc] 34)).cell? ⟨g,j,none⟩=some (.func (.func (fs j)) #[] #[])):=Lib.hid (fun j hj=>(hA.cell (p:=⟨g,j,none⟩) hg).trans (hf j hj))
 have hgw:=Nat.lt_of_lt_of_le hg hA.size
 have HE:=Lib.hid hF
 clear hv hk hp hf hF
 go_enter Tryz.func212,Tryz.ntmps212
 go_wp2
 generalize (w.alloc (.cells #[.int .u8 n.kind,.int .i64 n.num,.string n.name,.slice ka n.kids.length kc] 34))=W at *
 go_loopw [15] (fun i wr=>∃ k:Nat,k≤n.kids.length∧i=.int .i64 k∧Below W.heap.size W wr) (fun i _=>n.kids.length - (intOf i).toNat)
 case atStart=>exact ⟨0,Nat.zero_le _,rfl,Below.refl _ _⟩
 case round=>
  obtain ⟨k,hkk,rfl,hbl⟩:=hrel
  have hz:=hbl.size
  have b3:=(hbl.cell (p:=⟨w.heap.size,3,none⟩) hws).trans HN.out
  by_cases hlt:k < n.kids.length
  · obtain ⟨b,off,cap,kb,kd,he,hb,_,_,c0,c1,c2,c3,hnd⟩:=(HK.out.stays (Stays.of_below hbl)).at hlt
    simp only [Value.slice.injEq] at he
    obtain ⟨rfl,-,rfl⟩:=he
    have hE:=HE.out k hlt
    unfold Enters at hE
    have d0:=(hbl.cell (p:=⟨g,k,none⟩) hgw).trans (HF.out k hlt)
    have HND:=Lib.hid hnd
    clear hnd
    go_wp2_with fail
    refine (HP.out k hlt _ A _ HND.out).mono ?_
    rintro e w2 ⟨rfl,hb2⟩
    have hB2:Below W.heap.size W w2:=hbl.trans (hb2.mono hz)
    go_wp2
    go_roundw
    case rel=>exact ⟨k+1,by omega,by go_num,hB2⟩
    case measure=>simp [intOf];omega
  · obtain rfl:k=n.kids.length:=by omega
    have hlt':¬ (n.kids.length:Int) < (n.kids.length:Int):=by omega
    go_wp2
    go_ret
    exact ⟨rfl,hA.trans (hbl.mono hA.size)⟩
end Go.Proofs.YtpobmoegmdhbpaaGreatDoor
/- Walks:good names (package lexer). -/
namespace Go.Proofs.YtpobmoegmdhbpaaGreatDoor
open Go.RowKit
theorem zeO (c:Int) (w:World) (h:97≤c∧c≤122):Calls Tryz.prog 164 #[.int .u8 c] w fun e w'=>e=.returned (.bool true)∧w=w':=by
 obtain ⟨h1,h2⟩:=h
 go_enter Tryz.func164,Tryz.ntmps164
 go_wp2
 go_ret
 exact ⟨rfl,rfl⟩
theorem zgJ (c:Int) (w:World) (h:c < 97):Calls Tryz.prog 164 #[.int .u8 c] w fun e w'=>e=.returned (.bool false)∧w=w':=by
 have h1:¬ 97≤c:=by omega
 go_enter Tryz.func164,Tryz.ntmps164
 go_wp2
 go_ret
 exact ⟨rfl,rfl⟩
theorem zjv (c:Int) (w:World) (h:48≤c∧c≤57):Calls Tryz.prog 167 #[.int .u8 c] w fun e w'=>e=.returned (.bool true)∧w=w':=by
 obtain ⟨h1,h2⟩:=h
 go_enter Tryz.func167,Tryz.ntmps167
 go_wp2
 go_ret
 exact ⟨rfl,rfl⟩
theorem zjw (c:Int) (w:World) (h:97≤c∧c≤122∨48≤c∧c≤57):Calls Tryz.prog 166 #[.int .u8 c] w fun e w'=>e=.returned (.bool true)∧w=w':=by
 rcases h with h|h
 · have HL:=Lib.hid (zeO c w h)
   clear h
   go_enter Tryz.func166,Tryz.ntmps166
   go_wp2_with (go_at_call 164;refine HL.out.mono ?_;rintro e w' ⟨rfl,rfl⟩)
   go_ret
   exact ⟨rfl,rfl⟩
 · have HL:=Lib.hid (zgJ c w (by omega))
   have HD:=Lib.hid (zjv c w h)
   clear h
   go_enter Tryz.func166,Tryz.ntmps166
   go_wp2_with (first|(go_at_call 164;refine HL.out.mono ?_;rintro e w' ⟨rfl,rfl⟩)|(go_at_call 167;refine HD.out.mono ?_;rintro e w' ⟨rfl,rfl⟩))
   go_ret
   exact ⟨rfl,rfl⟩
def NmOk (s:ByteArray):Prop:=0 < s.size∧s.size≤16∧(∀ h:0 < s.size,97≤s[0].toNat∧s[0].toNat≤122)∧(∀ j (h:j < s.size),97≤s[j].toNat∧s[j].toNat≤122∨48≤s[j].toNat∧s[j].toNat≤57)∧keyB s=false
theorem zlw (s:ByteArray) (w:World) (hs:s.size≤16) (h:∀ j (h:j < s.size),97≤s[j].toNat∧s[j].toNat≤122∨48≤s[j].toNat∧s[j].toNat≤57):
 Calls Tryz.prog 165 #[.string s,.func (.func 166) #[] #[]] w fun e w'=>e=.returned (.int .i64 s.size)∧w=w':=by
 have H:=Lib.hid h
 clear h
 go_enter Tryz.func165,Tryz.ntmps165
 go_wp2
 go_loop [8] (fun i=>∃ k:Nat,k≤s.size∧i=.int .i64 k) (fun i=>s.size - (intOf i).toNat)
 case atStart=>exact ⟨0,Nat.zero_le _,rfl⟩
 case round=>
  obtain ⟨k,hk,rfl⟩:=hrel
  by_cases hlt:k < s.size
  · have HA:=Lib.hid (zjw (s[k].toNat:Int) w (by have:=H.out k hlt;omega))
    go_wp2_with (go_at_call 166;refine HA.out.mono ?_;rintro e w' ⟨rfl,rfl⟩)
    go_round
    case rel=>exact ⟨k+1,by omega,by go_num⟩
    case measure=>simp [intOf];omega
  · obtain rfl:k=s.size:=by omega
    have hlt':¬ (s.size:Int) < (s.size:Int):=by omega
    go_wp2
    go_ret
    exact ⟨rfl,rfl⟩
theorem zjJ (s:ByteArray) (w:World) (hn:NmOk s):
 Calls Tryz.prog 123 #[.string s] w fun e w'=>e=.returned (.tuple #[.int .u8 1,.int .i64 s.size])∧w=w':=by
 obtain ⟨h1,h2,h3,h4,h5⟩:=hn
 have HL:=Lib.hid (zeO (s[0].toNat:Int) w (by have:=h3 h1;omega))
 have HS:=Lib.hid (zlw s w h2 h4)
 clear h3 h4 h5
 go_enter Tryz.func123,Tryz.ntmps123
 go_wp2_with (first|(go_at_call 164;refine HL.out.mono ?_;rintro e w' ⟨rfl,rfl⟩)|(go_at_call 165;refine HS.out.mono ?_;rintro e w' ⟨rfl,rfl⟩))
 go_ret2
 exact ⟨rfl,rfl⟩
theorem zey (s:ByteArray) (w:World) (hn:NmOk s):
 Calls Tryz.prog 73 #[.string s] w fun e w'=>e=.returned (.bool true)∧Below w.heap.size w w':=by
 have HF:=Lib.hid (zjJ s w hn)
 obtain ⟨h1,h2,h3,h4,h5⟩:=hn
 have HK:=Lib.hid (zcV s w (by unfold maxLen;omega))
 have HKF:=Lib.hid h5
 obtain ⟨he,he2⟩:=zcC (s:=s) (by omega)
 have hd:decide (16 < (s.size:Int))=false:=by simp;omega
 clear h3 h4 h5
 go_enter Tryz.func73,Tryz.ntmps73
 go_wp2_with (first|(go_at_call 123;refine HF.out.mono ?_;rintro e w' ⟨rfl,rfl⟩)|(go_at_call 124;refine HK.out.mono ?_;rintro e w1 ⟨rfl,hb1⟩;rw [HKF.out]))
 go_ret
 exact ⟨rfl,hb1⟩
theorem zbV (n:Nd) (h1:n.num=0) (h2:NmOk n.name):Passes 215 n:=by
 intro v A w hv
 obtain ⟨hok,hlen,ka,kc,rfl,hk⟩:=hv.open
 rw [h1]
 have hA:Below w.heap.size w (w.alloc (.cells #[.int .u8 n.kind,.int .i64 0,.string n.name,.slice ka n.kids.length kc] 34)):=(Below.refl _ _).alloc (Nat.le_refl _) _
 have HN:=Lib.hid (zey n.name (w.alloc (.cells #[.int .u8 n.kind,.int .i64 0,.string n.name,.slice ka n.kids.length kc] 34)) h2)
 clear h2
 go_enter Tryz.func215,Tryz.ntmps215
 go_wp2_with (go_at_call 73;refine HN.out.mono ?_;rintro e w1 ⟨rfl,hb1⟩)
 go_ret
 exact ⟨rfl,hA.trans (hb1.mono hA.size)⟩
end Go.Proofs.YtpobmoegmdhbpaaGreatDoor
/- Walks:expressions,places,statements and blocks that pass (package ast). -/
namespace Go.Proofs.YtpobmoegmdhbpaaGreatDoor
open Go.RowKit
theorem zbL:Enters 126:=fun args w=>by kernel_rfl
theorem zcv:Enters 213:=fun args w=>by kernel_rfl
theorem zho:Enters 162:=fun args w=>by kernel_rfl
theorem zaU {w w':World} {y:Obj} {g:Nat} (hb:Below w.heap.size w w') (h:w.heap[g]?=some y):w'.heap[g]?=some y:=by
 have hg:g < w.heap.size:=by rw [Array.getElem?_eq_some_iff] at h;exact h.1
 rw [hb.block g hg];exact h
theorem cells4T {w:World} {b e:Nat} {v0 v1 v2 v3:Value} (h:w.heap[b]?=some (.cells #[v0,v1,v2,v3] e (0,0))):
 w.cell? ⟨b,0,none⟩=some v0∧w.cell? ⟨b,1,none⟩=some v1∧w.cell? ⟨b,2,none⟩=some v2∧w.cell? ⟨b,3,none⟩=some v3:=
 ⟨zae h 0 rfl,zae h 1 rfl,zae h 2 rfl,zae h 3 rfl⟩
theorem zdI (x:Int) (hx:0≤x):Passes 214 (.mk 1 x ByteArray.empty []):=by
 intro v A w hv
 obtain ⟨hok,hlen,ka,kc,rfl,hk⟩:=hv.open
 simp only [Nd.kind,Nd.num,Nd.name,Nd.kids,List.length_nil]
 clear hv hk hok hlen
 go_enter Tryz.func214,Tryz.ntmps214
 go_wp2
 go_ret
 exact ⟨rfl,(Below.refl _ _).alloc (Nat.le_refl _) _⟩
theorem zaQ (k:Int) (s:ByteArray) (hk:k=2∨k=4∨k=5) (hs:NmOk s):Passes 214 (.mk k 0 s []):=by
 intro v A w hv
 obtain ⟨_,_,ka,kc,he,_⟩:=hv.open
 have hA:Below w.heap.size w (w.alloc (.cells #[.int .u8 k,.int .i64 0,.string s,.slice ka 0 kc] 34)):=(Below.refl _ _).alloc (Nat.le_refl _) _
 have he':v=.agg #[.int .u8 k,.int .i64 0,.string s,.slice ka 0 kc]:=he
 subst he'
 have HN:=Lib.hid (zbV (.mk k 0 s []) rfl hs _ A _ (hv.stays (Stays.of_below hA)))
 clear he hv hs
 rcases hk with rfl|rfl|rfl
 all_goals
  go_enter Tryz.func214,Tryz.ntmps214
  go_wp2_with (go_at_call 215;refine HN.out.mono ?_;rintro e w1 ⟨rfl,hb1⟩;have hr:=zaU hb1 (zah w _);have c3:=zae hr 3 rfl;clear hr)
  go_ret
  exact ⟨rfl,hA.trans (hb1.mono hA.size)⟩
def TruePost (w:World) (e:Ending) (w':World):Prop:=e=.returned (.bool true)∧Below w.heap.size w w'
theorem testK1 (n:Nd) (F0 T:Nat) (hl:n.kids.length=1) (e0:Enters F0) (p0:Passes F0 (at' n.kids 0)) (v:Value) (A:Nat→Prop) (w:World) (hv:NdAt A w v n):
 Calls Tryz.prog 212 #[v,.slice (some ⟨w.heap.size,0,none⟩) 1 1] (w.alloc (.cells #[.func (.func F0) #[] #[]] T)) (TruePost w):=by
 have hA:Below w.heap.size w (w.alloc (.cells #[.func (.func F0) #[] #[]] T)):=(Below.refl _ _).alloc (Nat.le_refl _) _
 have h:=zdy n v A (w.alloc (.cells #[.func (.func F0) #[] #[]] T)) w.heap.size (fun _=>F0) (hv.stays (Stays.of_below hA)) (by simp) (fun j hj=>by
  rw [hl] at hj
  match j,hj with
  | 0,_=>exact zae (zah w _) 0 rfl) (fun j hj=>e0) (fun j hj=>by
  rw [hl] at hj
  match j,hj with
  | 0,_=>exact p0)
 rw [hl] at h
 exact h.mono fun e w' ⟨h1,h2⟩=>⟨h1,hA.trans (h2.mono hA.size)⟩
theorem testK2 (n:Nd) (F0 F1 T:Nat) (hl:n.kids.length=2) (e0:Enters F0) (e1:Enters F1) (p0:Passes F0 (at' n.kids 0)) (p1:Passes F1 (at' n.kids 1)) (v:Value) (A:Nat→Prop) (w:World) (hv:NdAt A w v n):
 Calls Tryz.prog 212 #[v,.slice (some ⟨w.heap.size,0,none⟩) 2 2] (w.alloc (.cells #[.func (.func F0) #[] #[],.func (.func F1) #[] #[]] T)) (TruePost w):=by
 have hA:Below w.heap.size w (w.alloc (.cells #[.func (.func F0) #[] #[],.func (.func F1) #[] #[]] T)):=(Below.refl _ _).alloc (Nat.le_refl _) _
 have h:=zdy n v A (w.alloc (.cells #[.func (.func F0) #[] #[],.func (.func F1) #[] #[]] T)) w.heap.size (fun j=>[F0,F1].getD j 0) (hv.stays (Stays.of_below hA)) (by simp) (fun j hj=>by
  rw [hl] at hj
  match j,hj with
  | 0,_=>exact zae (zah w _) 0 rfl
  | 1,_=>exact zae (zah w _) 1 rfl) (fun j hj=>by
  rw [hl] at hj
  match j,hj with
  | 0,_=>exact e0
  | 1,_=>exact e1) (fun j hj=>by
  rw [hl] at hj
  match j,hj with
  | 0,_=>exact p0
  | 1,_=>exact p1)
 rw [hl] at h
 exact h.mono fun e w' ⟨h1,h2⟩=>⟨h1,hA.trans (h2.mono hA.size)⟩
theorem testK3 (n:Nd) (F0 F1 F2 T:Nat) (hl:n.kids.length=3) (e0:Enters F0) (e1:Enters F1) (e2:Enters F2) (p0:Passes F0 (at' n.kids 0)) (p1:Passes F1 (at' n.kids 1)) (p2:Passes F2 (at' n.kids 2)) (v:Value) (A:Nat→Prop) (w:World) (hv:NdAt A w v n):
 Calls Tryz.prog 212 #[v,.slice (some ⟨w.heap.size,0,none⟩) 3 3] (w.alloc (.cells #[.func (.func F0) #[] #[],.func (.func F1) #[] #[],.func (.func F2) #[] #[]] T)) (TruePost w):=by
 have hA:Below w.heap.size w (w.alloc (.cells #[.func (.func F0) #[] #[],.func (.func F1) #[] #[],.func (.func F2) #[] #[]] T)):=(Below.refl _ _).alloc (Nat.le_refl _) _
 have h:=zdy n v A (w.alloc (.cells #[.func (.func F0) #[] #[],.func (.func F1) #[] #[],.func (.func F2) #[] #[]] T)) w.heap.size (fun j=>[F0,F1,F2].getD j 0) (hv.stays (Stays.of_below hA)) (by simp) (fun j hj=>by
  rw [hl] at hj
  match j,hj with
  | 0,_=>exact zae (zah w _) 0 rfl
  | 1,_=>exact zae (zah w _) 1 rfl
  | 2,_=>exact zae (zah w _) 2 rfl) (fun j hj=>by
  rw [hl] at hj
  match j,hj with
  | 0,_=>exact e0
  | 1,_=>exact e1
  | 2,_=>exact e2) (fun j hj=>by
  rw [hl] at hj
  match j,hj with
  | 0,_=>exact p0
  | 1,_=>exact p1
  | 2,_=>exact p2)
 rw [hl] at h
 exact h.mono fun e w' ⟨h1,h2⟩=>⟨h1,hA.trans (h2.mono hA.size)⟩
theorem zdv (k:Int) (a b:Nd) (h0:8≤k) (h1:k≤23) (pa:Passes 214 a) (pb:Passes 214 b):Passes 214 (.mk k 0 ByteArray.empty [a,b]):=by
 intro v A w hv
 obtain ⟨_,_,ka,kc,he,_⟩:=hv.open
 have hA:Below w.heap.size w (w.alloc (.cells #[.int .u8 k,.int .i64 0,.string ⟨#[]⟩,.slice ka 2 kc] 34)):=(Below.refl _ _).alloc (Nat.le_refl _) _
 have he':v=.agg #[.int .u8 k,.int .i64 0,.string ⟨#[]⟩,.slice ka 2 kc]:=he
 subst he'
 have HV:=Lib.hid hv
 have HN:=Lib.hid (zbQ (.mk k 0 ByteArray.empty [a,b]) rfl rfl _ A _ (hv.stays (Stays.of_below hA)))
 have HP:=Lib.hid (testK2 (.mk k 0 ByteArray.empty [a,b]) 214 214 140 rfl zbc zbc pa pb)
 have d1:(k == 1)=false:=by simp;omega
 have d2:(k == 2)=false:=by simp;omega
 have d3:(k == 3)=false:=by simp;omega
 have d4:(k == 4)=false:=by simp;omega
 have d5:(k == 5)=false:=by simp;omega
 have d6:(k == 6)=false:=by simp;omega
 have d7:(k == 7)=false:=by simp;omega
 clear he hv pa pb
 go_enter Tryz.func214,Tryz.ntmps214
 go_wp2_with (first
  | (go_at_call 171;refine HN.out.mono ?_;rintro e w1 ⟨rfl,hb1⟩;have hr:=zaU hb1 (zah w _);obtain ⟨c0,c1,c2,c3⟩:=cells4T hr;clear hr)
  | (go_at_call 212;refine (HP.out _ A w1 (HV.out.stays (Stays.of_below (hA.trans (hb1.mono hA.size))))).mono ?_;rintro e w2 ⟨rfl,hb2⟩))
 go_ret
 exact ⟨rfl,hA.trans ((hb1.trans (hb2.mono hb1.size)).mono hA.size)⟩
theorem zbR (s:ByteArray) (hs:NmOk s):Passes 213 (.mk 2 0 s []):=by
 intro v A w hv
 obtain ⟨_,_,ka,kc,he,_⟩:=hv.open
 have hA:Below w.heap.size w (w.alloc (.cells #[.int .u8 2,.int .i64 0,.string s,.slice ka 0 kc] 34)):=(Below.refl _ _).alloc (Nat.le_refl _) _
 have he':v=.agg #[.int .u8 2,.int .i64 0,.string s,.slice ka 0 kc]:=he
 subst he'
 have HN:=Lib.hid (zaQ 2 s (.inl rfl) hs _ A _ (hv.stays (Stays.of_below hA)))
 clear he hv hs
 go_enter Tryz.func213,Tryz.ntmps213
 go_wp2_with (go_at_call 214;refine HN.out.mono ?_;rintro e w1 ⟨rfl,hb1⟩)
 go_ret
 exact ⟨rfl,hA.trans (hb1.mono hA.size)⟩
theorem zbX (k:Int) (a b:Nd) (hk:k=40∨k=42) (pa:Passes 213 a) (pb:Passes 214 b):Passes 162 (.mk k 0 ByteArray.empty [a,b]):=by
 intro v A w hv
 obtain ⟨_,_,ka,kc,he,_⟩:=hv.open
 have hA:Below w.heap.size w (w.alloc (.cells #[.int .u8 k,.int .i64 0,.string ⟨#[]⟩,.slice ka 2 kc] 34)):=(Below.refl _ _).alloc (Nat.le_refl _) _
 have he':v=.agg #[.int .u8 k,.int .i64 0,.string ⟨#[]⟩,.slice ka 2 kc]:=he
 subst he'
 have HV:=Lib.hid hv
 have HN:=Lib.hid (zbQ (.mk k 0 ByteArray.empty [a,b]) rfl rfl _ A _ (hv.stays (Stays.of_below hA)))
 have HP:=Lib.hid (testK2 (.mk k 0 ByteArray.empty [a,b]) 213 214 140 rfl zcv zbc pa pb)
 clear he hv pa pb
 rcases hk with rfl|rfl
 all_goals
  go_enter Tryz.func162,Tryz.ntmps162
  go_wp2_with (first
   | (go_at_call 171;refine HN.out.mono ?_;rintro e w1 ⟨rfl,hb1⟩;have hr:=zaU hb1 (zah w _);obtain ⟨c0,c1,c2,c3⟩:=cells4T hr;clear hr)
   | (go_at_call 212;refine (HP.out _ A w1 (HV.out.stays (Stays.of_below (hA.trans (hb1.mono hA.size))))).mono ?_;rintro e w2 ⟨rfl,hb2⟩))
  go_ret
  exact ⟨rfl,hA.trans ((hb1.trans (hb2.mono hb1.size)).mono hA.size)⟩
theorem zcS (k:Int) (s:ByteArray) (a:Nd) (hk:k=44∨k=45) (hs:NmOk s) (pa:Passes 213 a):Passes 162 (.mk k 0 s [a]):=by
 intro v A w hv
 obtain ⟨_,_,ka,kc,he,_⟩:=hv.open
 have hA:Below w.heap.size w (w.alloc (.cells #[.int .u8 k,.int .i64 0,.string s,.slice ka 1 kc] 34)):=(Below.refl _ _).alloc (Nat.le_refl _) _
 have he':v=.agg #[.int .u8 k,.int .i64 0,.string s,.slice ka 1 kc]:=he
 subst he'
 have HV:=Lib.hid hv
 have HN:=Lib.hid (zbV (.mk k 0 s [a]) rfl hs _ A _ (hv.stays (Stays.of_below hA)))
 have HP:=Lib.hid (testK1 (.mk k 0 s [a]) 213 140 rfl zcv pa)
 clear he hv pa hs
 rcases hk with rfl|rfl
 all_goals
  go_enter Tryz.func162,Tryz.ntmps162
  go_wp2_with (first
   | (go_at_call 215;refine HN.out.mono ?_;rintro e w1 ⟨rfl,hb1⟩;have hr:=zaU hb1 (zah w _);obtain ⟨c0,c1,c2,c3⟩:=cells4T hr;clear hr)
   | (go_at_call 212;refine (HP.out _ A w1 (HV.out.stays (Stays.of_below (hA.trans (hb1.mono hA.size))))).mono ?_;rintro e w2 ⟨rfl,hb2⟩))
  go_ret
  exact ⟨rfl,hA.trans ((hb1.trans (hb2.mono hb1.size)).mono hA.size)⟩
theorem zcu (s:ByteArray) (a b c:Nd) (hs:NmOk s) (pa:Passes 214 a) (pb:Passes 126 b) (pc:Passes 214 c):Passes 162 (.mk 54 0 s [a,b,c]):=by
 intro v A w hv
 obtain ⟨_,_,ka,kc,he,_⟩:=hv.open
 have hA:Below w.heap.size w (w.alloc (.cells #[.int .u8 54,.int .i64 0,.string s,.slice ka 3 kc] 34)):=(Below.refl _ _).alloc (Nat.le_refl _) _
 have he':v=.agg #[.int .u8 54,.int .i64 0,.string s,.slice ka 3 kc]:=he
 subst he'
 have HV:=Lib.hid hv
 have HN:=Lib.hid (zbV (.mk 54 0 s [a,b,c]) rfl hs _ A _ (hv.stays (Stays.of_below hA)))
 have HP:=Lib.hid (testK3 (.mk 54 0 s [a,b,c]) 214 126 214 140 rfl zbc zbL zbc pa pb pc)
 clear he hv pa pb pc hs
 go_enter Tryz.func162,Tryz.ntmps162
 go_wp2_with (first
  | (go_at_call 215;refine HN.out.mono ?_;rintro e w1 ⟨rfl,hb1⟩;have hr:=zaU hb1 (zah w _);obtain ⟨c0,c1,c2,c3⟩:=cells4T hr;clear hr)
  | (go_at_call 212;refine (HP.out _ A w1 (HV.out.stays (Stays.of_below (hA.trans (hb1.mono hA.size))))).mono ?_;rintro e w2 ⟨rfl,hb2⟩))
 go_ret
 exact ⟨rfl,hA.trans ((hb1.trans (hb2.mono hb1.size)).mono hA.size)⟩
theorem zcm (l:List Nd) (pl:∀ j,j < l.length→Passes 162 (at' l j)):Passes 126 (.mk 57 0 ByteArray.empty l):=by
 intro v A w hv
 obtain ⟨_,hlen,ka,kc,he,hk⟩:=hv.open
 have hA:Below w.heap.size w (w.alloc (.cells #[.int .u8 57,.int .i64 0,.string ⟨#[]⟩,.slice ka l.length kc] 34)):=(Below.refl _ _).alloc (Nat.le_refl _) _
 have he':v=.agg #[.int .u8 57,.int .i64 0,.string ⟨#[]⟩,.slice ka l.length kc]:=he
 subst he'
 have HK:Hid (KidsAt A w (.slice ka l.length kc) l):=Lib.hid hk
 have HN:=Lib.hid (zbQ (.mk 57 0 ByteArray.empty l) rfl rfl _ A _ (hv.stays (Stays.of_below hA)))
 have HP:=Lib.hid pl
 have HES:=Lib.hid zho
 clear he hv pl hk hlen
 go_enter Tryz.func126,Tryz.ntmps126
 go_wp2_with (first
  | (go_at_call 171;refine HN.out.mono ?_;rintro e w1 ⟨rfl,hb1⟩;have hr:=zaU hb1 (zah w _);obtain ⟨c0,c1,c2,c3⟩:=cells4T hr;clear hr)
  | (go_at_call 172;refine (zfj 162 l _ A w1 (HK.out.stays (Stays.of_below (hA.trans (hb1.mono hA.size)))) HES.out HP.out).mono ?_;rintro e w2 ⟨rfl,hb2⟩))
 go_ret
 exact ⟨rfl,hA.trans ((hb1.trans (hb2.mono hb1.size)).mono hA.size)⟩
end Go.Proofs.YtpobmoegmdhbpaaGreatDoor
