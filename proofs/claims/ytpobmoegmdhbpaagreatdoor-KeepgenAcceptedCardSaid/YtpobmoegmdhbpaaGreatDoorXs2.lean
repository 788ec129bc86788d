/- Contracts and plain lemmas (AccA, AccB, AccC): no statement of the seat is proved here. -/
import Derived.Test.YtpobmoegmdhbpaaGreatDoorXq15
import Derived.Test.YtpobmoegmdhbpaaGreatDoorXs1
set_option linter.unusedSimpArgs false
set_option linter.unusedVariables false
set_option linter.unusedSectionVars false
set_option maxRecDepth 100000
set_option maxHeartbeats 3200000
namespace Go.Proofs.YtpobmoegmdhbpaaGreatDoor
open Go.RowKit
theorem zgs:Enters 216:=fun args w=>by kernel_rfl
theorem zoe (s:ByteArray) (hs:NmOk s):Passes 216 (.mk 2 0 s []):=by
 intro v A w hv
 obtain ⟨_,_,ka,kc,he,_⟩:=hv.open
 have hA:Below w.heap.size w (w.alloc (.cells #[.int .u8 2,.int .i64 0,.string s,.slice ka 0 kc] 34)):=(Below.refl _ _).alloc (Nat.le_refl _) _
 have he':v=.agg #[.int .u8 2,.int .i64 0,.string s,.slice ka 0 kc]:=he
 subst he'
 have HN:=Lib.hid (zaQ 2 s (.inl rfl) hs _ A _ (hv.stays (Stays.of_below hA)))
 clear he hv hs
 go_enter Tryz.func216,Tryz.ntmps216
 go_wp2_with (go_at_call 214;refine HN.out.mono ?_;rintro e w1 ⟨rfl,hb1⟩)
 go_ret
 exact ⟨rfl,hA.trans (hb1.mono hA.size)⟩
theorem testK4 (n:Nd) (F0 F1 F2 F3 T:Nat) (hl:n.kids.length=4) (e0:Enters F0) (e1:Enters F1) (e2:Enters F2) (e3:Enters F3) (p0:Passes F0 (at' n.kids 0)) (p1:Passes F1 (at' n.kids 1)) (p2:Passes F2 (at' n.kids 2)) (p3:Passes F3 (at' n.kids 3)) (v:Value) (A:Nat→Prop) (w:World) (hv:NdAt A w v n):
 Calls Tryz.prog 212 #[v,.slice (some ⟨w.heap.size,0,none⟩) 4 4] (w.alloc (.cells #[.func (.func F0) #[] #[],.func (.func F1) #[] #[],.func (.func F2) #[] #[],.func (.func F3) #[] #[]] T)) (TruePost w):=by
 have hA:Below w.heap.size w (w.alloc (.cells #[.func (.func F0) #[] #[],.func (.func F1) #[] #[],.func (.func F2) #[] #[],.func (.func F3) #[] #[]] T)):=(Below.refl _ _).alloc (Nat.le_refl _) _
 have h:=zdy n v A (w.alloc (.cells #[.func (.func F0) #[] #[],.func (.func F1) #[] #[],.func (.func F2) #[] #[],.func (.func F3) #[] #[]] T)) w.heap.size (fun j=>[F0,F1,F2,F3].getD j 0) (hv.stays (Stays.of_below hA)) (by simp) (fun j hj=>by
  rw [hl] at hj
  match j,hj with
  | 0,_=>exact zae (zah w _) 0 rfl
  | 1,_=>exact zae (zah w _) 1 rfl
  | 2,_=>exact zae (zah w _) 2 rfl
  | 3,_=>exact zae (zah w _) 3 rfl) (fun j hj=>by
  rw [hl] at hj
  match j,hj with
  | 0,_=>exact e0
  | 1,_=>exact e1
  | 2,_=>exact e2
  | 3,_=>exact e3) (fun j hj=>by
  rw [hl] at hj
  match j,hj with
  | 0,_=>exact p0
  | 1,_=>exact p1
  | 2,_=>exact p2
  | 3,_=>exact p3)
 rw [hl] at h
 exact h.mono fun e w' ⟨h1,h2⟩=>⟨h1,hA.trans (h2.mono hA.size)⟩
theorem zgU (a b:Nd) (pa:Passes 213 a) (pb:Passes 214 b):Passes 162 (.mk 41 0 ByteArray.empty [a,b]):=by
 intro v A w hv
 obtain ⟨_,_,ka,kc,he,_⟩:=hv.open
 have hA:Below w.heap.size w (w.alloc (.cells #[.int .u8 41,.int .i64 0,.string ⟨#[]⟩,.slice ka 2 kc] 34)):=(Below.refl _ _).alloc (Nat.le_refl _) _
 have he':v=.agg #[.int .u8 41,.int .i64 0,.string ⟨#[]⟩,.slice ka 2 kc]:=he
 subst he'
 have HV:=Lib.hid hv
 have HN:=Lib.hid (zbQ (.mk 41 0 ByteArray.empty [a,b]) rfl rfl _ A _ (hv.stays (Stays.of_below hA)))
 have HP:=Lib.hid (testK2 (.mk 41 0 ByteArray.empty [a,b]) 213 214 140 rfl zcv zbc pa pb)
 clear he hv pa pb
 go_enter Tryz.func162,Tryz.ntmps162
 go_wp2_with (first
  | (go_at_call 171;refine HN.out.mono ?_;rintro e w1 ⟨rfl,hb1⟩;have hr:=zaU hb1 (zah w _);obtain ⟨c0,c1,c2,c3⟩:=cells4T hr;clear hr)
  | (go_at_call 212;refine (HP.out _ A w1 (HV.out.stays (Stays.of_below (hA.trans (hb1.mono hA.size))))).mono ?_;rintro e w2 ⟨rfl,hb2⟩))
 go_ret
 exact ⟨rfl,hA.trans ((hb1.trans (hb2.mono hb1.size)).mono hA.size)⟩
theorem zgS (k:Int) (a b c d:Nd) (hk:k=52∨k=53) (pa:Passes 214 a) (pb:Passes 126 b) (pc:Passes 126 c) (pd:Passes 214 d):Passes 162 (.mk k 0 ByteArray.empty [a,b,c,d]):=by
 intro v A w hv
 obtain ⟨_,_,ka,kc,he,_⟩:=hv.open
 have hA:Below w.heap.size w (w.alloc (.cells #[.int .u8 k,.int .i64 0,.string ⟨#[]⟩,.slice ka 4 kc] 34)):=(Below.refl _ _).alloc (Nat.le_refl _) _
 have he':v=.agg #[.int .u8 k,.int .i64 0,.string ⟨#[]⟩,.slice ka 4 kc]:=he
 subst he'
 have HV:=Lib.hid hv
 have HN:=Lib.hid (zbQ (.mk k 0 ByteArray.empty [a,b,c,d]) rfl rfl _ A _ (hv.stays (Stays.of_below hA)))
 have HP:=Lib.hid (testK4 (.mk k 0 ByteArray.empty [a,b,c,d]) 214 126 126 214 140 rfl zbc zbL zbL zbc pa pb pc pd)
 clear he hv pa pb pc pd
 rcases hk with rfl|rfl
 all_goals
  go_enter Tryz.func162,Tryz.ntmps162
  go_wp2_with (first
   | (go_at_call 171;refine HN.out.mono ?_;rintro e w1 ⟨rfl,hb1⟩;have hr:=zaU hb1 (zah w _);obtain ⟨c0,c1,c2,c3⟩:=cells4T hr;clear hr)
   | (go_at_call 212;refine (HP.out _ A w1 (HV.out.stays (Stays.of_below (hA.trans (hb1.mono hA.size))))).mono ?_;rintro e w2 ⟨rfl,hb2⟩))
  go_ret
  exact ⟨rfl,hA.trans ((hb1.trans (hb2.mono hb1.size)).mono hA.size)⟩
theorem zhU (s:ByteArray) (b:Nd) (hs:NmOk s) (pb:Passes 126 b):Passes 162 (.mk 55 0 s [b]):=by
 intro v A w hv
 obtain ⟨_,_,ka,kc,he,_⟩:=hv.open
 have hA:Below w.heap.size w (w.alloc (.cells #[.int .u8 55,.int .i64 0,.string s,.slice ka 1 kc] 34)):=(Below.refl _ _).alloc (Nat.le_refl _) _
 have he':v=.agg #[.int .u8 55,.int .i64 0,.string s,.slice ka 1 kc]:=he
 subst he'
 have HV:=Lib.hid hv
 have HN:=Lib.hid (zbV (.mk 55 0 s [b]) rfl hs _ A _ (hv.stays (Stays.of_below hA)))
 have HP:=Lib.hid (testK1 (.mk 55 0 s [b]) 126 140 rfl zbL pb)
 clear he hv pb hs
 go_enter Tryz.func162,Tryz.ntmps162
 go_wp2_with (first
  | (go_at_call 215;refine HN.out.mono ?_;rintro e w1 ⟨rfl,hb1⟩;have hr:=zaU hb1 (zah w _);obtain ⟨c0,c1,c2,c3⟩:=cells4T hr;clear hr)
  | (go_at_call 212;refine (HP.out _ A w1 (HV.out.stays (Stays.of_below (hA.trans (hb1.mono hA.size))))).mono ?_;rintro e w2 ⟨rfl,hb2⟩))
 go_ret
 exact ⟨rfl,hA.trans ((hb1.trans (hb2.mono hb1.size)).mono hA.size)⟩
theorem zhX (k:Int) (s:ByteArray) (l:List Nd) (hk:k=50∨k=51) (hs:NmOk s) (h8:l.length≤8) (pl:∀ j,j < l.length→Passes 216 (at' l j)):Passes 162 (.mk k 0 s l):=by
 intro v A w hv
 obtain ⟨_,_,ka,kc,he,hkk⟩:=hv.open
 have hA:Below w.heap.size w (w.alloc (.cells #[.int .u8 k,.int .i64 0,.string s,.slice ka l.length kc] 34)):=(Below.refl _ _).alloc (Nat.le_refl _) _
 have he':v=.agg #[.int .u8 k,.int .i64 0,.string s,.slice ka l.length kc]:=he
 subst he'
 have HK:Hid (KidsAt A w (.slice ka l.length kc) l):=Lib.hid hkk
 have HN:=Lib.hid (zbV (.mk k 0 s l) rfl hs _ A _ (hv.stays (Stays.of_below hA)))
 have HP:=Lib.hid pl
 have HEV:=Lib.hid zgs
 have h8i:(l.length:Int)≤8:=by omega
 clear he hv pl hkk hs
 rcases hk with rfl|rfl
 all_goals
  go_enter Tryz.func162,Tryz.ntmps162
  go_wp2_with (first
   | (go_at_call 215;refine HN.out.mono ?_;rintro e w1 ⟨rfl,hb1⟩;have hr:=zaU hb1 (zah w _);obtain ⟨c0,c1,c2,c3⟩:=cells4T hr;clear hr)
   | (go_at_call 172;refine (zfj 216 l _ A w1 (HK.out.stays (Stays.of_below (hA.trans (hb1.mono hA.size)))) HEV.out HP.out).mono ?_;rintro e w2 ⟨rfl,hb2⟩))
  go_ret
  exact ⟨rfl,hA.trans ((hb1.trans (hb2.mono hb1.size)).mono hA.size)⟩
end Go.Proofs.YtpobmoegmdhbpaaGreatDoor
namespace Go.Proofs.YtpobmoegmdhbpaaGreatDoor
open Go.RowKit
theorem zga {w:World} {g o b:Nat} {y:Obj} {x:Value} (h:w.heap[b]?=some y) (hne:b≠g):(w.setCell ⟨g,o,none⟩ x).heap[b]?=some y:=by
 have hb:b < w.heap.size:=by rw [Array.getElem?_eq_some_iff] at h;exact h.1
 rw [(zaf w g o x).block b hb hne];exact h
theorem zgW:∀ (l:List Nd) (k:Nat),k < l.length→depthN (at' l k)≤depthL l
 | [],k,h=>by simp at h
 | n :: l,0,_=>by rw [depthL];simp [at',List.getD_eq_getElem?_getD];omega
 | n :: l,k+1,h=>by
   have:=zgW l k (by simpa using h)
   have e:at' (n :: l) (k+1)=at' l k:=by simp [at',List.getD_eq_getElem?_getD]
   rw [e,depthL];omega
def LimPost (n:Nd) (g:Nat) (L:Int) (w:World) (e:Ending) (w':World):Prop:=
 e=.returned (.bool true)∧w'.heap[g]?=some (.cells #[.int .i64 (L - sizeN n)] 3 (0,0))∧Keeps w w' (fun k=>k=g)
theorem zgq (m:Nat):∀ (n:Nd) (v:Value) (A:Nat→Prop) (w:World) (g:Nat) (L D:Int),sizeN n≤m→NdAt A w v n→¬ A g→w.heap[g]?=some (.cells #[.int .i64 L] 3 (0,0))→(sizeN n:Int)≤L∧L≤2000→(depthN n:Int)≤D∧D≤80→
 Calls Tryz.prog 125 #[v,.int .i64 D,.pointer (some ⟨g,0,none⟩)] w (LimPost n g L w):=by
 induction m with
 | zero=>intro n v A w g L D hm;have:=zaH n;omega
 | succ m ih=>
   intro n v A w g L D hm hv hAg hg hL hD
   have IH:=Lib.hid ih
   clear ih
   obtain ⟨hok,hlen,ka,kc,rfl,hk⟩:=hv.open
   have HS:Hid (∀ j,j < n.kids.length→sizeN (at' n.kids j)≤m∧depthN (at' n.kids j)+1≤depthN n):=Lib.hid (fun j hj=>by have:=zaC n j hj;have:=zgW n.kids j hj;have:=zds n;omega)
   have HZ:=Lib.hid (zbd n)
   have hp:=zaH n
   have hdp:1≤depthN n:=by have:=zds n;omega
   clear hm
   unfold maxLen at hlen
   have hgl:g < w.heap.size:=by rw [Array.getElem?_eq_some_iff] at hg;exact hg.1
   have hA:Below w.heap.size w (w.alloc (.cells #[.int .u8 n.kind,.int .i64 n.num,.string n.name,.slice ka n.kids.length kc] 34)):=zaa (Below.refl _ _)
   have hg1:=zad hA hg
   have e1:=zae hg1 0 rfl
   have f1:=unfrozen hg1
   have hg2:=heap_setCell_same _ g 0 _ _ (.int .i64 (L - 1)) hg1
   simp only [List.setIfInBounds_toArray,List.set_cons_zero] at hg2
   have hn2:=zga (o:=0) (x:=.int .i64 (L - 1)) (zah w (.cells #[.int .u8 n.kind,.int .i64 n.num,.string n.name,.slice ka n.kids.length kc] 34)) (g:=g) (by omega)
   obtain ⟨n0,n1,n2,n3⟩:=cells4 hn2
   have hK:=(Keeps.of_below (fun k=>k=g) hA).same (zaf _ g 0 (.int .i64 (L - 1)))
   have HK:=Lib.hid (hk.stays (hK.stays (fun k a _ e=>hAg (e ▸ a))))
   have HG2:=Lib.hid hg2
   have HKK:=Lib.hid hK
   have hwr:IntKind.i64.wrap (L - 1)=L - 1:=by rw [IntKind.wrap_i64];omega
   have HAG:=Lib.hid hAg
   have c1:(L == 0)=false:=by simp;omega
   have c2:(D == 0)=false:=by simp;omega
   have hwd:IntKind.i64.wrap (D - 1)=D - 1:=by rw [IntKind.wrap_i64];omega
   clear hv hk hg hn2 hg1 hg2 hK hgl
   go_enter Tryz.func125,Tryz.ntmps125
   go_wp2
   generalize ((w.alloc (.cells #[.int .u8 n.kind,.int .i64 n.num,.string n.name,.slice ka n.kids.length kc] 34)).setCell ⟨g,0,none⟩ (.int .i64 (L - 1)))=W at *
   go_loopw [25] (fun i wr=>∃ k:Nat,k≤n.kids.length∧i=.int .i64 k∧∃ Lk:Int,wr.heap[g]?=some (.cells #[.int .i64 Lk] 3 (0,0))∧Keeps W wr (fun k=>k=g)∧Lk=L - 1 - sizeL (n.kids.take k)) (fun i _=>n.kids.length - (intOf i).toNat)
   case atStart=>exact ⟨0,Nat.zero_le _,rfl,L - 1,HG2.out,Keeps.refl _ _,by simp [sizeL]⟩
   case round=>
    obtain ⟨k,hkk,rfl,Lk,hgk,hkp,h1⟩:=hrel
    have HKP:=Lib.hid hkp
    have hz:=hkp.size
    have hKW:=HKK.out.size
    by_cases hlt:k < n.kids.length
    · obtain ⟨b,off,cap,ka',kc',he,hb,_,_,q0,q1,q2,q3,hnd⟩:=(HK.out.stays (hkp.stays (fun k a _ e=>HAG.out (e ▸ a)))).at hlt
      simp only [Value.slice.injEq] at he
      obtain ⟨rfl,-,rfl⟩:=he
      have hB:Below wr.heap.size wr (wr.alloc (.cells #[.int .u8 (at' n.kids k).kind,.int .i64 (at' n.kids k).num,.string (at' n.kids k).name,.slice ka' (at' n.kids k).kids.length kc'] 34)):=zaa (Below.refl _ _)
      obtain ⟨kk0,kk1,kk2,kk3⟩:=cells4 (zah wr (.cells #[.int .u8 (at' n.kids k).kind,.int .i64 (at' n.kids k).num,.string (at' n.kids k).name,.slice ka' (at' n.kids k).kids.length kc'] 34))
      have HT:=Lib.hid (zbm n.kids k hlt)
      have hle:sizeL (n.kids.take (k+1))≤sizeL n.kids:=zaL n.kids (k+1)
      have HC:=Lib.hid (IH.out (at' n.kids k) _ A _ g Lk (D - 1) (HS.out k hlt).1 (hnd.stays (Stays.of_below hB)) HAG.out (zad hB hgk) ⟨by have:=HT.out;have:=HZ.out;omega,by omega⟩ ⟨by have:=(HS.out k hlt).2;omega,by omega⟩)
      have HB:=Lib.hid hB
      clear hnd hB hkp hgk
      go_wp2_with fail
      refine HC.out.mono ?_
      rintro e w5 ⟨rfl,hg5,hk5⟩
      have HK5:=Lib.hid ((HKP.out.same (Keeps.of_below _ HB.out)).same hk5)
      have HG5:=Lib.hid hg5
      clear hg5 hk5 kk0 kk1 kk2 kk3 HC
      go_wp2
      go_roundw
      case rel=>exact ⟨k+1,by omega,by go_num,_,HG5.out,HK5.out,by rw [h1,HT.out];push_cast;omega⟩
      case measure=>simp [intOf];omega
    · obtain rfl:k=n.kids.length:=by omega
      have hlt':¬ (n.kids.length:Int) < (n.kids.length:Int):=by omega
      rw [List.take_length] at h1
      have HGK:=Lib.hid hgk
      go_wp2
      go_ret
      have hfin:L - 1 - (sizeL n.kids:Int)=L - (sizeN n:Int):=by rw [HZ.out];push_cast;omega
      exact ⟨rfl,by rw [HGK.out,h1,hfin],HKK.out.same HKP.out⟩
theorem zev (n:Nd) (h80:depthN n≤80) (h2000:sizeN n≤2000) (hB:Passes 126 n):Passes 74 n:=by
 intro v A w hv
 obtain ⟨hok,hlen,ka,kc,rfl,hk⟩:=hv.open
 have hA:Below w.heap.size w ((w.alloc (.cells #[.int .u8 n.kind,.int .i64 n.num,.string n.name,.slice ka n.kids.length kc] 34)).alloc (.cells #[.int .i64 2000] 3)):=zaa (zaa (Below.refl _ _))
 have hv2:NdAt (fun k=>k < w.heap.size) w (.agg #[.int .u8 n.kind,.int .i64 n.num,.string n.name,.slice ka n.kids.length kc]) n:=hv.stays ⟨Nat.le_refl _,fun b hb _=>⟨rfl,hb⟩⟩
 have HV2:=Lib.hid hv2
 have HC:=Lib.hid (zgq _ n _ _ _ (w.heap.size+1) 2000 80 (Nat.le_refl _) (hv2.stays (Stays.of_below hA)) (fun h=>by omega) (zaw w _ _) ⟨by omega,by omega⟩ ⟨by omega,by omega⟩)
 have HA:=Lib.hid hA
 have hn0:=zaI w (.cells #[.int .u8 n.kind,.int .i64 n.num,.string n.name,.slice ka n.kids.length kc] 34) (.cells #[.int .i64 2000] 3)
 have HN0:=Lib.hid hn0
 have hws:w.heap.size < ((w.alloc (.cells #[.int .u8 n.kind,.int .i64 n.num,.string n.name,.slice ka n.kids.length kc] 34)).alloc (.cells #[.int .i64 2000] 3)).heap.size:=by simp;omega
 obtain ⟨n0,n1,n2,n3⟩:=cells4 hn0
 have HB:=Lib.hid hB
 clear hv hk hB hA hv2 hn0
 go_enter Tryz.func74,Tryz.ntmps74
 go_wp2_with fail
 refine HC.out.mono ?_
 rintro e w5 ⟨rfl,hg5,hk5⟩
 have hb5:=HA.out.trans (hk5.below (B:=w.heap.size) (fun k e=>by omega) HA.out.size)
 have hr5:=(hk5.block w.heap.size hws (fun e=>by omega)).trans HN0.out
 obtain ⟨m0,m1,m2,m3⟩:=cells4 hr5
 have HB5:=Lib.hid hb5
 have HBK:=Lib.hid (HB.out _ _ w5 (HV2.out.stays (Stays.of_below hb5)))
 clear hg5 hk5 HC n0 n1 n2 n3 hb5 hr5
 go_wp2_with fail
 refine HBK.out.mono ?_
 rintro e w6 ⟨rfl,hb6⟩
 have HB6:=Lib.hid hb6
 clear HBK hb6
 go_wp2
 go_ret
 exact ⟨rfl,HB5.out.trans (HB6.out.mono HB5.out.size)⟩
def DclOk (d:Dcl):Prop:=NmOk d.name∧(d.kind=1∨d.kind=3)
theorem zcZ (l:List Dcl) (va:Option Addr) (vc:Nat) (A:Nat→Prop) (w:World) (hv:RowsAt DclE A w (.slice va l.length vc) l) (hl:∀ d ∈ l,DclOk d):
 Calls Tryz.prog 72 #[.slice va l.length vc] w fun e w'=>e=.returned (.bool true)∧Below w.heap.size w w':=by
 have hlen:=hv.form.1
 have HV:=Lib.hid hv
 have HL:=Lib.hid hl
 unfold maxLen at hlen
 clear hv hl
 go_enter Tryz.func72,Tryz.ntmps72
 go_wp2
 go_loopw [7] (fun i wr=>∃ k:Nat,k≤l.length∧i=.int .i64 k∧Below w.heap.size w wr) (fun i _=>l.length - (intOf i).toNat)
 case atStart=>exact ⟨0,Nat.zero_le _,rfl,Below.refl _ _⟩
 case round=>
  obtain ⟨k,hkk,rfl,hbl⟩:=hrel
  have HBL:=Lib.hid hbl
  by_cases hlt:k < l.length
  · obtain ⟨b,off,he,hb,c0,c1,c2⟩:=zdn (HV.out.stays (Stays.of_below hbl)) hlt
    subst he
    obtain ⟨hnm,hkd⟩:=HL.out _ (zaT hlt)
    have i0:(0:Int)≤(k:Int):=by omega
    have i1:(k:Int) < (l.length:Int):=by omega
    have hB1:Below wr.heap.size wr (wr.alloc (.cells #[.string (at' l k).name,.int .u8 (at' l k).kind,.int .i64 0] 100)):=zaa (Below.refl _ _)
    have HX:=Lib.hid (zah wr (.cells #[.string (at' l k).name,.int .u8 (at' l k).kind,.int .i64 0] 100))
    have HB1:=Lib.hid hB1
    have d0:=zae HX.out 0 rfl
    have HC:=Lib.hid (zey (at' l k).name (wr.alloc (.cells #[.string (at' l k).name,.int .u8 (at' l k).kind,.int .i64 0] 100)) hnm)
    clear hbl hB1 hnm
    go_wp2_with fail
    refine HC.out.mono ?_
    rintro e w5 ⟨rfl,hb5⟩
    have hx5:=zad hb5 HX.out
    have e1:=zae hx5 1 rfl
    have e2:=zae hx5 2 rfl
    have HB5:=Lib.hid (HBL.out.trans ((HB1.out.trans (hb5.mono HB1.out.size)).mono HBL.out.size))
    clear hb5 hx5 HC d0
    rcases hkd with hkd|hkd
    all_goals
     rw [hkd] at e1
     go_wp2
     go_roundw
     case rel=>exact ⟨k+1,by omega,by go_num,HB5.out⟩
     case measure=>simp [intOf];omega
  · obtain rfl:k=l.length:=by omega
    have hlt':¬ (l.length:Int) < (l.length:Int):=by omega
    clear hbl
    go_wp2
    go_ret
    exact ⟨rfl,HBL.out⟩
structure PrcV (p:Prc):Prop where
 name:NmOk p.name
 plen:p.params.length≤8
 params:∀ d ∈ p.params,DclOk d
 depth:depthN p.body≤80
 size:sizeN p.body≤2000
 body:Passes 126 p.body
structure PrgOk (p:Prg):Prop where
 vlen:p.vars.length≤32
 plen:p.procs.length≤64
 vars:∀ d ∈ p.vars,DclOk d
 procs:∀ q ∈ p.procs,PrcV q
 depth:depthN p.main≤80
 size:sizeN p.main≤2000
 body:Passes 126 p.main
end Go.Proofs.YtpobmoegmdhbpaaGreatDoor
namespace Go.Proofs.YtpobmoegmdhbpaaGreatDoor
open Go.RowKit
theorem cells6' {w:World} {b e:Nat} {v0 v1 v2 v3 v4 v5:Value} (h:w.heap[b]?=some (.cells #[v0,v1,v2,v3,v4,v5] e (0,0))):
 w.cell? ⟨b,0,none⟩=some v0∧w.cell? ⟨b,1,none⟩=some v1∧w.cell? ⟨b,2,none⟩=some v2∧w.cell? ⟨b,3,none⟩=some v3∧w.cell? ⟨b,4,none⟩=some v4∧w.cell? ⟨b,5,none⟩=some v5:=
 ⟨zae h 0 rfl,zae h 1 rfl,zae h 2 rfl,zae h 3 rfl,zae h 4 rfl,zae h 5 rfl⟩
def TruB (w:World) (e:Ending) (w':World):Prop:=e=.returned (.bool true)∧Below w.heap.size w w'
theorem zdN (p:Prg) (hp:PrgOk p) (va:Option Addr) (vc:Nat) (pa:Option Addr) (pc:Nat) (ka:Option Addr) (kc:Nat) (A:Nat→Prop) (w:World) (hv:PrgAt A w va vc pa pc ka kc p):
 Calls Tryz.prog 39 #[PrgV va vc pa pc ka kc p] w (TruB w):=by
 obtain ⟨o1,o2,o3,o4,o5,o6,o7⟩:=hp
 obtain ⟨hV,hP,hM⟩:=hv
 have hA:Below w.heap.size w (w.alloc (.cells #[.slice va p.vars.length vc,.slice pa p.procs.length pc,.int .u8 p.main.kind,.int .i64 p.main.num,.string p.main.name,.slice ka p.main.kids.length kc] 37)):=zaa (Below.refl _ _)
 have hbx:=zah w (.cells #[.slice va p.vars.length vc,.slice pa p.procs.length pc,.int .u8 p.main.kind,.int .i64 p.main.num,.string p.main.name,.slice ka p.main.kids.length kc] 37)
 have HX:=Lib.hid hbx
 have HD:=Lib.hid (zcZ p.vars va vc A _ (hV.stays (Stays.of_below hA)) o3)
 have HP:=Lib.hid hP
 have HM:=Lib.hid hM
 have HA:=Lib.hid hA
 have H4:=Lib.hid o4
 have H7:=Lib.hid (zev p.main o5 o6 o7)
 have h1:¬ (32:Int) < p.vars.length:=by omega
 have h2:¬ (64:Int) < p.procs.length:=by omega
 have d1:decide ((32:Int) < p.vars.length)=false:=by simp;omega
 have d2:decide ((64:Int) < p.procs.length)=false:=by simp;omega
 obtain ⟨x0,x1,x2,x3,x4,x5⟩:=cells6' hbx
 clear hV hP hM hA hbx o3 o4 o7
 unfold PrgV
 go_enter Tryz.func39,Tryz.ntmps39
 go_wp2_with fail
 refine HD.out.mono ?_
 rintro e w1 ⟨rfl,hb1⟩
 have hx1:=zad hb1 HX.out
 obtain ⟨y0,y1,y2,y3,y4,y5⟩:=cells6' hx1
 have HX1:=Lib.hid hx1
 have HB1:=Lib.hid (HA.out.trans (hb1.mono HA.out.size))
 have HP1:=Lib.hid (HP.out.stays (Stays.of_below HB1.out))
 clear hb1 hx1 x0 x1 x2 x3 x4 x5 HD
 go_wp2
 go_loopw [24] (fun i wr=>∃ k:Nat,k≤p.procs.length∧i=.int .i64 k∧Below w1.heap.size w1 wr) (fun i _=>p.procs.length - (intOf i).toNat)
 case atStart=>exact ⟨0,Nat.zero_le _,rfl,Below.refl _ _⟩
 case round=>
  obtain ⟨k,hkk,rfl,hbl⟩:=hrel
  have HBL:=Lib.hid hbl
  by_cases hlt:k < p.procs.length
  · obtain ⟨b,off,qa,qc,ja,jc,he,hb,_,_,_,c0,c1,c2,c3,c4,c5,hr,hn,hsz⟩:=zdP (HP1.out.stays (Stays.of_below hbl)) hlt
    subst he
    obtain ⟨q1,q2,q3,q4,q5,q6⟩:=H4.out _ (zaT hlt)
    have i0:(0:Int)≤(k:Int):=by omega
    have i1:(k:Int) < (p.procs.length:Int):=by omega
    have hB2:Below wr.heap.size wr (wr.alloc (.cells #[.string (at' p.procs k).name,.slice qa (at' p.procs k).params.length qc,.int .u8 (at' p.procs k).body.kind,.int .i64 (at' p.procs k).body.num,.string (at' p.procs k).body.name,.slice ja (at' p.procs k).body.kids.length jc] 83)):=zaa (Below.refl _ _)
    have hX2:=zah wr (.cells #[.string (at' p.procs k).name,.slice qa (at' p.procs k).params.length qc,.int .u8 (at' p.procs k).body.kind,.int .i64 (at' p.procs k).body.num,.string (at' p.procs k).body.name,.slice ja (at' p.procs k).body.kids.length jc] 83)
    have d8:decide ((8:Int) < (at' p.procs k).params.length)=false:=by simp;omega
    have HN:=Lib.hid (zey (at' p.procs k).name _ q1:Calls Tryz.prog 73 #[.string (at' p.procs k).name] (wr.alloc (.cells #[.string (at' p.procs k).name,.slice qa (at' p.procs k).params.length qc,.int .u8 (at' p.procs k).body.kind,.int .i64 (at' p.procs k).body.num,.string (at' p.procs k).body.name,.slice ja (at' p.procs k).body.kids.length jc] 83)) _)
    have HDC:=Lib.hid (fun w3 (h:Below wr.heap.size wr w3)=>zcZ (at' p.procs k).params qa qc A w3 (hr.stays (Stays.of_below h)) q3)
    have HBY:=Lib.hid (fun w3 (h:Below wr.heap.size wr w3)=>zev (at' p.procs k).body q4 q5 q6 _ A w3 (hn.stays (Stays.of_below h)))
    have HX2:=Lib.hid hX2
    have HB2:=Lib.hid hB2
    obtain ⟨z0,z1,z2,z3,z4,z5⟩:=cells6' hX2
    clear hbl hB2 hX2 q1 q3 q6 hr hn
    go_wp2_with fail
    refine HN.out.mono ?_
    rintro e w3 ⟨rfl,hb3⟩
    have hx3:=zad hb3 HX2.out
    obtain ⟨u0,u1,u2,u3,u4,u5⟩:=cells6' hx3
    have HX3:=Lib.hid hx3
    have HB3:=Lib.hid (HB2.out.trans (hb3.mono HB2.out.size))
    clear hb3 hx3 z0 z1 z2 z3 z4 z5 HN
    go_wp2_with fail
    refine (HDC.out _ HB3.out).mono ?_
    rintro e w4 ⟨rfl,hb4⟩
    have hx4:=zad hb4 HX3.out
    obtain ⟨t0,t1,t2,t3,t4,t5⟩:=cells6' hx4
    have HX4:=Lib.hid hx4
    have HB4:=Lib.hid (HB3.out.trans (hb4.mono HB3.out.size))
    clear hb4 hx4 u0 u1 u2 u3 u4 u5 HDC
    go_wp2_with fail
    refine (HBY.out _ HB4.out).mono ?_
    rintro e w5 ⟨rfl,hb5⟩
    have HB5:=Lib.hid (HBL.out.trans ((HB4.out.trans (hb5.mono HB4.out.size)).mono HBL.out.size))
    clear hb5 t0 t1 t2 t3 t4 t5 HBY
    go_wp2
    go_roundw
    case rel=>exact ⟨k+1,by omega,by go_num,HB5.out⟩
    case measure=>simp [intOf];omega
  · obtain rfl:k=p.procs.length:=by omega
    have hlt':¬ (p.procs.length:Int) < (p.procs.length:Int):=by omega
    have hx2:=zad HBL.out HX1.out
    obtain ⟨u0,u1,u2,u3,u4,u5⟩:=cells6' hx2
    have HBW:=Lib.hid (HB1.out.trans (HBL.out.mono HB1.out.size))
    have HC:=Lib.hid (H7.out _ A wr (HM.out.stays (Stays.of_below HBW.out)))
    clear hbl hx2
    go_wp2_with fail
    refine HC.out.mono ?_
    rintro e w3 ⟨rfl,hb3⟩
    have HB3:=Lib.hid (HBW.out.trans (hb3.mono HBW.out.size))
    clear hb3 HC
    go_wp2
    go_ret
    exact ⟨rfl,HB3.out⟩
end Go.Proofs.YtpobmoegmdhbpaaGreatDoor
