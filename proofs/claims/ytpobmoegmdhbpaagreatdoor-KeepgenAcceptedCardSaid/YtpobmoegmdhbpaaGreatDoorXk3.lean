/- Contracts and plain lemmas (KgG, KgJ, KgP, KgQ): no statement of the seat is proved here. -/
import Derived.Test.YtpobmoegmdhbpaaGreatDoorXq28
import Derived.Test.YtpobmoegmdhbpaaGreatDoorXk2
set_option linter.unusedSimpArgs false
set_option linter.unusedVariables false
set_option linter.unusedSectionVars false
set_option maxRecDepth 100000
set_option maxHeartbeats 6400000
namespace Go.Proofs.YtpobmoegmdhbpaaGreatDoor
open Go.RowKit
def SmPost (n:Nd) (g:Nat) (L:Int) (w:World) (e:Ending) (w':World):Prop:=
 ∃ (b:Bool) (L':Int),e=.returned (.bool b)∧w'.heap[g]?=some (.cells #[.int .i64 L'] 3 (0,0))∧Keeps w w' (fun k=>k=g)∧L'≤L∧(b=true→0≤L'∧L'=L - sizeN n)
def GrPost (n:Nd) (w:World) (e:Ending) (w':World):Prop:=∃ b:Bool,e=.returned (.bool b)∧(b=false→sizeN n≤200)∧Below w.heap.size w w'
theorem zja (m:Nat):∀ (n:Nd) (v:Value) (A:Nat→Prop) (w:World) (g:Nat) (L D:Int),sizeN n≤m→NdAt A w v n→¬ A g→w.heap[g]?=some (.cells #[.int .i64 L] 3 (0,0))→0≤L∧L≤200→0≤D∧D≤100→
 Calls Tryz.prog 150 #[v,.int .i64 D,.pointer (some ⟨g,0,none⟩)] w (SmPost n g L w):=by
 induction m with
 | zero=>intro n v A w g L D hm;have:=zaH n;omega
 | succ m ih=>
   intro n v A w g L D hm hv hAg hg hL hD
   have IH:=Lib.hid ih
   clear ih
   obtain ⟨hok,hlen,ka,kc,rfl,hk⟩:=hv.open
   have HS:Hid (∀ j,j < n.kids.length→sizeN (at' n.kids j)≤m):=Lib.hid (fun j hj=>by have:=zaC n j hj;omega)
   have HZ:=Lib.hid (zbd n)
   clear hm
   unfold maxLen at hlen
   have hgl:g < w.heap.size:=by rw [Array.getElem?_eq_some_iff] at hg;exact hg.1
   have hA:Below w.heap.size w (w.alloc (.cells #[.int .u8 n.kind,.int .i64 n.num,.string n.name,.slice ka n.kids.length kc] 34)):=zaa (Below.refl _ _)
   have hg1:=zad hA hg
   have e1:=zae hg1 0 rfl
   have f1:=unfrozen hg1
   have hg2:=heap_setCell_same _ g 0 _ _ (.int .i64 (L - 1)) hg1
   simp only [List.setIfInBounds_toArray,List.set_cons_zero] at hg2
   have hn2:=zoa (o:=0) (x:=.int .i64 (L - 1)) (zah w (.cells #[.int .u8 n.kind,.int .i64 n.num,.string n.name,.slice ka n.kids.length kc] 34)) (g:=g) (by omega)
   obtain ⟨n0,n1,n2,n3⟩:=cells4 hn2
   have hK:=(Keeps.of_below (fun k=>k=g) hA).same (zaf _ g 0 (.int .i64 (L - 1)))
   have HK:=Lib.hid (hk.stays (hK.stays (fun k a _ e=>hAg (e ▸ a))))
   have HG2:=Lib.hid hg2
   have HKK:=Lib.hid hK
   have hwr:IntKind.i64.wrap (L - 1)=L - 1:=by rw [IntKind.wrap_i64];omega
   have HAG:=Lib.hid hAg
   clear hv hk hg hn2 hg1 hg2 hK hgl
   go_enter Tryz.func150,Tryz.ntmps150
   by_cases c1:L - 1 < 0
   · go_wp2
     go_ret
     exact ⟨false,_,rfl,HG2.out,HKK.out,by omega,fun h=>by cases h⟩
   by_cases c2:D=0
   · subst c2
     go_wp2
     go_ret
     exact ⟨false,_,rfl,HG2.out,HKK.out,by omega,fun h=>by cases h⟩
   have c2':(D == 0)=false:=by simpa using c2
   by_cases c3:(40:Int) < n.name.size
   · go_wp2
     go_ret
     exact ⟨false,_,rfl,HG2.out,HKK.out,by omega,fun h=>by cases h⟩
   have hwd:IntKind.i64.wrap (D - 1)=D - 1:=by rw [IntKind.wrap_i64];omega
   go_wp2
   generalize ((w.alloc (.cells #[.int .u8 n.kind,.int .i64 n.num,.string n.name,.slice ka n.kids.length kc] 34)).setCell ⟨g,0,none⟩ (.int .i64 (L - 1)))=W at *
   go_loopw [31] (fun i wr=>∃ k:Nat,k≤n.kids.length∧i=.int .i64 k∧∃ Lk:Int,wr.heap[g]?=some (.cells #[.int .i64 Lk] 3 (0,0))∧Keeps W wr (fun k=>k=g)∧0≤Lk∧Lk=L - 1 - sizeL (n.kids.take k)) (fun i _=>n.kids.length - (intOf i).toNat)
   case atStart=>exact ⟨0,Nat.zero_le _,rfl,L - 1,HG2.out,Keeps.refl _ _,by omega,by simp [sizeL]⟩
   case round=>
    obtain ⟨k,hkk,rfl,Lk,hgk,hkp,h0,h1⟩:=hrel
    have HKP:=Lib.hid hkp
    have hz:=hkp.size
    have hKW:=HKK.out.size
    by_cases hlt:k < n.kids.length
    · obtain ⟨b,off,cap,ka',kc',he,hb,_,_,q0,q1,q2,q3,hnd⟩:=(HK.out.stays (hkp.stays (fun k a _ e=>HAG.out (e ▸ a)))).at hlt
      simp only [Value.slice.injEq] at he
      obtain ⟨rfl,-,rfl⟩:=he
      have hB:Below wr.heap.size wr (wr.alloc (.cells #[.int .u8 (at' n.kids k).kind,.int .i64 (at' n.kids k).num,.string (at' n.kids k).name,.slice ka' (at' n.kids k).kids.length kc'] 34)):=zaa (Below.refl _ _)
      obtain ⟨kk0,kk1,kk2,kk3⟩:=cells4 (zah wr (.cells #[.int .u8 (at' n.kids k).kind,.int .i64 (at' n.kids k).num,.string (at' n.kids k).name,.slice ka' (at' n.kids k).kids.length kc'] 34))
      have HT:=Lib.hid (zbm n.kids k hlt)
      have HC:=Lib.hid (IH.out (at' n.kids k) _ A _ g Lk (D - 1) (HS.out k hlt) (hnd.stays (Stays.of_below hB)) HAG.out (zad hB hgk) ⟨h0,by omega⟩ ⟨by omega,by omega⟩)
      have HB:=Lib.hid hB
      clear hnd hB hkp hgk
      go_wp2_with fail
      refine HC.out.mono ?_
      rintro e w5 ⟨b5,L5,rfl,hg5,hk5,h5,h6⟩
      have HK5:=Lib.hid ((HKP.out.same (Keeps.of_below _ HB.out)).same hk5)
      have HG5:=Lib.hid hg5
      clear hg5 hk5 kk0 kk1 kk2 kk3 HC
      cases b5 with
      | false=>
        go_wp2
        go_ret
        exact ⟨false,L5,rfl,HG5.out,HKK.out.same HK5.out,by omega,fun h=>by cases h⟩
      | true=>
        obtain ⟨h7,h8⟩:=h6 rfl
        go_wp2
        go_roundw
        case rel=>exact ⟨k+1,by omega,by go_num,L5,HG5.out,HK5.out,h7,by rw [h8,h1,HT.out];omega⟩
        case measure=>simp [intOf];omega
    · obtain rfl:k=n.kids.length:=by omega
      have hlt':¬ (n.kids.length:Int) < (n.kids.length:Int):=by omega
      rw [List.take_length] at h1
      have HGK:=Lib.hid hgk
      go_wp2
      go_ret
      exact ⟨true,Lk,rfl,HGK.out,HKK.out.same HKP.out,by omega,fun _=>⟨h0,by rw [HZ.out,h1];push_cast;omega⟩⟩
theorem tgreat_any (n:Nd) (v:Value) (A:Nat→Prop) (w:World) (hv:NdAt A w v n):
 Calls Tryz.prog 97 #[v] w (GrPost n w):=by
 obtain ⟨hok,hlen,ka,kc,rfl,hk⟩:=hv.open
 have hA:Below w.heap.size w ((w.alloc (.cells #[.int .u8 n.kind,.int .i64 n.num,.string n.name,.slice ka n.kids.length kc] 34)).alloc (.cells #[.int .i64 200] 3)):=zaa (zaa (Below.refl _ _))
 have hv2:NdAt (fun k=>k < w.heap.size) w (.agg #[.int .u8 n.kind,.int .i64 n.num,.string n.name,.slice ka n.kids.length kc]) n:=hv.stays ⟨Nat.le_refl _,fun b hb _=>⟨rfl,hb⟩⟩
 have HC:=Lib.hid (zja _ n _ _ _ (w.heap.size+1) 200 24 (Nat.le_refl _) (hv2.stays (Stays.of_below hA)) (fun h=>by omega) (zaw w _ _) ⟨by omega,by omega⟩ ⟨by omega,by omega⟩)
 have HB:=Lib.hid hA
 obtain ⟨n0,n1,n2,n3⟩:=cells4 (zaI w (.cells #[.int .u8 n.kind,.int .i64 n.num,.string n.name,.slice ka n.kids.length kc] 34) (.cells #[.int .i64 200] 3))
 clear hv hk hA hv2
 go_enter Tryz.func97,Tryz.ntmps97
 go_wp2_with fail
 refine HC.out.mono ?_
 rintro e w5 ⟨b5,L5,rfl,hg5,hk5,h5,h6⟩
 have HK5:=Lib.hid (HB.out.trans (hk5.below (B:=w.heap.size) (fun k e=>by omega) HB.out.size))
 clear hg5 hk5 HC
 go_wp2
 go_ret
 exact ⟨!b5,rfl,fun h=>by
  obtain ⟨h7,h8⟩:=h6 (by simpa using h)
  omega,HK5.out⟩
theorem pgreat_any (n:Nd) (a0 a1:Value) (k0 k1 k2 k3:Value) (A:Nat→Prop) (w:World) (h0:a0=.slice none 0 0) (h1:a1=.slice none 0 0) (hv:NdAt A w (.agg #[k0,k1,k2,k3]) n):
 Calls Tryz.prog 50 #[.agg #[a0,a1,k0,k1,k2,k3]] w fun e w'=>∃ x:Int,e=.returned (.int .i64 x)∧(x=0∨x=1)∧(x=0→sizeN n≤200)∧Below w.heap.size w w':=by
 subst h0
 subst h1
 obtain ⟨hok,hlen,ka,kc,he,hk⟩:=hv.open
 simp only [Value.agg.injEq] at he
 obtain ⟨rfl,rfl,rfl,rfl⟩:=he
 have hA:Below w.heap.size w (w.alloc (.cells #[.slice none 0 0,.slice none 0 0,.int .u8 n.kind,.int .i64 n.num,.string n.name,.slice ka n.kids.length kc] 37)):=zaa (Below.refl _ _)
 have HC:=Lib.hid (tgreat_any n _ A _ (hv.stays (Stays.of_below hA)))
 have HB:=Lib.hid hA
 have hP:=zah w (.cells #[.slice none 0 0,.slice none 0 0,.int .u8 n.kind,.int .i64 n.num,.string n.name,.slice ka n.kids.length kc] 37)
 obtain ⟨n0,n1,n2,n3,n4,n5⟩:=cells6 hP
 have HP:=Lib.hid hP
 clear hv hk hA hP
 go_enter Tryz.func50,Tryz.ntmps50
 go_wp2_with fail
 refine HC.out.mono ?_
 rintro e w5 ⟨b5,rfl,h5,hb5⟩
 obtain ⟨m0,m1,m2,m3,m4,m5⟩:=cells6 (zad hb5 HP.out)
 have HB5:=Lib.hid (HB.out.trans (hb5.mono HB.out.size))
 clear hb5 n0 n1 n2 n3 n4 n5 HC
 cases b5 with
 | true=>
   go_wp2
   go_ret
   exact ⟨1,rfl,.inr rfl,fun h=>by omega,HB5.out⟩
 | false=>
   have H5:Hid (sizeN n≤200):=Lib.hid (h5 rfl)
   clear h5
   go_wp2
   go_loopw [27] (fun i wr=>i=.int .i64 0∧wr=w5) (fun i _=>0)
   case atStart=>exact ⟨rfl,rfl⟩
   case round=>
    obtain ⟨rfl,rfl⟩:=hrel
    go_wp2
    go_loopw [39] (fun i wr2=>i=.int .i64 0∧wr2=wr) (fun i _=>0)
    case atStart=>exact ⟨rfl,rfl⟩
    case round=>
     obtain ⟨rfl,rfl⟩:=hrel
     go_wp2
     go_ret
     exact ⟨0,rfl,.inl rfl,fun _=>H5.out,HB5.out⟩
structure GreatOk (lib:List Fn):Prop where
 len:lib.length≤6
 bod:∀ i,i < lib.length→sizeN (at' lib i).body≤200
 nam:∀ i,i < lib.length→(at' lib i).name.size≤40
def G37 (lib:List Fn) (w:World) (e:Ending) (w':World):Prop:=∃ x:Int,e=.returned (.int .i64 x)∧(x=0∨x=1)∧(x=0→GreatOk lib)∧Below w.heap.size w w'
theorem zgV {lib:List Fn} {w w':World} (h:Below w.heap.size w w'):G37 lib w (.returned (.int .i64 1)) w':=⟨1,rfl,.inr rfl,fun h=>by omega,h⟩
theorem great37_any (lv:Value) (lib:List Fn) (A:Nat→Prop) (w:World) (hl:FnsAt A w lv lib):
 Calls Tryz.prog 23 #[lv,.slice none 0 0] w (G37 lib w):=by
 obtain ⟨hll,la,lc,rfl⟩:=hl.form
 unfold maxLen at hll
 have HL:Hid (FnsAt (fun k=>k < w.heap.size) w (.slice la lib.length lc) lib):=Lib.hid (hl.stays ⟨Nat.le_refl _,fun b hb _=>⟨rfl,hb⟩⟩)
 clear hl
 go_enter Tryz.func23,Tryz.ntmps23
 by_cases l6:(6:Int) < lib.length
 · go_wp2
   go_ret
   exact zgV (Below.refl _ _)
 go_wp2
 go_loopw [21] (fun i wr=>∃ k:Nat,k≤lib.length∧i=.int .i64 k∧(∀ j,j < k→sizeN (at' lib j).body≤200∧(at' lib j).name.size≤40)∧Below w.heap.size w wr) (fun i _=>lib.length - (intOf i).toNat)
 case atStart=>exact ⟨0,Nat.zero_le _,rfl,fun j hj=>absurd hj (by omega),Below.refl _ _⟩
 case round=>
  obtain ⟨k,hkk,rfl,hno,hbl⟩:=hrel
  have HNO:=Lib.hid hno
  have HBL:=Lib.hid hbl
  clear hno
  by_cases hlt:k < lib.length
  · obtain ⟨b,off,cap,pa,pc,ka,kc,he,hb,_,hAb,c0,c1,c2,c3,c4,c5,c6,hsn,hpar,hnd⟩:=(HL.out.stays (Stays.of_below hbl)).at hlt
    simp only [Value.slice.injEq] at he
    obtain ⟨rfl,-,rfl⟩:=he
    obtain ⟨B,hB⟩:∃ B,B=Obj.cells #[.string (at' lib k).name,.slice pa (at' lib k).params.length pc,.bool (at' lib k).list,.int .u8 (at' lib k).body.kind,.int .i64 (at' lib k).body.num,.string (at' lib k).body.name,.slice ka (at' lib k).body.kids.length kc] 94 (0,0):=⟨_,rfl⟩
    have hbx:Below w.heap.size w (wr.alloc B):=zaa hbl
    have HBX:=Lib.hid hbx
    have HPAR:=Lib.hid (hpar.stays (Stays.of_below (zaa (x:=B) (Below.refl wr.heap.size wr))))
    have HC:=Lib.hid (pgreat_any (at' lib k).body _ _ _ _ _ _ _ _ rfl rfl (hnd.stays (Stays.of_below (zaa (x:=B) (Below.refl wr.heap.size wr)))))
    have HBK:=Lib.hid (zah wr B)
    have hpl:=hpar.form.1
    unfold maxLen at hpl
    subst hB
    clear hbl hpar hnd hbx
    by_cases p10:(10:Int) < (at' lib k).params.length
    · go_wp2
      go_ret
      exact zgV HBX.out
    by_cases n40:(40:Int) < (at' lib k).name.size
    · go_wp2
      go_ret
      exact zgV HBX.out
    go_wp2_with fail
    refine HC.out.mono ?_
    rintro e w5 ⟨x,rfl,hx,hx2,hb5⟩
    have HX2:=Lib.hid hx2
    have HB5:=Lib.hid (HBX.out.trans (hb5.mono HBX.out.size))
    have HP5:=Lib.hid (HPAR.out.stays (Stays.of_below hb5))
    have f1:=zae (zad hb5 HBK.out) 1 rfl
    clear hb5 hx2 HC
    rcases hx with rfl|rfl
    · have HX3:Hid (sizeN (at' lib k).body≤200∧(at' lib k).name.size≤40):=Lib.hid ⟨HX2.out rfl,by omega⟩
      clear HX2
      go_wp2
      go_loopw [45] (fun i wr2=>∃ j:Nat,j≤(at' lib k).params.length∧i=.int .i64 j∧Below w5.heap.size w5 wr2) (fun i _=>(at' lib k).params.length - (intOf i).toNat)
      case atStart=>exact ⟨0,Nat.zero_le _,rfl,Below.refl _ _⟩
      case round=>
       obtain ⟨j,hjj,rfl,hbj⟩:=hrel
       have HBJ:=Lib.hid hbj
       by_cases hjlt:j < (at' lib k).params.length
       · obtain ⟨b',off',cap',he,hb',_,_,p0,p1,hs⟩:=(HP5.out.stays (Stays.of_below hbj)).at hjlt
         simp only [Value.slice.injEq] at he
         obtain ⟨rfl,-,rfl⟩:=he
         clear hbj
         by_cases n41:(40:Int) < (at' (at' lib k).params j).name.size
         · go_wp2
           go_ret
           exact zgV (HB5.out.trans ((zaa HBJ.out).mono HB5.out.size))
         · go_wp2
           go_roundw
           case rel=>exact ⟨j+1,by omega,by go_num,zaa HBJ.out⟩
           case measure=>simp [intOf];omega
       · obtain rfl:j=(at' lib k).params.length:=by omega
         have hlt':¬ ((at' lib k).params.length:Int) < ((at' lib k).params.length:Int):=by omega
         clear hbj
         go_wp2
         go_roundw
         case rel=>exact ⟨k+1,by omega,by go_num,fun j' hj'=>(by
          by_cases e:j'=k
          · rw [e];exact HX3.out
          · exact HNO.out j' (by omega)),HB5.out.trans (HBJ.out.mono HB5.out.size)⟩
         case measure=>simp [intOf];omega
    · go_wp2
      go_ret
      exact zgV HB5.out
  · obtain rfl:k=lib.length:=by omega
    have hlt':¬ (lib.length:Int) < (lib.length:Int):=by omega
    clear hbl
    go_wp2
    go_loopw [57] (fun i wr2=>i=.int .i64 0∧Below w.heap.size w wr2) (fun i _=>0)
    case atStart=>exact ⟨rfl,HBL.out⟩
    case round=>
     obtain ⟨rfl,hbj⟩:=hrel
     have HBJ:=Lib.hid hbj
     clear hbj
     go_wp2
     go_ret
     exact ⟨0,rfl,.inl rfl,fun _=>⟨by omega,fun i hi=>(HNO.out i hi).1,fun i hi=>(HNO.out i hi).2⟩,HBJ.out⟩
end Go.Proofs.YtpobmoegmdhbpaaGreatDoor
namespace Go.Proofs.YtpobmoegmdhbpaaGreatDoor
open Go.RowKit
def Normal41 (lib:List Fn) (w:World) (e:Ending) (w':World):Prop:=Below w.heap.size w w'∧((∃ a n c,e=.returned (.tuple #[.slice a n c,.bool false]))∨∃ a c,e=.returned (.tuple #[.slice a (normL lib).length c,.bool true])∧(GreatOk lib∧(validE lib).2=0)∧AFnsAt Any w' (.slice a (normL lib).length c) (normL lib))
theorem normal41_any (lv:Value) (lib:List Fn) (A:Nat→Prop) (w:World) (hl:FnsAt A w lv lib) (ht:Tab w):
 Calls Tryz.prog 11 #[lv] w (Normal41 lib w):=by
 obtain ⟨hll,la,lc,rfl⟩:=hl.form
 have HL:=Lib.hid hl
 have HT:=Lib.hid ht
 have HG:=Lib.hid (great37_any _ lib A w hl)
 clear hl ht
 go_enter Tryz.func11,Tryz.ntmps11
 go_wp2_with fail
 refine HG.out.mono ?_
 rintro e w1 ⟨x,rfl,hx,hx2,hb1⟩
 have HX2:=Lib.hid hx2
 clear hx2
 rcases hx with rfl|rfl
 · have hg:=HX2.out rfl
   have hmod:Modest lib:=fun j hj=>by have:=hg.bod j hj;omega
   have HGO:=Lib.hid hg
   have HNO:=Lib.hid (zcN _ lib A w1 (HL.out.stays (Stays.of_below hb1)) hmod (HT.out.below hb1))
   clear hmod hg HX2
   by_cases hv:(validE lib).2=0
   · have HV:=Lib.hid hv
     clear hv
     go_wp2_with (go_at_call 32;refine HNO.out.mono ?_;intro e w2 hp1;obtain ⟨v,rfl,hv1⟩:=hp1.2.1 HV.out;obtain ⟨_,a1,c1,rfl⟩:=hv1.form;have hb2:=hp1.2.2;have HV1:=Lib.hid hv1;clear hp1 hv1)
     go_ret2
     exact ⟨hb1.trans (hb2.mono hb1.size),.inr ⟨_,_,rfl,⟨HGO.out,HV.out⟩,HV1.out⟩⟩
   · have HV:=Lib.hid hv
     have dv:((validE lib).2 == 0)=false:=by simp [hv]
     clear hv
     go_wp2_with (go_at_call 32;refine HNO.out.mono ?_;intro e w2 hp1;obtain rfl:=hp1.1 HV.out;have hb2:=hp1.2.2;clear hp1)
     go_ret2
     exact ⟨hb1.trans (hb2.mono hb1.size),.inl ⟨_,_,_,rfl⟩⟩
 · go_wp2
   go_ret2
   exact ⟨hb1,.inl ⟨_,_,_,rfl⟩⟩
end Go.Proofs.YtpobmoegmdhbpaaGreatDoor
namespace Go.Proofs.YtpobmoegmdhbpaaGreatDoor
open Go.RowKit
theorem square_T (w:World):Calls Tryz.prog 33 #[] w fun e w'=>∃ g,e=.returned (.slice (some ⟨g,0,none⟩) 1 1)∧FnsAt Any w' (.slice (some ⟨g,0,none⟩) 1 1) exLib∧Below w.heap.size w w':=by
 go_enter Tryz.func33,Tryz.ntmps33
 go_wp2
 go_ret
 exact ⟨_,rfl,zon (g1:=w.heap.size+1) (g2:=w.heap.size+1+1) (by (repeat (with_reducible first|(refine zaj ?_;(simp;done))|(refine zaj ?_;rfl)|refine zai ?_|refine zag ?_|(apply zad;focus assumption)))) (by (repeat (with_reducible first|(refine zaj ?_;(simp;done))|(refine zaj ?_;rfl)|refine zai ?_|refine zag ?_|(apply zad;focus assumption)))) (by (repeat (with_reducible first|(refine zaj ?_;(simp;done))|(refine zaj ?_;rfl)|refine zai ?_|refine zag ?_|(apply zad;focus assumption)))),zaa (zaa (zaa (zaa (Below.refl _ _))))⟩
theorem ziy:procK exFn []=blockN [nodeN 54 (tname 0) [numN 0,blockN [plusN (tname 0) (nodeN 10 ByteArray.empty [vN ⟨#[120]⟩,vN ⟨#[120]⟩]),nodeN 42 ByteArray.empty [vN outS,vN (tname 0)],nodeN 44 ⟨#[103]⟩ [vN (tname 0)]],numN 0]]:=rfl
theorem zlT:(paramsK exFn).length=3:=rfl
theorem zkN:limE (paramsK exFn).length (procK exFn [])=0:=by rw [ziy,zlT];decide +kernel
theorem zmi:exFn.name ++ (⟨#[49]⟩:ByteArray)=⟨#[102,49]⟩:=rfl
theorem kproc_ex (pa ta ba:Option Addr) (pc tc bc:Nat) (w:World) (hp:ParsAt Any w (.slice pa exFn.params.length pc) exFn.params) (ht:ParsAt Any w (.slice ta exFn.temps.length tc) exFn.temps) (hb:BdsAt Any w (.slice ba exFn.body.length bc) exFn.body) (hr:exFn.result.size≤maxLen):
 Calls Tryz.prog 34 #[.agg #[.string exFn.name,.slice pa exFn.params.length pc,.bool exFn.list,.slice ta exFn.temps.length tc,.slice ba exFn.body.length bc,.string exFn.result],.slice none 0 0] w fun e w'=>∃ xa xc ya yc,e=.returned (.tuple #[.agg #[.string ⟨#[102,49]⟩,.slice xa 3 xc,.int .u8 57,.int .i64 0,.string ⟨#[]⟩,.slice ya 1 yc],.int .i64 0])∧Below w.heap.size w w':=by
 have h:=zlc exFn pa ta ba pc tc bc none 0 [] w hp ht hb hr (by decide +kernel) (by decide +kernel) (by decide +kernel) (by decide +kernel) (by rw [ziy];decide +kernel) ⟨fun _ _=>undef,RowAt.empty _ _ _,fun j hj=>by simp at hj⟩ (fun s hs=>by simp at hs)
 refine h.mono fun e w' ⟨xa,xc,ya,yn,yc,he,_,hn,hbl⟩=>?_
 obtain ⟨_,a',c',e'⟩:=(ndKids hn).form
 simp only [Value.slice.injEq] at e'
 obtain ⟨rfl,rfl,rfl⟩:=e'
 rw [if_pos zkN,zkN,zmi] at he
 exact ⟨xa,xc,ya,yc,he,hbl⟩
theorem refers_ex (ba:Option Addr) (bc:Nat) (kv:Value) (w:World) (hb:BdsAt Any w (.slice ba exFn.body.length bc) exFn.body):
 Calls Tryz.prog 66 #[.slice ba exFn.body.length bc,kv] w fun e w'=>e=.returned (.bool false)∧Below w.heap.size w w':=by
 obtain ⟨b,off,cap,aa,ac,ta,tc,ea,ec,he,hlt,c0,c1,c2,c3,c4,c5,c6,c7,hs,ht,hel,hok⟩:=hb.at (j:=0) (by decide)
 simp only [Value.slice.injEq] at he
 obtain ⟨rfl,-,rfl⟩:=he
 have d2:w.cell? ⟨b,off+0 * 8+2,none⟩=some (.int .u8 82):=c2
 clear c2 hs ht hel hok
 generalize at' exFn.body 0=B at *
 simp only [Nat.zero_mul,Nat.add_zero] at c0 c1 d2 c3 c4 c5 c6 c7
 clear hb
 change Calls Tryz.prog 66 #[.slice (some ⟨b,off,none⟩) 1 bc,kv] w _
 go_enter Tryz.func66,Tryz.ntmps66
 go_wp2
 go_loopw [9] (fun i wr=>(i=.int .i64 0∨i=.int .i64 1)∧Below w.heap.size w wr) (fun i _=>1 - (intOf i).toNat)
 case atStart=>exact ⟨.inl rfl,Below.refl _ _⟩
 case round=>
  obtain ⟨hi,hbl⟩:=hrel
  have HBL:=Lib.hid hbl
  rcases hi with rfl|rfl
  · have x0:=(hbl.cell (p:=⟨b,off,none⟩) hlt).trans c0
    have x1:=(hbl.cell (p:=⟨b,off+1,none⟩) hlt).trans c1
    have x2:=(hbl.cell (p:=⟨b,off+2,none⟩) hlt).trans d2
    have x3:=(hbl.cell (p:=⟨b,off+3,none⟩) hlt).trans c3
    have x4:=(hbl.cell (p:=⟨b,off+4,none⟩) hlt).trans c4
    have x5:=(hbl.cell (p:=⟨b,off+5,none⟩) hlt).trans c5
    have x6:=(hbl.cell (p:=⟨b,off+6,none⟩) hlt).trans c6
    have x7:=(hbl.cell (p:=⟨b,off+7,none⟩) hlt).trans c7
    clear hbl c0 c1 d2 c3 c4 c5 c6 c7
    go_wp2
    exact ⟨⟨.inr rfl,zaa HBL.out⟩,by simp [intOf]⟩
  · clear hbl c0 c1 d2 c3 c4 c5 c6 c7
    go_wp2
    go_ret
    exact ⟨rfl,HBL.out⟩
abbrev exV (pa ta ba:Option Addr) (pc tc bc:Nat):Value:=.agg #[.string exFn.name,.slice pa exFn.params.length pc,.bool exFn.list,.slice ta exFn.temps.length tc,.slice ba exFn.body.length bc,.string exFn.result]
theorem garbage_ex (pa ta ba:Option Addr) (pc tc bc:Nat) (w:World) (ht:ParsAt Any w (.slice ta exFn.temps.length tc) exFn.temps):
 Calls Tryz.prog 24 #[.agg #[.string exFn.name,.slice pa exFn.params.length pc,.bool exFn.list,.slice ta exFn.temps.length tc,.slice ba exFn.body.length bc,.string exFn.result]] w fun e w'=>e=.returned (.tuple #[.int .i64 1,.int .i64 0])∧Below w.heap.size w w':=by
 have hB:Below w.heap.size w (w.alloc (.cells #[.string exFn.name,.slice pa exFn.params.length pc,.bool exFn.list,.slice ta exFn.temps.length tc,.slice ba exFn.body.length bc,.string exFn.result] 44)):=zaa (Below.refl _ _)
 have HB:=Lib.hid hB
 have HT:=Lib.hid (ht.stays (Stays.of_below hB))
 have hp:(at' exFn.temps 0).list=false:=rfl
 have HPL:=Lib.hid hp
 have htl:exFn.temps.length=1:=rfl
 clear ht hB hp
 rw [htl] at HB HT ⊢
 generalize (at' exFn.temps 0)=P0 at *
 go_enter Tryz.func24,Tryz.ntmps24
 go_wp2
 generalize (w.alloc (.cells #[.string exFn.name,.slice pa exFn.params.length pc,.bool exFn.list,.slice ta 1 tc,.slice ba exFn.body.length bc,.string exFn.result] 44))=W at *
 go_loopw [2,3,9] (fun a b i wr=>b=.int .i64 0∧((i=.int .i64 0∧a=.int .i64 0)∨(i=.int .i64 1∧a=.int .i64 1))∧Below W.heap.size W wr) (fun _ _ i _=>1 - (intOf i).toNat)
 case atStart=>exact ⟨rfl,.inl ⟨rfl,rfl⟩,Below.refl _ _⟩
 case round=>
  obtain ⟨rfl,hi,hbl⟩:=hrel
  have HBL:=Lib.hid hbl
  rcases hi with ⟨rfl,rfl⟩|⟨rfl,rfl⟩
  · obtain ⟨b',off',cap',he,hb',_,_,p0,p1,hs⟩:=(HT.out.stays (Stays.of_below hbl)).at (j:=0) (by decide)
    simp only [Value.slice.injEq] at he
    obtain ⟨rfl,-,rfl⟩:=he
    rw [show (at' exFn.temps 0).list=false from rfl] at p1
    simp only [Nat.zero_mul,Nat.add_zero] at p0 p1
    clear hbl
    go_wp2
    exact ⟨⟨rfl,.inr ⟨rfl,rfl⟩,zaa HBL.out⟩,by simp [intOf]⟩
  · clear hbl
    go_wp2
    go_ret2
    exact ⟨rfl,HB.out.trans (HBL.out.mono HB.out.size)⟩
theorem znV (pa ta ba:Option Addr) (pc tc bc:Nat) (w:World) (hp:ParsAt Any w (.slice pa exFn.params.length pc) exFn.params) (ht:ParsAt Any w (.slice ta exFn.temps.length tc) exFn.temps) (hb:BdsAt Any w (.slice ba exFn.body.length bc) exFn.body) (hr:exFn.result.size≤maxLen):
 Calls Tryz.prog 43 #[exV pa ta ba pc tc bc] w fun e w'=>∃ xa xc ya yn yc,e=.returned (.tuple #[.agg #[.string ⟨#[102]⟩,.slice xa 2 xc,.int .u8 57,.int .i64 0,.string ⟨#[]⟩,.slice ya yn yc],.int .i64 0])∧Below w.heap.size w w':=
 (znh exFn exLib pa ta ba pc tc bc w hp ht hb hr zoj (by decide +kernel) (by decide +kernel) (by decide +kernel) (Nat.le_trans zkE (by omega))).mono fun e w' hp2=>by
   obtain ⟨a,c,ka,kn,kc,he,hrow,hnd⟩:=hp2.2.2.2 zmQ (by have:=zkE;rw [zhK];simp;omega)
   rw [show (paramsN exFn).length=2 from by rw [zhK];rfl] at he
   exact ⟨_,_,_,_,_,he,hp2.1⟩
theorem clean_ex (pa ta ba:Option Addr) (pc tc bc:Nat) (kv:Value) (w:World) (hp:ParsAt Any w (.slice pa exFn.params.length pc) exFn.params) (ht:ParsAt Any w (.slice ta exFn.temps.length tc) exFn.temps) (hb:BdsAt Any w (.slice ba exFn.body.length bc) exFn.body) (hr:exFn.result.size≤maxLen):
 Calls Tryz.prog 35 #[exV pa ta ba pc tc bc,kv] w fun e w'=>∃ xa xc ya yn yc,e=.returned (.tuple #[.agg #[.string ⟨#[102]⟩,.slice xa 2 xc,.int .u8 57,.int .i64 0,.string ⟨#[]⟩,.slice ya yn yc],.int .i64 0])∧Below w.heap.size w w':=by
 obtain ⟨W,hW⟩:∃ W,W=(w.alloc (.cells #[.string exFn.name,.slice pa exFn.params.length pc,.bool exFn.list,.slice ta exFn.temps.length tc,.slice ba exFn.body.length bc,.string exFn.result] 44)).alloc (.cells #[.string ⟨#[]⟩,.slice none 0 0,.int .u8 0,.int .i64 0,.string ⟨#[]⟩,.slice none 0 0] 83):=⟨_,rfl⟩
 have hA:Below w.heap.size w W:=by subst hW;exact zaa (zaa (Below.refl _ _))
 have HA:=Lib.hid hA
 have HN:Hid (W.heap[w.heap.size]?=some (.cells #[.string exFn.name,.slice pa exFn.params.length pc,.bool exFn.list,.slice ta exFn.temps.length tc,.slice ba exFn.body.length bc,.string exFn.result] 44 (0,0))):=Lib.hid (by subst hW;exact zaI _ _ _)
 have HZ:Hid (W.heap[w.heap.size+1]?=some (.cells #[.string ⟨#[]⟩,.slice none 0 0,.int .u8 0,.int .i64 0,.string ⟨#[]⟩,.slice none 0 0] 83 (0,0))):=Lib.hid (by subst hW;exact zaw _ _ _)
 have HWS:Hid (W.heap.size=w.heap.size+2):=Lib.hid (by subst hW;simp)
 have H1:Hid (∀ w1,Below W.heap.size W w1→Calls Tryz.prog 45 #[exV pa ta ba pc tc bc] w1 fun e w'=>∃ a c,e=.returned (.slice a 2 c)∧Below w1.heap.size w1 w'):=Lib.hid (fun w1 h=>(zfy exFn pa ta ba pc tc bc w1 ((hp.stays (Stays.of_below hA)).stays (Stays.of_below h)) (by decide +kernel)).mono fun e w' ⟨a,c,he,_,hb⟩=>⟨a,c,by rw [he,zhK];rfl,hb⟩)
 have H2:Hid (∀ w1,Below W.heap.size W w1→Calls Tryz.prog 66 #[.slice ba exFn.body.length bc,kv] w1 fun e w'=>e=.returned (.bool false)∧Below w1.heap.size w1 w'):=Lib.hid (fun w1 h=>refers_ex ba bc kv w1 ((hb.stays (Stays.of_below hA)).stays (Stays.of_below h)))
 have H3:Hid (∀ w1,Below W.heap.size W w1→Calls Tryz.prog 43 #[exV pa ta ba pc tc bc] w1 fun e w'=>∃ xa xc ya yn yc,e=.returned (.tuple #[.agg #[.string ⟨#[102]⟩,.slice xa 2 xc,.int .u8 57,.int .i64 0,.string ⟨#[]⟩,.slice ya yn yc],.int .i64 0])∧Below w1.heap.size w1 w'):=Lib.hid (fun w1 h=>znV pa ta ba pc tc bc w1 ((hp.stays (Stays.of_below hA)).stays (Stays.of_below h)) ((ht.stays (Stays.of_below hA)).stays (Stays.of_below h)) ((hb.stays (Stays.of_below hA)).stays (Stays.of_below h)) hr)
 clear hp ht hb hr hA
 subst hW
 change Calls Tryz.prog 35 #[.agg #[.string exFn.name,.slice pa exFn.params.length pc,.bool exFn.list,.slice ta exFn.temps.length tc,.slice ba exFn.body.length bc,.string exFn.result],kv] w _
 go_enter Tryz.func35,Tryz.ntmps35
 go_wp2_with (first
  | (go_at_call 45;refine (H1.out _ (by (repeat (with_reducible first|exact Below.refl _ _|refine zab ?_|refine zaa ?_|(apply zac;focus assumption))))).mono ?_;rintro e w2 ⟨pa2,pc2,rfl,hb2⟩;obtain ⟨x0,x1,x2,x3,x4,x5⟩:=cells6 (zad hb2 HN.out))
  | (go_at_call 66;refine (H2.out _ (by (repeat (with_reducible first|exact Below.refl _ _|refine zab ?_|refine zaa ?_|(apply zac;focus assumption))))).mono ?_;rintro e w3 ⟨rfl,hb3⟩;obtain ⟨y0,y1,y2,y3,y4,y5⟩:=cells6 (zad hb3 (zad hb2 HN.out)))
  | (go_at_call 43;refine (H3.out _ (by (repeat (with_reducible first|exact Below.refl _ _|refine zab ?_|refine zaa ?_|(apply zac;focus assumption))))).mono ?_;rintro e w4 ⟨xa,xc,ya,yn,yc,rfl,hb4⟩;have HZ4:=Lib.hid (zad hb4 (zad hb3 (zad hb2 HZ.out)));obtain ⟨z0,z1,z2,z3,z4,z5⟩:=cells6 HZ4.out;have zf:=unfrozen HZ4.out))
 (try simp only [Exit.inBlock,Exit.then])
 refine bodyPost_ret (zak (P:=Tryz.prog) rfl _ _ (w.heap.size+1) _ _ _ _ _ rfl (set6 HZ4.out _ _ _ _ _ _) rfl Tryz.underlying83 rfl (by kernel_rfl)) rfl ?_
 exact ⟨_,_,_,_,_,rfl,zau (HA.out.trans (Below.mono (zac hb4 (zac hb3 hb2)) HA.out.size)) (by omega)⟩
end Go.Proofs.YtpobmoegmdhbpaaGreatDoor
namespace Go.Proofs.YtpobmoegmdhbpaaGreatDoor
open Go.RowKit
theorem znG (w:World):Calls Tryz.prog 36 #[.string ⟨#[102]⟩] w fun e w'=>e=.returned (.string ⟨#[102,49]⟩)∧w=w':=zku ⟨#[102]⟩ w (by decide)
theorem zhu (w:World) (ht:Tab w):Calls Tryz.prog 10 #[] w fun e w'=>e=.returned (.bool true)∧Below w.heap.size w w':=by
 have HSQ:=Lib.hid (square_T w)
 have HT:=Lib.hid ht
 clear ht
 go_enter Tryz.func10,Tryz.ntmps10
 go_wp2_with fail
 refine HSQ.out.mono ?_
 rintro e w1 ⟨g,rfl,hf,hb1⟩
 have HNO:=Lib.hid (zcN _ exLib Any _ hf (fun j hj=>by
  obtain rfl:j=0:=by simpa [exLib] using hj
  show sizeN exBody≤20000
  decide +kernel) (HT.out.below hb1))
 clear hf HSQ HT
 go_wp2_with fail
 refine HNO.out.mono ?_
 intro e w2 hp1
 obtain ⟨v,rfl,hv1⟩:=hp1.2.1 ziv
 have hb2:=hp1.2.2
 rw [zof] at hv1
 obtain ⟨b,off,cap,pa,pc,ta,tc,ba,bc,rfl,hb,hcap,m0,m1,m2,m3,m4,m5,hpp,htt,hbb,hs0,hs5⟩:=zna hv1 (j:=0) (by simp)
 simp only [show at' [exFn] 0=exFn from rfl,Nat.zero_mul,Nat.add_zero,List.length_singleton] at *
 have HC1:Hid (∀ w1,Below w2.heap.size w2 w1→Calls Tryz.prog 34 #[exV pa ta ba pc tc bc,.slice none 0 0] w1 fun e w'=>∃ xa xc ya yc,e=.returned (.tuple #[.agg #[.string ⟨#[102,49]⟩,.slice xa 3 xc,.int .u8 57,.int .i64 0,.string ⟨#[]⟩,.slice ya 1 yc],.int .i64 0])∧Below w1.heap.size w1 w'):=Lib.hid (fun w1 h=>kproc_ex pa ta ba pc tc bc w1 (hpp.stays (Stays.of_below h)) (htt.stays (Stays.of_below h)) (hbb.stays (Stays.of_below h)) hs5)
 have HC2:Hid (∀ w1 kv,Below w2.heap.size w2 w1→Calls Tryz.prog 35 #[exV pa ta ba pc tc bc,kv] w1 fun e w'=>∃ xa xc ya yn yc,e=.returned (.tuple #[.agg #[.string ⟨#[102]⟩,.slice xa 2 xc,.int .u8 57,.int .i64 0,.string ⟨#[]⟩,.slice ya yn yc],.int .i64 0])∧Below w1.heap.size w1 w'):=Lib.hid (fun w1 kv h=>clean_ex pa ta ba pc tc bc kv w1 (hpp.stays (Stays.of_below h)) (htt.stays (Stays.of_below h)) (hbb.stays (Stays.of_below h)) hs5)
 have HC3:Hid (∀ w1,Below w2.heap.size w2 w1→Calls Tryz.prog 24 #[exV pa ta ba pc tc bc] w1 fun e w'=>e=.returned (.tuple #[.int .i64 1,.int .i64 0])∧Below w1.heap.size w1 w'):=Lib.hid (fun w1 h=>garbage_ex pa ta ba pc tc bc w1 (htt.stays (Stays.of_below h)))
 have HMM:Hid (∀ w1,Below w2.heap.size w2 w1→w1.cell? ⟨b,off,none⟩=some (.string exFn.name)∧w1.cell? ⟨b,off+1,none⟩=some (.slice pa exFn.params.length pc)∧w1.cell? ⟨b,off+2,none⟩=some (.bool exFn.list)∧w1.cell? ⟨b,off+3,none⟩=some (.slice ta exFn.temps.length tc)∧w1.cell? ⟨b,off+4,none⟩=some (.slice ba exFn.body.length bc)∧w1.cell? ⟨b,off+5,none⟩=some (.string exFn.result)):=Lib.hid (fun w1 h=>⟨(h.cell hb).trans m0,(h.cell hb).trans m1,(h.cell hb).trans m2,(h.cell hb).trans m3,(h.cell hb).trans m4,(h.cell hb).trans m5⟩)
 have HBB:Hid (Below w.heap.size w w2):=Lib.hid (hb1.trans (hb2.mono hb1.size))
 have HCP:=Lib.hid hcap
 clear hp1 hv1 hpp htt hbb hs0 hs5 HNO hb1 hb2
 unfold exV at HC1 HC2 HC3
 go_wp2_with (first
  | (go_at_call 34;refine (HC1.out _ (by (repeat (with_reducible first|exact Below.refl _ _|refine zab ?_|refine zaa ?_|(apply zac;focus assumption))))).mono ?_;rintro e w3 ⟨xa,xc,ya,yc,rfl,hb3⟩;obtain ⟨n0,n1,n2,n3,n4,n5⟩:=HMM.out (w3.alloc (.cells #[.string ⟨#[102,49]⟩,.slice xa 3 xc,.int .u8 57,.int .i64 0,.string ⟨#[]⟩,.slice ya 1 yc] 83)) (by (repeat (with_reducible first|exact Below.refl _ _|refine zab ?_|refine zaa ?_|(apply zac;focus assumption)))))
  | (go_at_call 35;refine (HC2.out _ _ (by (repeat (with_reducible first|exact Below.refl _ _|refine zab ?_|refine zaa ?_|(apply zac;focus assumption))))).mono ?_;rintro e w4 ⟨xb,xd,yb,yn,yd,rfl,hb4⟩;obtain ⟨s0,s1,s2,s3,s4,s5⟩:=HMM.out (w4.alloc (.cells #[.string ⟨#[102]⟩,.slice xb 2 xd,.int .u8 57,.int .i64 0,.string ⟨#[]⟩,.slice yb yn yd] 83)) (by (repeat (with_reducible first|exact Below.refl _ _|refine zab ?_|refine zaa ?_|(apply zac;focus assumption)))))
  | (go_at_call 24;refine (HC3.out _ (by (repeat (with_reducible first|exact Below.refl _ _|refine zab ?_|refine zaa ?_|(apply zac;focus assumption))))).mono ?_;rintro e w5 ⟨rfl,hb5⟩;obtain ⟨x0,x1,x2,x3,x4,x5⟩:=cells6 (w:=w5) (b:=w3.heap.size) (e:=83) (v0:=.string ⟨#[102,49]⟩) (v1:=.slice xa 3 xc) (v2:=.int .u8 57) (v3:=.int .i64 0) (v4:=.string ⟨#[]⟩) (v5:=.slice ya 1 yc) (by (repeat (with_reducible first|(refine zaj ?_;(simp;done))|(refine zaj ?_;rfl)|refine zai ?_|refine zag ?_|(apply zad;focus assumption))));obtain ⟨z0,z1,z2,z3,z4,z5⟩:=cells6 (w:=w5) (b:=w4.heap.size) (e:=83) (v0:=.string ⟨#[102]⟩) (v1:=.slice xb 2 xd) (v2:=.int .u8 57) (v3:=.int .i64 0) (v4:=.string ⟨#[]⟩) (v5:=.slice yb yn yd) (by (repeat (with_reducible first|(refine zaj ?_;(simp;done))|(refine zaj ?_;rfl)|refine zai ?_|refine zag ?_|(apply zad;focus assumption)))))
  | (go_at_call 36;refine (znG _).mono ?_;rintro e w6 ⟨rfl,rfl⟩))
 go_ret
 exact ⟨rfl,HBB.out.trans (Below.mono (by (repeat (with_reducible first|exact Below.refl _ _|refine zab ?_|refine zaa ?_|(apply zac;focus assumption)))) HBB.out.size)⟩
end Go.Proofs.YtpobmoegmdhbpaaGreatDoor
