/- Contracts and plain lemmas (VlA, DatV, GrB, FevA, StepD, FevO, FevP, FevQ, FevR, FevS, PLib): no statement of the seat is proved here. -/
import Derived.Test.YtjhimhlebbamoaaDoorZq08
import Derived.Test.YtjhimhlebbamoaaDoorZq07
import Derived.Test.YtjhimhlebbamoaaDoorZq01
import Derived.Test.YtjhimhlebbamoaaDoorZq03
import Derived.Lib.SmallJoins
import Derived.Deep.RegionHeld3
import Derived.WalkSpells
/- Values and call trees in the heap. -/
set_option linter.unusedSimpArgs false
set_option linter.unusedVariables false
set_option linter.unusedSectionVars false
set_option maxRecDepth 100000
set_option maxHeartbeats 3200000
namespace Go.Proofs.YtjhimhlebbamoaaDoor
open Go.RowKit
def IntE:Elem Int where
 size:=1
 C:=fun _ _ c x=>c 0=.int .i64 x∧In64 x
 stays:=fun _ _ _ h=>h
 congr:=fun h e=>⟨(e 0 (by omega)).trans h.1,h.2⟩
 one:=fun h i hi=>by obtain rfl:i=0:=by omega
                     rw [h.1];rfl
theorem TInt:RowT Tryd.prog 27 3 (.int .i64 0) 1 8:=⟨Tryd.underlying27,by kernel_rfl⟩
theorem TVl:RowT Tryd.prog 24 40 (.agg #[.bool false,.int .i64 0,.slice none 0 0]) 3 40:=⟨Tryd.underlying24,by kernel_rfl⟩
structure VlC (A:Nat→Prop) (w:World) (c:Nat→Value) (x:Vl):Prop where
 c0:c 0=.bool x.list
 c1:c 1=.int .i64 x.n
 c2:RowsAt IntE A w (c 2) x.l
 ok:In64 x.n
theorem VlC.stays {A A':Nat→Prop} {w w':World} (hs:Stays A A' w w') {c:Nat→Value} {x:Vl} (h:VlC A w c x):VlC A' w' c x:=⟨h.c0,h.c1,h.c2.stays hs,h.ok⟩
theorem VlC.congr {A:Nat→Prop} {w:World} {c d:Nat→Value} {x:Vl} (h:VlC A w c x) (e:∀ i,i < 3→d i=c i):VlC A w d x:=⟨(e 0 (by omega)).trans h.c0,(e 1 (by omega)).trans h.c1,by rw [e 2 (by omega)];exact h.c2,h.ok⟩
def VlE:Elem Vl where
 size:=3
 C:=VlC
 stays:=fun hs _ _ h=>h.stays hs
 congr:=fun h e=>h.congr e
 one:=fun h i hi=>by
  obtain ⟨_,a,c,e⟩:=h.c2.form
  match i,hi with
  | 0,_=>rw [h.c0];rfl
  | 1,_=>rw [h.c1];rfl
  | 2,_=>rw [e];rfl
def VlAt (A:Nat→Prop) (w:World) (v:Value) (x:Vl):Prop:=∃ a c,v=.agg #[.bool x.list,.int .i64 x.n,.slice a x.l.length c]∧In64 x.n∧RowsAt IntE A w (.slice a x.l.length c) x.l
theorem VlAt.stays {A A':Nat→Prop} {w w':World} (hs:Stays A A' w w') {v:Value} {x:Vl} (h:VlAt A w v x):VlAt A' w' v x:=by
 obtain ⟨a,c,rfl,h1,h2⟩:=h;exact ⟨a,c,rfl,h1,h2.stays hs⟩
theorem vl_no {A:Nat→Prop} (w:World):VlAt A w (.agg #[.bool false,.int .i64 0,.slice none 0 0]) noVl:=⟨none,0,rfl,by unfold In64 noVl;simp,RowsAt.nil _ _ _⟩
theorem vl_int {A:Nat→Prop} (w:World) {x:Int} (h:In64 x):VlAt A w (.agg #[.bool false,.int .i64 x,.slice none 0 0]) ⟨false,x,[]⟩:=⟨none,0,rfl,h,RowsAt.nil _ _ _⟩
theorem in64_0:In64 0:=by unfold In64;omega
theorem vls_at {A:Nat→Prop} {w:World} {v:Value} {l:List Vl} (h:RowsAt VlE A w v l) {j:Nat} (hj:j < l.length):
 ∃ b off cap a c,v=.slice (some ⟨b,off,none⟩) l.length cap∧b < w.heap.size∧l.length≤cap∧A b∧w.cell? ⟨b,off+j * 3,none⟩=some (.bool (at' l j).list)∧w.cell? ⟨b,off+j * 3+1,none⟩=some (.int .i64 (at' l j).n)∧w.cell? ⟨b,off+j * 3+2,none⟩=some (.slice a (at' l j).l.length c)∧
   In64 (at' l j).n∧RowsAt IntE A w (.slice a (at' l j).l.length c) (at' l j).l:=by
 obtain ⟨b,off,cap,cs,rfl,h1,h2,h3,h4,h5⟩:=h.at hj
 have c0:=h4 0 (by show 0 < 3;omega)
 have c1:=h4 1 (by show 1 < 3;omega)
 have c2:=h4 2 (by show 2 < 3;omega)
 have h6:VlC A w cs (at' l j):=h5
 obtain ⟨_,a,c,e⟩:=h6.c2.form
 have h7:=h6.c2
 rw [h6.c0] at c0
 rw [h6.c1] at c1
 rw [e] at c2 h7
 exact ⟨b,off,cap,a,c,rfl,h1,h2,h3,c0,c1,c2,h6.ok,h7⟩
theorem ints_at {A:Nat→Prop} {w:World} {v:Value} {l:List Int} (h:RowsAt IntE A w v l) {j:Nat} (hj:j < l.length):
 ∃ b off cap,v=.slice (some ⟨b,off,none⟩) l.length cap∧b < w.heap.size∧l.length≤cap∧w.cell? ⟨b,off+j,none⟩=some (.int .i64 (nth l j))∧In64 (nth l j):=by
 obtain ⟨b,off,cap,cs,rfl,h1,h2,h3,h4,h5⟩:=h.at hj
 have c0:=h4 0 (by show 0 < 1;omega)
 have h6:cs 0=.int .i64 (at' l j)∧In64 (at' l j):=h5
 have e:at' l j=nth l j:=by rw [at_eq hj,nth,List.getElem?_eq_getElem hj];rfl
 rw [h6.1,e] at c0
 rw [e] at h6
 exact ⟨b,off,cap,rfl,h1,h2,by simpa [IntE] using c0,h6.2⟩
inductive TrsAt (A:Nat→Prop) (w:World):Value→List Tr→Prop
 | mk (v:Value) (l:List Tr) (cs:Nat→Nat→Value) (h:RowAt A w 6 v l.length cs)
    (hf:∀ j,j < l.length→cs j 0=.int .i64 (at' l j).f∧RowsAt VlE A w (cs j 1) (at' l j).args∧VlC A w (fun i=>cs j (i+2)) (at' l j).res∧In64 (at' l j).f)
    (hk:∀ j,j < l.length→TrsAt A w (cs j 5) (at' l j).calls):TrsAt A w v l
theorem TrsAt.stays {A A':Nat→Prop} {w w':World} (hs:Stays A A' w w') {v:Value} {l:List Tr} (h:TrsAt A w v l):TrsAt A' w' v l:=by
 induction h with
 | mk v l cs h hf hk ih=>exact .mk v l cs (h.stays hs) (fun j hj=>by obtain ⟨a0,a1,a2,a3⟩:=hf j hj;exact ⟨a0,a1.stays hs,a2.stays hs,a3⟩) ih
theorem TrsAt.nil {A:Nat→Prop} (w:World):TrsAt A w (.slice none 0 0) []:=.mk _ [] (fun _ _=>undef) (RowAt.empty _ _ _) (fun j hj=>by simp at hj) (fun j hj=>by simp at hj)
theorem TrsAt.form {A:Nat→Prop} {w:World} {v:Value} {l:List Tr} (h:TrsAt A w v l):l.length≤maxLen∧∃ a c,v=.slice a l.length c:=by
 cases h with
 | mk _ _ cs h hf hk=>exact ⟨h.1,h.form⟩
structure TrC (A:Nat→Prop) (w:World) (c:Nat→Value) (t:Tr):Prop where
 c0:c 0=.int .i64 t.f
 c1:RowsAt VlE A w (c 1) t.args
 c2:VlC A w (fun i=>c (i+2)) t.res
 c5:TrsAt A w (c 5) t.calls
 ok:In64 t.f
theorem TrC.stays {A A':Nat→Prop} {w w':World} (hs:Stays A A' w w') {c:Nat→Value} {t:Tr} (h:TrC A w c t):TrC A' w' c t:=⟨h.c0,h.c1.stays hs,h.c2.stays hs,h.c5.stays hs,h.ok⟩
theorem TrC.congr {A:Nat→Prop} {w:World} {c d:Nat→Value} {t:Tr} (h:TrC A w c t) (e:∀ i,i < 6→d i=c i):TrC A w d t:=
 ⟨(e 0 (by omega)).trans h.c0,by rw [e 1 (by omega)];exact h.c1,h.c2.congr fun i hi=>e (i+2) (by omega),by rw [e 5 (by omega)];exact h.c5,h.ok⟩
def TrE:Elem Tr where
 size:=6
 C:=TrC
 stays:=fun hs _ _ h=>h.stays hs
 congr:=fun h e=>h.congr e
 one:=fun h i hi=>by
  obtain ⟨_,a,c,e1⟩:=h.c1.form
  obtain ⟨_,a',c',e4⟩:=h.c2.c2.form
  obtain ⟨_,a2,c2,e5⟩:=h.c5.form
  have e2:=h.c2.c0
  have e3:=h.c2.c1
  simp only [Nat.zero_add,Nat.reduceAdd] at e2 e3 e4
  match i,hi with
  | 0,_=>rw [h.c0];rfl
  | 1,_=>rw [e1];rfl
  | 2,_=>rw [e2];rfl
  | 3,_=>rw [e3];rfl
  | 4,_=>rw [e4];rfl
  | 5,_=>rw [e5];rfl
theorem trs_rows {A:Nat→Prop} {w:World} {v:Value} {l:List Tr}:TrsAt A w v l ↔ RowsAt TrE A w v l:=by
 constructor
 · intro h
   cases h with
   | mk _ _ cs h hf hk=>exact ⟨cs,h,fun j hj=>by obtain ⟨e0,e1,e2,e3⟩:=hf j hj;exact ⟨e0,e1,e2,hk j hj,e3⟩⟩
 · rintro ⟨cs,h,hf⟩
   exact .mk v l cs h (fun j hj=>⟨(hf j hj).c0,(hf j hj).c1,(hf j hj).c2,(hf j hj).ok⟩) (fun j hj=>(hf j hj).c5)
end Go.Proofs.YtjhimhlebbamoaaDoor
/- What arguments read as:integers,values,costs. -/
namespace Go.Proofs.YtjhimhlebbamoaaDoor
open Go.ChangeShapes Go.WideShapes Go.ChangeAt Go.RowKit
set_option maxRecDepth 100000
section
variable {H:Type} {enc:TypeId × Value→H} {W:World} {spare:Nat→Bool} {held:Bool}
theorem openIrow {fuel:Nat} {cs:List Value} {x:DataW H × List MemPlace} (h:DataW.trod enc Tryd.prog W 0 spare held fuel 27 cs=some x):∃ v l,cs=[v]∧RowsAt IntE Any W v l:=by
 obtain ⟨v,len,csF,rfl,hrow,hel⟩:=openRow (size:=1) Tryd.underlying27 (by kernel_rfl) (by decide) h
 have each:∀ j,j < len→∃ s:Int,csF j 0=.int .i64 s∧In64 s:=by
  intro j hj
  obtain ⟨m,y,hm,hy⟩:=hel j hj
  obtain ⟨s,e0,_,w0⟩:=DataW.trod_int Tryd.underlying3 hy
  have hr:(List.range 1).map (csF j)=[csF j 0]:=rfl
  rw [hr] at e0
  simp only [List.cons.injEq,and_true] at e0
  exact ⟨s,e0,rangeI64 w0⟩
 obtain ⟨q,hq⟩:=Go.Deep.choose_lt each
 have hlen:((List.range len).map q).length=len:=by simp
 have hat:∀ j,j < len→at' ((List.range len).map q) j=q j:=fun j hj=>by rw [at_eq (by simpa using hj)];simp
 refine ⟨v,(List.range len).map q,rfl,csF,by rw [hlen];exact hrow,fun j hj=>?_⟩
 rw [hlen] at hj
 rw [hat j hj]
 exact hq j hj
theorem openVls {fuel:Nat} {cs:List Value} {x:DataW H × List MemPlace} (h:DataW.trod enc Tryd.prog W 0 spare held fuel 24 cs=some x):∃ v l,cs=[v]∧RowsAt VlE Any W v l:=by
 obtain ⟨v,len,csF,rfl,hrow,hel⟩:=openRow (size:=3) Tryd.underlying24 (by kernel_rfl) (by decide) h
 have each:∀ j,j < len→∃ p:Vl,VlC Any W (csF j) p:=by
  intro j hj
  obtain ⟨m,y,hm,hy⟩:=hel j hj
  obtain ⟨xs,n,rfl,hxy,hl,hxl,hf⟩:=DataW.trod_struct Tryd.underlying40 hy
  have g0:=hf 0 _ rfl
  have g1:=hf 1 _ rfl
  have g2:=hf 2 _ rfl
  have c0:Tryd.prog.cellsOf 4=1:=by kernel_rfl
  have c1:Tryd.prog.cellsOf 3=1:=by kernel_rfl
  have c2:Tryd.prog.cellsOf 27=1:=by kernel_rfl
  have hr:(List.range 3).map (csF j)=[csF j 0,csF j 1,csF j 2]:=rfl
  rw [hr] at g0 g1 g2
  match xs,hxl with
  | [y0,y1,y2],_=>
    simp [c0,c1,c2] at g0 g1 g2
    obtain ⟨b,e0,_⟩:=DataW.trod_bool Tryd.underlying4 g0
    obtain ⟨i,e1,_,w1⟩:=DataW.trod_int Tryd.underlying3 g1
    obtain ⟨lv,l,e2,hl⟩:=openIrow g2
    simp only [List.cons.injEq,and_true] at e0 e1 e2
    exact ⟨⟨b,i,l⟩,e0,e1,by rw [e2];exact hl,rangeI64 w1⟩
 obtain ⟨q,hq⟩:=Go.Deep.choose_lt each
 have hlen:((List.range len).map q).length=len:=by simp
 have hat:∀ j,j < len→at' ((List.range len).map q) j=q j:=fun j hj=>by rw [at_eq (by simpa using hj)];simp
 refine ⟨v,(List.range len).map q,rfl,csF,by rw [hlen];exact hrow,fun j hj=>?_⟩
 rw [hlen] at hj
 rw [hat j hj]
 exact hq j hj
end
end Go.Proofs.YtjhimhlebbamoaaDoor
/- Walks of package backsteplaw37:Great;of backsteplaw43:great. -/
namespace Go.Proofs.YtjhimhlebbamoaaDoor
open Go.RowKit
structure GreatOk (lib:List Fn) (args:List Vl):Prop where
 len:lib.length≤6
 al:args.length≤8
 bod:∀ i,i < lib.length→sizeN (at' lib i).body≤200
 vl:∀ i,i < args.length→(at' args i).l.length≤40
def G37 (lib:List Fn) (args:List Vl) (w:World) (e:Ending) (w':World):Prop:=∃ x:Int,e=.returned (.int .i64 x)∧(x=0∨x=1)∧(x=0→GreatOk lib args)∧Below w.heap.size w w'
theorem g37_no {lib:List Fn} {args:List Vl} {w w':World} (h:Below w.heap.size w w'):G37 lib args w (.returned (.int .i64 1)) w':=⟨1,rfl,.inr rfl,fun h=>by omega,h⟩
theorem great37_any (lv:Value) (lib:List Fn) (av:Option Addr) (ac:Nat) (args:List Vl) (A:Nat→Prop) (w:World) (hl:FnsAt A w lv lib) (ha:RowsAt VlE A w (.slice av args.length ac) args):
 Calls Tryd.prog 27 #[lv,.slice av args.length ac] w (G37 lib args w):=by
 obtain ⟨hll,la,lc,rfl⟩:=hl.form
 have hal:=ha.form.1
 unfold maxLen at hll hal
 have HL:Hid (FnsAt (fun k=>k < w.heap.size) w (.slice la lib.length lc) lib):=Lib.hid (hl.stays ⟨Nat.le_refl _,fun b hb _=>⟨rfl,hb⟩⟩)
 have HA:Hid (RowsAt VlE (fun k=>k < w.heap.size) w (.slice av args.length ac) args):=Lib.hid (ha.stays ⟨Nat.le_refl _,fun b hb _=>⟨rfl,hb⟩⟩)
 clear hl ha
 go_enter Tryd.func27,Tryd.ntmps27
 by_cases l6:(6:Int) < lib.length
 · go_wp2
   go_ret
   exact g37_no (Below.refl _ _)
 by_cases a8:(8:Int) < args.length
 · go_wp2
   go_ret
   exact g37_no (Below.refl _ _)
 go_wp2
 go_loopw [21] (fun i wr=>∃ k:Nat,k≤lib.length∧i=.int .i64 k∧(∀ j,j < k→sizeN (at' lib j).body≤200)∧Below w.heap.size w wr) (fun i _=>lib.length - (intOf i).toNat)
 case atStart=>exact ⟨0,Nat.zero_le _,rfl,fun j hj=>absurd hj (by omega),Below.refl _ _⟩
 case round=>
  obtain ⟨k,hkk,rfl,hno,hbl⟩:=hrel
  have HNO:=Lib.hid hno
  have HBL:=Lib.hid hbl
  clear hno
  by_cases hlt:k < lib.length
  · obtain ⟨b,off,cap,pa,pc,ka,kc,he,hb,_,hAb,c0,c1,c2,c3,c4,c5,c6,hsn,hpar,hnd⟩:=(HL.out.stays (Stays.of_below hbl)).at hlt
    simp only [Value.slice.injEq] at he
    obtain ⟨rfl,-,rfl⟩:=he
    obtain ⟨B,hB⟩:∃ B,B=Obj.cells #[.string (at' lib k).name,.slice pa (at' lib k).params.length pc,.bool (at' lib k).list,.int .u8 (at' lib k).body.kind,.int .i64 (at' lib k).body.num,.string (at' lib k).body.name,.slice ka (at' lib k).body.kids.length kc] 68 (0,0):=⟨_,rfl⟩
    have hbx:Below w.heap.size w (wr.alloc B):=bel_alloc hbl
    have HBX:=Lib.hid hbx
    have HPAR:=Lib.hid (hpar.stays (Stays.of_below (bel_alloc (x:=B) (Below.refl wr.heap.size wr))))
    have HC:=Lib.hid (pgreat_any (at' lib k).body _ _ _ _ _ _ _ _ rfl rfl (hnd.stays (Stays.of_below (bel_alloc (x:=B) (Below.refl wr.heap.size wr)))))
    have HBK:=Lib.hid (at_new0 wr B)
    have hpl:=hpar.form.1
    unfold maxLen at hpl
    subst hB
    clear hbl hpar hnd hbx
    by_cases p10:(10:Int) < (at' lib k).params.length
    · go_wp2
      go_ret
      exact g37_no HBX.out
    by_cases n40:(40:Int) < (at' lib k).name.size
    · go_wp2
      go_ret
      exact g37_no HBX.out
    go_wp2_with fail
    refine HC.out.mono ?_
    rintro e w5 ⟨x,rfl,hx,hx2,hb5⟩
    have HX2:=Lib.hid hx2
    have HB5:=Lib.hid (HBX.out.trans (hb5.mono HBX.out.size))
    have HP5:=Lib.hid (HPAR.out.stays (Stays.of_below hb5))
    have f1:=cell_blk (blk_below hb5 HBK.out) 1 rfl
    clear hb5 hx2 HC
    rcases hx with rfl|rfl
    · have HX3:Hid (sizeN (at' lib k).body≤200):=Lib.hid (HX2.out rfl)
      clear HX2
      go_wp2
      go_loopw [45] (fun i wr2=>∃ j:Nat,j≤(at' lib k).params.length∧i=.int .i64 j∧Below w5.heap.size w5 wr2) (fun i _=>(at' lib k).params.length - (intOf i).toNat)
      case atStart=>exact ⟨0,Nat.zero_le _,rfl,Below.refl _ _⟩
      case round=>
       obtain ⟨j,hjj,rfl,hbj⟩:=hrel
       have HBJ:=Lib.hid hbj
       by_cases hjlt:j < (at' lib k).params.length
       · obtain ⟨b',off',cap',he,hb',_,_,p0,p1,hs⟩:=(HP5.out.stays (Stays.of_below hbj)).at hjlt
         simp only [Value.slice.injEq] at he
         obtain ⟨rfl,-,rfl⟩:=he
         clear hbj
         by_cases n41:(40:Int) < (at' (at' lib k).params j).name.size
         · go_wp2
           go_ret
           exact g37_no (HB5.out.trans ((bel_alloc HBJ.out).mono HB5.out.size))
         · go_wp2
           go_roundw
           case rel=>exact ⟨j+1,by omega,by go_num,bel_alloc HBJ.out⟩
           case measure=>simp [intOf];omega
       · obtain rfl:j=(at' lib k).params.length:=by omega
         have hlt':¬ ((at' lib k).params.length:Int) < ((at' lib k).params.length:Int):=by omega
         clear hbj
         go_wp2
         go_roundw
         case rel=>exact ⟨k+1,by omega,by go_num,fun j' hj'=>(by
          by_cases e:j'=k
          · rw [e];exact HX3.out
          · exact HNO.out j' (by omega)),HB5.out.trans (HBJ.out.mono HB5.out.size)⟩
         case measure=>simp [intOf];omega
    · go_wp2
      go_ret
      exact g37_no HB5.out
  · obtain rfl:k=lib.length:=by omega
    have hlt':¬ (lib.length:Int) < (lib.length:Int):=by omega
    clear hbl
    go_wp2
    go_loopw [57] (fun i wr2=>∃ j:Nat,j≤args.length∧i=.int .i64 j∧(∀ i,i < j→(at' args i).l.length≤40)∧Below w.heap.size w wr2) (fun i _=>args.length - (intOf i).toNat)
    case atStart=>exact ⟨0,Nat.zero_le _,rfl,fun j hj=>absurd hj (by omega),HBL.out⟩
    case round=>
     obtain ⟨j,hjj,rfl,hvj,hbj⟩:=hrel
     have HBJ:=Lib.hid hbj
     have HVJ:=Lib.hid hvj
     clear hvj
     by_cases hjlt:j < args.length
     · obtain ⟨b2,off2,cap2,va,vc,he,_,_,_,q0,q1,q2,hvn,hvr⟩:=vls_at (HA.out.stays (Stays.of_below hbj)) hjlt
       simp only [Value.slice.injEq] at he
       obtain ⟨rfl,-,rfl⟩:=he
       clear hbj
       by_cases n42:(40:Int) < (at' args j).l.length
       · go_wp2
         go_ret
         exact g37_no (bel_alloc HBJ.out)
       · go_wp2
         go_roundw
         case rel=>exact ⟨j+1,by omega,by go_num,fun i hi=>(by
          by_cases e:i=j
          · rw [e];omega
          · exact HVJ.out i (by omega)),bel_alloc HBJ.out⟩
         case measure=>simp [intOf];omega
     · obtain rfl:j=args.length:=by omega
       have hlt2:¬ (args.length:Int) < (args.length:Int):=by omega
       go_wp2
       go_ret
       exact ⟨0,rfl,.inl rfl,fun _=>⟨by omega,by omega,HNO.out,HVJ.out⟩,HBJ.out⟩
def G43 (lib:List Fn) (kept:List ByteArray) (args:List Vl) (w:World) (e:Ending) (w':World):Prop:=∃ b:Bool,e=.returned (.bool b)∧(b=false→GreatOk lib args∧kept.length≤10)∧Below w.heap.size w w'
theorem great43_any (lv:Value) (lib:List Fn) (ka:Option Addr) (kc:Nat) (kept:List ByteArray) (av:Option Addr) (ac:Nat) (args:List Vl) (A:Nat→Prop) (w:World) (hl:FnsAt A w lv lib) (ha:RowsAt VlE A w (.slice av args.length ac) args):
 Calls Tryd.prog 10 #[lv,.slice ka kept.length kc,.slice av args.length ac] w (G43 lib kept args w):=by
 have HC:=Lib.hid (great37_any lv lib av ac args A w hl ha)
 clear hl ha
 go_enter Tryd.func10,Tryd.ntmps10
 go_wp2_with fail
 refine HC.out.mono ?_
 rintro e w5 ⟨x,rfl,hx,hx2,hb5⟩
 have HB5:=Lib.hid hb5
 clear hb5 HC
 rcases hx with rfl|rfl
 · have HX3:=Lib.hid (hx2 rfl)
   clear hx2
   go_wp2
   go_ret
   exact ⟨_,rfl,(fun h=>⟨HX3.out,by simp at h;omega⟩),HB5.out⟩
 · go_wp2
   go_ret
   exact ⟨true,rfl,(fun h=>by cases h),HB5.out⟩
end Go.Proofs.YtjhimhlebbamoaaDoor
/- Walks of package funeval:clone,operate. -/
namespace Go.Proofs.YtjhimhlebbamoaaDoor
open Go.RowKit
theorem RowsAt.young {α:Type} [Inhabited α] {E:Elem α} {A A':Nat→Prop} {w:World} {v:Value} {l:List α} (h:RowsAt E A w v l) (hA:∀ k,k < w.heap.size→A k→A' k):RowsAt E A' w v l:=h.stays ⟨Nat.le_refl _,fun b hb a=>⟨rfl,hA b hb a⟩⟩
theorem cloneInts (v:Value) (l:List Int) (A:Nat→Prop) (w:World) (hv:RowsAt IntE A w v l) (hl:l.length≤100000):
 Calls Tryd.prog 85 #[v] w fun e w'=>∃ a c,e=.returned (.slice a l.length c)∧RowsAt IntE (Up w.heap.size) w' (.slice a l.length c) l∧Below w.heap.size w w':=by
 obtain ⟨hll,a,c,rfl⟩:=hv.form
 cases a with
 | none=>
   have hl0:l.length=0∧c=0:=by
    obtain ⟨cs,⟨h0,a',cap',he,h1,h2,h3⟩,_⟩:=hv
    simp only [Value.slice.injEq] at he
    obtain ⟨rfl,-,rfl⟩:=he
    have:=h2 rfl;omega
   obtain ⟨hl0,rfl⟩:=hl0
   have hnil:l=[]:=List.eq_nil_of_length_eq_zero hl0
   subst hnil
   have heq:=fun (w:World)=>Lib.run_eql_slice_nil (P:=Tryd.prog) w 27 3 none 0 0 0 0 Tryd.underlying27
   clear hv hl0
   go_enter Tryd.func85,Tryd.ntmps85
   go_wp2
   go_ret
   exact ⟨_,_,rfl,RowsAt.nil _ _ _,Below.refl _ _⟩
 | some ad=>
   have hB:Below w.heap.size w (w.alloc (.cells #[] 3)):=(Below.refl _ _).alloc (Nat.le_refl _) _
   have HV:Hid (RowsAt IntE (fun j=>A j∧j < w.heap.size) (w.alloc (.cells #[] 3)) (.slice (some ad) l.length c) l):=Lib.hid (hv.stays ⟨hB.size,fun b hb a=>⟨hB.block b hb,a,hb⟩⟩)
   have HRW:Hid (RowsOwn IntE 3 (fun j=>True) w.heap.size (w.alloc (.cells #[] 3)) (.slice (some ⟨w.heap.size,0,none⟩) 0 0) []):=Lib.hid ⟨[],⟨rfl,.inr ⟨w.heap.size,0,#[],rfl,Nat.le_refl _,heap_alloc_new w _,Nat.le_refl _,by unfold maxLen;omega,rfl,rfl⟩⟩,fun j hj=>by simp at hj⟩
   have HD:Hid (∀ b,b < (w.alloc (.cells #[] 3)).heap.size→(A b∧b < w.heap.size)→True∧(Value.slice (some ⟨w.heap.size,0,none⟩) 0 0).ownBlock≠some b):=Lib.hid (fun b _ a=>⟨trivial,fun e=>by simp [Value.ownBlock] at e;omega⟩)
   have heq:=fun (w:World)=>Lib.run_eql_slice_nil (P:=Tryd.prog) w 27 3 (some ad) l.length c 0 0 Tryd.underlying27
   clear hv
   go_enter Tryd.func85,Tryd.ntmps85
   go_wp2_with (at_builtin;refine wpl_rows TInt rfl (by decide) rfl (.tmp 5) (.tmp 6) rfl rfl rfl HRW.out HV.out HD.out (by unfold maxLen;simp;omega) (by simp;omega) (by simp) ?_;intro a' c' w2 hown hg hn;have HO:=Lib.hid hown;have HG:Hid ((w.alloc (.cells #[] 3)).grownBy w2 (some w.heap.size)):=Lib.hid hg;clear hown hg hn)
   go_ret
   have hown:=HO.out
   simp only [List.length_nil,Nat.zero_add,List.nil_append] at hown
   have hBB:Below w.heap.size w w2:=hB.grown HG.out (by simp) (fun k e=>by
    have e2:w.heap.size=k:=by simpa using e
    omega)
   refine ⟨_,_,rfl,?_,hBB⟩
   obtain ⟨cs,h1,h2⟩:=hown.shut (A:=fun _=>True) (fun _ _=>trivial) (fun _ _=>trivial) hll
   obtain ⟨h0,a2,cap,e,g1,g2,g3⟩:=h1
   refine ⟨cs,⟨h0,a2,cap,e,g1,g2,fun hn=>?_⟩,h2⟩
   obtain ⟨b,off,rfl,q1,q2,q3⟩:=g3 hn
   refine ⟨b,off,rfl,q1,?_,q3⟩
   simp only [Value.slice.injEq] at e
   obtain ⟨rfl,-,rfl⟩:=e
   exact (hown.lt rfl).1
def ClonePost (x:Vl) (w:World) (e:Ending) (w':World):Prop:=∃ v,e=.returned v∧VlAt (Up w.heap.size) w' v (cleanV x)∧Below w.heap.size w w'
theorem cloneV_1 (xl:Bool) (xn:Int) (xs:List Int) (a:Option Addr) (c:Nat) (A:Nat→Prop) (w:World) (hn:In64 xn) (hr:RowsAt IntE A w (.slice a xs.length c) xs) (hl:xs.length≤100000):Calls Tryd.prog 66 #[.agg #[.bool xl,.int .i64 xn,.slice a xs.length c]] w (ClonePost ⟨xl,xn,xs⟩ w):=by
 have hA:Below w.heap.size w ((w.alloc (.cells #[.bool xl,.int .i64 xn,.slice a xs.length c] 40)).alloc (.cells #[.bool false,.int .i64 0,.slice none 0 0] 40)):=((Below.refl _ _).alloc (Nat.le_refl _) _).alloc (by simp) _
 have HX:=Lib.hid (at_old w (.cells #[.bool xl,.int .i64 xn,.slice a xs.length c] 40) (.cells #[.bool false,.int .i64 0,.slice none 0 0] 40))
 have HZ:=Lib.hid (at_new w (.cells #[.bool xl,.int .i64 xn,.slice a xs.length c] 40) (.cells #[.bool false,.int .i64 0,.slice none 0 0] 40))
 have HSZ:Hid (((w.alloc (.cells #[.bool xl,.int .i64 xn,.slice a xs.length c] 40)).alloc (.cells #[.bool false,.int .i64 0,.slice none 0 0] 40)).heap.size=w.heap.size+1+1):=Lib.hid (by simp)
 have HC:=Lib.hid (cloneInts _ xs A _ (hr.stays (Stays.of_below hA)) hl)
 clear hr
 cases xl
 · have HP:Hid (cleanV ⟨false,xn,xs⟩=⟨false,xn,[]⟩):=Lib.hid rfl
   go_enter Tryd.func66,Tryd.ntmps66
   go_wp2
   (try simp only [Exit.inBlock,Exit.then])
   refine bodyPost_ret (results_cell_row (P:=Tryd.prog) rfl _ _ (w.heap.size+1) _ _ _ _ rfl (at_new w _ _) Tryd.underlying40 rfl (by kernel_rfl)) rfl ?_
   refine ⟨_,rfl,?_,((Below.refl _ _).alloc (Nat.le_refl _) _).alloc (by simp) _⟩
   rw [HP.out]
   exact vl_int _ hn
 · have HP:Hid (cleanV ⟨true,xn,xs⟩=⟨true,0,xs⟩):=Lib.hid rfl
   go_enter Tryd.func66,Tryd.ntmps66
   go_wp2_with fail
   generalize ((w.alloc (.cells #[.bool true,.int .i64 xn,.slice a xs.length c] 40)).alloc (.cells #[.bool false,.int .i64 0,.slice none 0 0] 40))=W at *
   refine HC.out.mono ?_
   rintro e w1 ⟨a1,c1,rfl,hr1,hb1⟩
   have hz:=blk_below hb1 HZ.out
   obtain ⟨z0,z1,z2⟩:=cells3 hz
   have zf:=unfrozen hz
   have HZ1:=Lib.hid hz
   have HR1:=Lib.hid hr1
   clear hz hr1
   go_wp2
   (try simp only [Exit.inBlock,Exit.then])
   refine bodyPost_ret (results_cell_row (P:=Tryd.prog) rfl _ _ (w.heap.size+1) _ _ _ _ rfl (set3 HZ1.out _ _ _) Tryd.underlying40 rfl (by kernel_rfl)) rfl ?_
   have hzz:=HSZ.out
   refine ⟨_,rfl,?_,bel_sets3 (hA.trans (hb1.mono hA.size)) (by omega)⟩
   rw [HP.out]
   refine ⟨a1,c1,rfl,in64_0,(HR1.out.stays (stays_keep (keeps_set3 _ _ _ _ _) (fun k hk _=>?_))).young (fun k _ hk=>?_)⟩
   · have:W.heap.size≤k:=hk
     omega
   · have:W.heap.size≤k:=hk
     unfold Up;omega
theorem cloneV (v:Value) (x:Vl) (A:Nat→Prop) (w:World) (hv:VlAt A w v x) (hl:x.l.length≤100000):Calls Tryd.prog 66 #[v] w (ClonePost x w):=by
 obtain ⟨a,c,rfl,hn,hr⟩:=hv
 exact cloneV_1 x.list x.n x.l a c A w hn hr hl
theorem in64_wrap (n:Int):In64 (IntKind.wrap .i64 n):=by
 unfold IntKind.wrap In64
 have e1:((2:Int) ^ IntKind.bits .i64)=18446744073709551616:=by decide
 have e2:((2:Int) ^ (IntKind.bits .i64 - 1))=9223372036854775808:=by decide
 simp only [e1,e2,IntKind.signed,Bool.true_and,decide_eq_true_eq]
 split <;> omega
theorem in64_wrap64 (n:Int):In64 (wrap64 n):=by unfold wrap64 In64;omega
theorem in64_tmod {x:Int} (y:Int) (h:In64 x):In64 (x.tmod y):=by
 unfold In64 at *
 rcases Int.le_total 0 x with hx|hx
 · have h1:=Int.tmod_nonneg y hx
   have h2:x.tmod y≤x:=by
    have e:=Int.natAbs_tmod x y
    have l:=Nat.mod_le x.natAbs y.natAbs
    omega
   omega
 · have e:=Int.natAbs_tmod x y
   have l:=Nat.mod_le x.natAbs y.natAbs
   have s:=Int.tmod_nonneg y (show 0≤-x by omega)
   rw [Int.neg_tmod] at s
   omega
theorem ite_in64 {p:Prop} [Decidable p] {a b:Int} (ha:In64 a) (hb:In64 b):In64 (if p then a else b):=by split <;> assumption
theorem apI_in64 (op x y:Int) (hx:In64 x):In64 (apI op x y).1:=by
 have b0:In64 0:=in64_0
 have b1:In64 1:=by unfold In64;omega
 have key:∀ p:Prop,∀ _:Decidable p,In64 (if p then 1 else 0)∧In64 (if p then 0 else 1):=fun p _=>by by_cases h:p <;> simp [h,b0,b1]
 unfold apI
 repeat (first
  | (show In64 (Prod.fst (ite _ _ _));rw [apply_ite Prod.fst];refine ite_in64 ?_ ?_)
  | exact in64_wrap64 _
  | exact in64_tmod _ hx
  | exact in64_wrap _
  | exact (key _ _).1
  | exact (key _ _).2
  | exact b0)
def OpPost (r:Vl × Int) (A:Nat→Prop) (w:World) (e:Ending) (w':World):Prop:=∃ v,e=.returned (.tuple #[v,.int .i64 r.2])∧VlAt (NewB A w) w' v r.1∧Below w.heap.size w w'
theorem vls_cells0 {A:Nat→Prop} {w:World} {va:Option Addr} {vn vc:Nat} {l:List Vl} (h:RowsAt VlE A w (.slice va vn vc) l) (hl:0 < l.length):
 ∃ b off a c,va=some ⟨b,off,none⟩∧vn=l.length∧l.length≤vc∧RowsAt IntE A w (.slice a (at' l 0).l.length c) (at' l 0).l∧In64 (at' l 0).n∧∀ w1,Below w.heap.size w w1→w1.cell? ⟨b,off+1,none⟩=some (.int .i64 (at' l 0).n)∧w1.cell? ⟨b,off+2,none⟩=some (.slice a (at' l 0).l.length c):=by
 obtain ⟨b,off,cap,a,c,he,hb,h1,_,c0,c1,c2,h3,h4⟩:=vls_at h hl
 simp only [Value.slice.injEq] at he
 obtain ⟨rfl,rfl,rfl⟩:=he
 simp only [Nat.zero_mul,Nat.add_zero] at c0 c1 c2
 exact ⟨b,off,a,c,rfl,rfl,h1,h4,h3,fun w1 hw=>⟨(hw.cell (p:=⟨b,off+1,none⟩) hb).trans c1,(hw.cell (p:=⟨b,off+2,none⟩) hb).trans c2⟩⟩
theorem vls_cells1 {A:Nat→Prop} {w:World} {b off:Nat} {vn vc:Nat} {l:List Vl} (h:RowsAt VlE A w (.slice (some ⟨b,off,none⟩) vn vc) l) (hl:1 < l.length):
 ∃ a c,RowsAt IntE A w (.slice a (at' l 1).l.length c) (at' l 1).l∧∀ w1,Below w.heap.size w w1→w1.cell? ⟨b,off+3+1,none⟩=some (.int .i64 (at' l 1).n)∧w1.cell? ⟨b,off+3+2,none⟩=some (.slice a (at' l 1).l.length c):=by
 obtain ⟨b',off',cap,a,c,he,hb,h1,_,c0,c1,c2,h3,h4⟩:=vls_at h hl
 simp only [Value.slice.injEq,Option.some.injEq,Addr.mk.injEq] at he
 obtain ⟨⟨rfl,rfl,-⟩,-,-⟩:=he
 simp only [Nat.one_mul] at c0 c1 c2
 exact ⟨a,c,h4,fun w1 hw=>⟨(hw.cell (p:=⟨b,off+3+1,none⟩) hb).trans c1,(hw.cell (p:=⟨b,off+3+2,none⟩) hb).trans c2⟩⟩
end Go.Proofs.YtjhimhlebbamoaaDoor
/- Append inside of a region that draws. No function of the program is walked here. -/
namespace Go.Proofs.YtjhimhlebbamoaaDoor
open Go.RowKit
variable {α:Type} [Inhabited α]
theorem step_rows {E:Elem α} {t e bytes:Nat} {z:Value} (R:RowT Tryd.prog t e z E.size bytes) (hzs:z.cells.size=E.size) (hsz:0 < E.size) {ops:Array Oper} {o:Oper} {a:Act} {K:Act→World→Prop} {Q:Exit→Act→World→Prop} {E':Prop} (hgd:o.guard=none) (s x:Operand) (ho:o.op=.call { callee:=.builtin .append,args:=#[s,x],argTypes:=#[t,t] })
 {base:Nat} {w:World} {v u:Value} {l m:List α} {D D':Nat→Prop} (hs:a.eval s=v) (hx:a.eval x=u) (hown:RowsOwn E e D base w v l) (hu:RowsAt E D' w u m) (hD:∀ b,b < w.heap.size→D' b→D b∧v.ownBlock≠some b)
 (hl:l.length+m.length≤maxLen) (hby:(l.length+m.length) * bytes≤140737488355328) (hbase:base≤w.heap.size)
 (h:∀ a' c' w1,RowsOwn E e D base w1 (.slice a' (l.length+m.length) c') (l ++ m)→w.grownBy w1 v.ownBlock→NewOr w v (.slice a' (l.length+m.length) c')→K (a.put o.dst (.slice a' (l.length+m.length) c')) w1):
 if Region.wanted o (yielded ops a.tmps)=true then Oper.wp Tryd.prog o a w K Q else E':=by
 obtain ⟨xs,hrow,hf⟩:=hown
 obtain ⟨news,n1,n2,n3,n4⟩:=hu.src hsz
 refine step_append R hzs hsz hgd s x ho hs hx hrow n2 n1 n3 hl hby hbase ?_
 intro v' w1 h1 h2 h3
 obtain ⟨a',c',rfl⟩:=row_form h1
 refine h a' c' w1 ⟨xs ++ news,by rw [List.length_append];exact h1,fun j hj=>?_⟩ h2 h3
 have key:∀ b,b < w.heap.size→v.ownBlock≠some b→w1.heap[b]?=w.heap[b]?∧(Value.slice a' (l.length+m.length) c').ownBlock≠some b:=fun b hb hne=>by
  refine ⟨h2.block b hb (fun e=>hne e.symm),fun e=>?_⟩
  rcases h3 b e with e|e
  · exact hne e
  · omega
 have hst1:Stays (fun k=>D k∧v.ownBlock≠some k) (fun k=>D k∧(Value.slice a' (l.length+m.length) c').ownBlock≠some k) w w1:=⟨h2.size,fun b hb hne=>⟨(key b hb hne.2).1,hne.1,(key b hb hne.2).2⟩⟩
 have hst2:Stays D' (fun k=>D k∧(Value.slice a' (l.length+m.length) c').ownBlock≠some k) w w1:=⟨h2.size,fun b hb hd=>⟨(key b hb (hD b hb hd).2).1,(hD b hb hd).1,(key b hb (hD b hb hd).2).2⟩⟩
 have hxl:=hrow.1
 have hmul:∀ p q i,p < q→i < E.size→p * E.size+i < q * E.size:=fun p q i hp hi=>by
  calc p * E.size+i < p * E.size+E.size:=by omega
   _=(p+1) * E.size:=by rw [Nat.add_mul,Nat.one_mul]
   _≤q * E.size:=Nat.mul_le_mul_right _ hp
 by_cases hjl:j < l.length
 · rw [at_append_lt hjl]
   refine E.congr (E.stays hst1 (hf j hjl)) fun i hi=>?_
   simp only [vat,List.getD_eq_getElem?_getD]
   rw [List.getElem?_append_left (by rw [hxl];exact hmul _ _ _ hjl hi)]
 · have hjm:j - l.length < m.length:=by rw [List.length_append] at hj;omega
   rw [at_append_ge (by omega)]
   refine E.congr (E.stays hst2 (n4 _ hjm)) fun i hi=>?_
   simp only [vat,List.getD_eq_getElem?_getD]
   have e1:l.length * E.size≤j * E.size:=Nat.mul_le_mul_right _ (by omega)
   rw [List.getElem?_append_right (by omega),show j * E.size+i - xs.length=(j - l.length) * E.size+i by rw [hxl,Nat.sub_mul];omega]
end Go.Proofs.YtjhimhlebbamoaaDoor
/- Walks of package funeval:operate. -/
namespace Go.Proofs.YtjhimhlebbamoaaDoor
open Go.RowKit
theorem o88a (num:Int) (l:List Vl) (h0:(at' l 0).l.length=0):operateN apI 88 num l=(noVl,13):=by simp [operateN,h0]
theorem o88b (num:Int) (l:List Vl) (h0:¬ (at' l 0).l.length=0):operateN apI 88 num l=(⟨false,nth (at' l 0).l 0,[]⟩,0):=by simp [operateN,h0]
theorem o89a (num:Int) (l:List Vl) (h0:(at' l 0).l.length=0):operateN apI 89 num l=(noVl,13):=by simp [operateN,h0]
theorem o89b (num:Int) (l:List Vl) (h0:¬ (at' l 0).l.length=0):operateN apI 89 num l=(⟨true,0,(at' l 0).l.tail⟩,0):=by simp [operateN,h0]
theorem o90a (num:Int) (l:List Vl) (h0:(at' l 0).l.length=0):operateN apI 90 num l=(⟨false,1,[]⟩,0):=by simp [operateN,h0]
theorem o90b (num:Int) (l:List Vl) (h0:¬ (at' l 0).l.length=0):operateN apI 90 num l=(noVl,0):=by simp [operateN,h0]
theorem o87a (num:Int) (l:List Vl) (h0:1000≤(at' l 1).l.length):operateN apI 87 num l=(noVl,5):=by simp [operateN,h0]
theorem o87b (num:Int) (l:List Vl) (h0:¬ 1000≤(at' l 1).l.length):operateN apI 87 num l=(⟨true,0,(at' l 0).n :: (at' l 1).l⟩,0):=by simp [operateN,h0]
theorem o86 (num:Int) (l:List Vl):operateN apI 86 num l=(⟨true,0,[]⟩,0):=by simp [operateN]
theorem op_op (num:Int) (name:ByteArray) (ka va:Option Addr) (kn kc vc:Nat) (l:List Vl) (A:Nat→Prop) (w:World) (hl:l.length=2) (hn:8≤num∧num≤23) (hv:RowsAt VlE A w (.slice va l.length vc) l):
 Calls Tryd.prog 84 #[.agg #[.int .u8 82,.int .i64 num,.string name,.slice ka kn kc],.slice va l.length vc] w (OpPost (operateN apI 82 num l) A w):=by
 have hA:Below w.heap.size w ((w.alloc (.cells #[.int .u8 82,.int .i64 num,.string name,.slice ka kn kc] 66)).alloc (.cells #[.bool false,.int .i64 0,.slice none 0 0] 40)):=((Below.refl _ _).alloc (Nat.le_refl _) _).alloc (by simp) _
 have HX:=Lib.hid (at_old w (.cells #[.int .u8 82,.int .i64 num,.string name,.slice ka kn kc] 66) (.cells #[.bool false,.int .i64 0,.slice none 0 0] 40))
 have HZ:=Lib.hid (at_new w (.cells #[.int .u8 82,.int .i64 num,.string name,.slice ka kn kc] 66) (.cells #[.bool false,.int .i64 0,.slice none 0 0] 40))
 obtain ⟨b,off,a0,c0,rfl,hvn,hvc,hr0,hi0,hc0⟩:=vls_cells0 hv (by omega)
 obtain ⟨a1,c1,hr1,hc1⟩:=vls_cells1 hv (by omega)
 have HOP:Hid (operateN apI 82 num l=(⟨false,(apI num (at' l 0).n (at' l 1).n).1,[]⟩,(apI num (at' l 0).n (at' l 1).n).2)):=Lib.hid (by unfold operateN;rw [if_pos rfl])
 have hw8:IntKind.u8.wrap num=num:=by
  unfold IntKind.wrap
  have e1:((2:Int) ^ IntKind.bits .u8)=256:=by decide
  simp only [e1,IntKind.signed,Bool.false_and,Bool.false_eq_true,if_false]
  omega
 have HS:Hid (∀ w1,Below ((w.alloc (.cells #[.int .u8 82,.int .i64 num,.string name,.slice ka kn kc] 66)).alloc (.cells #[.bool false,.int .i64 0,.slice none 0 0] 40)).heap.size ((w.alloc (.cells #[.int .u8 82,.int .i64 num,.string name,.slice ka kn kc] 66)).alloc (.cells #[.bool false,.int .i64 0,.slice none 0 0] 40)) w1→w1.cell? ⟨w.heap.size,1,none⟩=some (.int .i64 num)∧w1.cell? ⟨b,off+1,none⟩=some (.int .i64 (at' l 0).n)∧w1.cell? ⟨b,off+3+1,none⟩=some (.int .i64 (at' l 1).n)):=Lib.hid (fun w1 hw=>⟨(cells4 (blk_below hw HX.out)).2.1,(hc0 w1 (hA.trans (hw.mono hA.size))).1,(hc1 w1 (hA.trans (hw.mono hA.size))).1⟩)
 have HI:=Lib.hid (apI_in64 num (at' l 0).n (at' l 1).n hi0)
 clear hv hr0 hr1 hc0 hc1 hi0 hvn
 go_enter Tryd.func84,Tryd.ntmps84
 go_wp2
 generalize ((w.alloc (.cells #[.int .u8 82,.int .i64 num,.string name,.slice ka kn kc] 66)).alloc (.cells #[.bool false,.int .i64 0,.slice none 0 0] 40))=W at *
 obtain ⟨s0,s1,s2⟩:=HS.out W (Below.refl _ _)
 have i0:(0:Int) < (l.length:Int):=by omega
 have i1:(1:Int) < (l.length:Int):=by omega
 go_region_held3 (fun w1=>w1.cell? ⟨w.heap.size,1,none⟩=some (.int .i64 num)∧w1.cell? ⟨b,off+1,none⟩=some (.int .i64 (at' l 0).n)∧w1.cell? ⟨b,off+3+1,none⟩=some (.int .i64 (at' l 1).n))
  (with_reducible exact HS.out _ (by (repeat (with_reducible first|exact Below.refl _ _|refine bel_drew ?_|refine bel_alloc ?_|(apply bel_step;focus assumption)))))
  (first
  | (go_at_call 55;refine (apply_A num (at' l 0).n (at' l 1).n _ hn).mono ?_;rintro e w2 ⟨rfl,rfl⟩)
  | fail)
 obtain ⟨z0,z1,z2⟩:=cells3 HZ.out
 have zf:=unfrozen HZ.out
 go_wp2
 (try simp only [Exit.inBlock,Exit.then])
 refine bodyPost_ret (results_cell_row2 (P:=Tryd.prog) rfl _ _ (w.heap.size+1) _ _ _ _ _ rfl (set3 (w:=W.drew) HZ.out _ _ _) rfl Tryd.underlying40 rfl (by kernel_rfl)) rfl ?_
 rw [HOP.out]
 exact ⟨_,rfl,vl_int _ HI.out,bel_sets3 (bel_drew hA) (by omega)⟩
theorem op_head (num:Int) (name:ByteArray) (ka va:Option Addr) (kn kc vc:Nat) (l:List Vl) (A:Nat→Prop) (w:World) (hl:l.length=1) (hv:RowsAt VlE A w (.slice va l.length vc) l):
 Calls Tryd.prog 84 #[.agg #[.int .u8 88,.int .i64 num,.string name,.slice ka kn kc],.slice va l.length vc] w (OpPost (operateN apI 88 num l) A w):=by
 have hA:Below w.heap.size w ((w.alloc (.cells #[.int .u8 88,.int .i64 num,.string name,.slice ka kn kc] 66)).alloc (.cells #[.bool false,.int .i64 0,.slice none 0 0] 40)):=((Below.refl _ _).alloc (Nat.le_refl _) _).alloc (by simp) _
 have HX:=Lib.hid (at_old w (.cells #[.int .u8 88,.int .i64 num,.string name,.slice ka kn kc] 66) (.cells #[.bool false,.int .i64 0,.slice none 0 0] 40))
 have HZ:=Lib.hid (at_new w (.cells #[.int .u8 88,.int .i64 num,.string name,.slice ka kn kc] 66) (.cells #[.bool false,.int .i64 0,.slice none 0 0] 40))
 obtain ⟨b,off,a0,c0,rfl,hvn,hvc,hr0,hi0,hc0⟩:=vls_cells0 hv (by omega)
 have HS:Hid (∀ w1,Below ((w.alloc (.cells #[.int .u8 88,.int .i64 num,.string name,.slice ka kn kc] 66)).alloc (.cells #[.bool false,.int .i64 0,.slice none 0 0] 40)).heap.size ((w.alloc (.cells #[.int .u8 88,.int .i64 num,.string name,.slice ka kn kc] 66)).alloc (.cells #[.bool false,.int .i64 0,.slice none 0 0] 40)) w1→w1.cell? ⟨b,off+2,none⟩=some (.slice a0 (at' l 0).l.length c0)):=Lib.hid (fun w1 hw=>(hc0 w1 (hA.trans (hw.mono hA.size))).2)
 have HR:Hid (RowsAt IntE A ((w.alloc (.cells #[.int .u8 88,.int .i64 num,.string name,.slice ka kn kc] 66)).alloc (.cells #[.bool false,.int .i64 0,.slice none 0 0] 40)) (.slice a0 (at' l 0).l.length c0) (at' l 0).l):=Lib.hid (hr0.stays (Stays.of_below hA))
 have HRW:=Lib.hid hr0
 clear hv hc0 hvn hr0
 have i0:(0:Int) < (l.length:Int):=by omega
 by_cases h0:(at' l 0).l.length=0
 · have HOP:Hid (operateN apI 88 num l=(noVl,13)):=Lib.hid (o88a num l h0)
   have d0:(((at' l 0).l.length:Int) == 0)=true:=by simp [h0]
   go_enter Tryd.func84,Tryd.ntmps84
   have s0:=HS.out _ (Below.refl _ _)
   go_wp2
   (try simp only [Exit.inBlock,Exit.then])
   refine bodyPost_ret (results_cell_row2 (P:=Tryd.prog) rfl _ _ (w.heap.size+1) _ _ _ _ _ rfl (at_new w _ _) rfl Tryd.underlying40 rfl (by kernel_rfl)) rfl ?_
   rw [HOP.out]
   exact ⟨_,rfl,vl_no _,bel_alloc (bel_alloc (Below.refl _ _))⟩
 · have HOP:Hid (operateN apI 88 num l=(⟨false,nth (at' l 0).l 0,[]⟩,0)):=Lib.hid (o88b num l h0)
   have d0:(((at' l 0).l.length:Int) == 0)=false:=by simp [h0]
   have j0:(0:Int) < ((at' l 0).l.length:Int):=by omega
   obtain ⟨b1,off1,cap1,he,hb1,_,q0,hq⟩:=ints_at HR.out (j:=0) (by omega)
   simp only [Value.slice.injEq] at he
   obtain ⟨rfl,-,rfl⟩:=he
   simp only [Nat.add_zero] at q0
   go_enter Tryd.func84,Tryd.ntmps84
   have s0:=HS.out _ (Below.refl _ _)
   go_wp2
   (try simp only [Exit.inBlock,Exit.then])
   refine bodyPost_ret (results_cell_row2 (P:=Tryd.prog) rfl _ _ (w.heap.size+1) _ _ _ _ _ rfl (at_new w _ _) rfl Tryd.underlying40 rfl (by kernel_rfl)) rfl ?_
   rw [HOP.out]
   exact ⟨_,rfl,vl_int _ hq,bel_alloc (bel_alloc (Below.refl _ _))⟩
theorem op_null (num:Int) (name:ByteArray) (ka va:Option Addr) (kn kc vc:Nat) (l:List Vl) (A:Nat→Prop) (w:World) (hl:l.length=1) (hv:RowsAt VlE A w (.slice va l.length vc) l):
 Calls Tryd.prog 84 #[.agg #[.int .u8 90,.int .i64 num,.string name,.slice ka kn kc],.slice va l.length vc] w (OpPost (operateN apI 90 num l) A w):=by
 have hA:Below w.heap.size w ((w.alloc (.cells #[.int .u8 90,.int .i64 num,.string name,.slice ka kn kc] 66)).alloc (.cells #[.bool false,.int .i64 0,.slice none 0 0] 40)):=((Below.refl _ _).alloc (Nat.le_refl _) _).alloc (by simp) _
 have HX:=Lib.hid (at_old w (.cells #[.int .u8 90,.int .i64 num,.string name,.slice ka kn kc] 66) (.cells #[.bool false,.int .i64 0,.slice none 0 0] 40))
 have HZ:=Lib.hid (at_new w (.cells #[.int .u8 90,.int .i64 num,.string name,.slice ka kn kc] 66) (.cells #[.bool false,.int .i64 0,.slice none 0 0] 40))
 obtain ⟨b,off,a0,c0,rfl,hvn,hvc,hr0,hi0,hc0⟩:=vls_cells0 hv (by omega)
 have HS:Hid (∀ w1,Below ((w.alloc (.cells #[.int .u8 90,.int .i64 num,.string name,.slice ka kn kc] 66)).alloc (.cells #[.bool false,.int .i64 0,.slice none 0 0] 40)).heap.size ((w.alloc (.cells #[.int .u8 90,.int .i64 num,.string name,.slice ka kn kc] 66)).alloc (.cells #[.bool false,.int .i64 0,.slice none 0 0] 40)) w1→w1.cell? ⟨b,off+2,none⟩=some (.slice a0 (at' l 0).l.length c0)):=Lib.hid (fun w1 hw=>(hc0 w1 (hA.trans (hw.mono hA.size))).2)
 have HR:Hid (RowsAt IntE A ((w.alloc (.cells #[.int .u8 90,.int .i64 num,.string name,.slice ka kn kc] 66)).alloc (.cells #[.bool false,.int .i64 0,.slice none 0 0] 40)) (.slice a0 (at' l 0).l.length c0) (at' l 0).l):=Lib.hid (hr0.stays (Stays.of_below hA))
 have HRW:=Lib.hid hr0
 clear hv hc0 hvn hr0
 have i0:(0:Int) < (l.length:Int):=by omega
 by_cases h0:(at' l 0).l.length=0
 · have HOP:Hid (operateN apI 90 num l=(⟨false,1,[]⟩,0)):=Lib.hid (o90a num l h0)
   have d0:(((at' l 0).l.length:Int) == 0)=true:=by simp [h0]
   go_enter Tryd.func84,Tryd.ntmps84
   have s0:=HS.out _ (Below.refl _ _)
   go_wp2
   (try simp only [Exit.inBlock,Exit.then])
   refine bodyPost_ret (results_cell_row2 (P:=Tryd.prog) rfl _ _ (w.heap.size+1) _ _ _ _ _ rfl (at_new w _ _) rfl Tryd.underlying40 rfl (by kernel_rfl)) rfl ?_
   rw [HOP.out]
   exact ⟨_,rfl,vl_int _ (by unfold In64;omega),bel_alloc (bel_alloc (Below.refl _ _))⟩
 · have HOP:Hid (operateN apI 90 num l=(noVl,0)):=Lib.hid (o90b num l h0)
   have d0:(((at' l 0).l.length:Int) == 0)=false:=by simp [h0]
   go_enter Tryd.func84,Tryd.ntmps84
   have s0:=HS.out _ (Below.refl _ _)
   go_wp2
   (try simp only [Exit.inBlock,Exit.then])
   refine bodyPost_ret (results_cell_row2 (P:=Tryd.prog) rfl _ _ (w.heap.size+1) _ _ _ _ _ rfl (at_new w _ _) rfl Tryd.underlying40 rfl (by kernel_rfl)) rfl ?_
   rw [HOP.out]
   exact ⟨_,rfl,vl_no _,bel_alloc (bel_alloc (Below.refl _ _))⟩
theorem ints_none {A:Nat→Prop} {w:World} {a:Addr} {c:Nat} {l:List Int} (hl:l.length=0):RowsAt IntE A w (.slice (some a) l.length c) l:=
 ⟨fun _ _=>undef,⟨by omega,_,c,rfl,by omega,nofun,fun h=>by omega⟩,fun j hj=>by omega⟩
theorem ints_tail {A:Nat→Prop} {w:World} {b off c:Nat} {l:List Int} (h:RowsAt IntE A w (.slice (some ⟨b,off,none⟩) l.length c) l) (hl:0 < l.length):RowsAt IntE A w (.slice (some ⟨b,off+1,none⟩) (l.length - 1) (c - 1)) l.tail:=by
 obtain ⟨cs,⟨h0,a,cap,he,h1,h2,h3⟩,hf⟩:=h
 simp only [Value.slice.injEq] at he
 obtain ⟨rfl,-,rfl⟩:=he
 have ht:l.tail.length=l.length - 1:=by simp
 refine ⟨fun j=>cs (j+1),⟨by omega,some ⟨b,off+1,none⟩,c - 1,by rw [ht],by omega,nofun,fun hp=>?_⟩,fun j hj=>?_⟩
 · obtain ⟨b',off',e,hb,hA,hc⟩:=h3 hl
   simp only [Option.some.injEq,Addr.mk.injEq,and_true] at e
   obtain ⟨rfl,rfl⟩:=e
   refine ⟨b,off+1,rfl,hb,hA,fun j hj i hi=>?_⟩
   have:=hc (j+1) (by omega) i hi
   rw [← this]
   congr 2
   show off+1+j * 1+i=off+(j+1) * 1+i
   omega
 · have:=hf (j+1) (by omega)
   have e:at' l.tail j=at' l (j+1):=by cases l with
    | nil=>simp at hl
    | cons x r=>simp [at']
   rw [e];exact this
theorem op_tail (num:Int) (name:ByteArray) (ka va:Option Addr) (kn kc vc:Nat) (l:List Vl) (A:Nat→Prop) (w:World) (hl:l.length=1) (hv:RowsAt VlE A w (.slice va l.length vc) l):
 Calls Tryd.prog 84 #[.agg #[.int .u8 89,.int .i64 num,.string name,.slice ka kn kc],.slice va l.length vc] w (OpPost (operateN apI 89 num l) A w):=by
 have hA:Below w.heap.size w ((w.alloc (.cells #[.int .u8 89,.int .i64 num,.string name,.slice ka kn kc] 66)).alloc (.cells #[.bool false,.int .i64 0,.slice none 0 0] 40)):=((Below.refl _ _).alloc (Nat.le_refl _) _).alloc (by simp) _
 have HX:=Lib.hid (at_old w (.cells #[.int .u8 89,.int .i64 num,.string name,.slice ka kn kc] 66) (.cells #[.bool false,.int .i64 0,.slice none 0 0] 40))
 have HZ:=Lib.hid (at_new w (.cells #[.int .u8 89,.int .i64 num,.string name,.slice ka kn kc] 66) (.cells #[.bool false,.int .i64 0,.slice none 0 0] 40))
 obtain ⟨b,off,a0,c0,rfl,hvn,hvc,hr0,hi0,hc0⟩:=vls_cells0 hv (by omega)
 have HS:Hid (∀ w1,Below ((w.alloc (.cells #[.int .u8 89,.int .i64 num,.string name,.slice ka kn kc] 66)).alloc (.cells #[.bool false,.int .i64 0,.slice none 0 0] 40)).heap.size ((w.alloc (.cells #[.int .u8 89,.int .i64 num,.string name,.slice ka kn kc] 66)).alloc (.cells #[.bool false,.int .i64 0,.slice none 0 0] 40)) w1→w1.cell? ⟨b,off+2,none⟩=some (.slice a0 (at' l 0).l.length c0)):=Lib.hid (fun w1 hw=>(hc0 w1 (hA.trans (hw.mono hA.size))).2)
 have HR:Hid (RowsAt IntE A ((w.alloc (.cells #[.int .u8 89,.int .i64 num,.string name,.slice ka kn kc] 66)).alloc (.cells #[.bool false,.int .i64 0,.slice none 0 0] 40)) (.slice a0 (at' l 0).l.length c0) (at' l 0).l):=Lib.hid (hr0.stays (Stays.of_below hA))
 have HRW:=Lib.hid hr0
 clear hv hc0 hvn hr0
 have i0:(0:Int) < (l.length:Int):=by omega
 by_cases h0:(at' l 0).l.length=0
 · have HOP:Hid (operateN apI 89 num l=(noVl,13)):=Lib.hid (o89a num l h0)
   have d0:(((at' l 0).l.length:Int) == 0)=true:=by simp [h0]
   go_enter Tryd.func84,Tryd.ntmps84
   have s0:=HS.out _ (Below.refl _ _)
   go_wp2
   (try simp only [Exit.inBlock,Exit.then])
   refine bodyPost_ret (results_cell_row2 (P:=Tryd.prog) rfl _ _ (w.heap.size+1) _ _ _ _ _ rfl (at_new w _ _) rfl Tryd.underlying40 rfl (by kernel_rfl)) rfl ?_
   rw [HOP.out]
   exact ⟨_,rfl,vl_no _,bel_alloc (bel_alloc (Below.refl _ _))⟩
 · have HOP:Hid (operateN apI 89 num l=(⟨true,0,(at' l 0).l.tail⟩,0)):=Lib.hid (o89b num l h0)
   have d0:(((at' l 0).l.length:Int) == 0)=false:=by simp [h0]
   have j0:(0:Int) < ((at' l 0).l.length:Int):=by omega
   obtain ⟨b1,off1,cap1,he,hb1,hcap,q0,hq⟩:=ints_at HR.out (j:=0) (by omega)
   simp only [Value.slice.injEq] at he
   obtain ⟨rfl,-,rfl⟩:=he
   have HT:=Lib.hid (ints_tail HRW.out (by omega))
   go_enter Tryd.func84,Tryd.ntmps84
   have s0:=HS.out _ (Below.refl _ _)
   go_wp2
   all_goals
    (try simp only [Exit.inBlock,Exit.then])
    refine bodyPost_ret (results_cell_row2 (P:=Tryd.prog) rfl _ _ (w.heap.size+1) _ _ _ _ _ rfl (at_new w _ _) rfl Tryd.underlying40 rfl (by kernel_rfl)) rfl ?_
    rw [HOP.out]
    have ht:(at' l 0).l.tail.length=(at' l 0).l.length - 1:=by simp
    refine ⟨_,rfl,⟨_,_,by rw [ht],in64_0,?_⟩,bel_alloc (bel_alloc (Below.refl _ _))⟩
   · exact ints_none (by rw [ht];omega)
   · show RowsAt IntE (NewB A w) _ (.slice _ (at' l 0).l.tail.length _) (at' l 0).l.tail
     rw [ht]
     exact HT.out.stays (stays_newB (bel_alloc (bel_alloc (Below.refl _ _))))
theorem op_nil (num:Int) (name:ByteArray) (ka va:Option Addr) (kn kc vc:Nat) (l:List Vl) (A:Nat→Prop) (w:World) (hv:RowsAt VlE A w (.slice va l.length vc) l):
 Calls Tryd.prog 84 #[.agg #[.int .u8 86,.int .i64 num,.string name,.slice ka kn kc],.slice va l.length vc] w (OpPost (operateN apI 86 num l) A w):=by
 have HOP:=Lib.hid (o86 num l)
 go_enter Tryd.func84,Tryd.ntmps84
 go_wp2
 (try simp only [Exit.inBlock,Exit.then])
 refine bodyPost_ret (results_cell_row2 (P:=Tryd.prog) rfl _ _ (w.heap.size+1) _ _ _ _ _ rfl (at_new w _ _) rfl Tryd.underlying40 rfl (by kernel_rfl)) rfl ?_
 rw [HOP.out]
 exact ⟨_,rfl,⟨none,0,rfl,in64_0,RowsAt.nil _ _ _⟩,bel_alloc (bel_alloc (Below.refl _ _))⟩
theorem own_int1 {D:Nat→Prop} {base:Nat} {w:World} {g:Nat} {x:Int} (h:w.heap[g]?=some (.cells #[.int .i64 x] 3 (0,0))) (hb:base≤g) (hx:In64 x):RowsOwn IntE 3 D base w (.slice (some ⟨g,0,none⟩) 1 1) [x]:=
 ⟨[.int .i64 x],⟨rfl,.inr ⟨g,1,#[.int .i64 x],rfl,hb,h,Nat.le_refl _,by unfold maxLen;omega,rfl,rfl⟩⟩,fun j hj=>by
   obtain rfl:j=0:=by simp at hj;exact hj
   exact ⟨rfl,hx⟩⟩
theorem op_cons (num:Int) (name:ByteArray) (ka va:Option Addr) (kn kc vc:Nat) (l:List Vl) (A:Nat→Prop) (w:World) (hl:l.length=2) (hs:∀ x ∈ l,x.l.length≤100000) (hv:RowsAt VlE A w (.slice va l.length vc) l):
 Calls Tryd.prog 84 #[.agg #[.int .u8 87,.int .i64 num,.string name,.slice ka kn kc],.slice va l.length vc] w (OpPost (operateN apI 87 num l) A w):=by
 have hA:Below w.heap.size w ((w.alloc (.cells #[.int .u8 87,.int .i64 num,.string name,.slice ka kn kc] 66)).alloc (.cells #[.bool false,.int .i64 0,.slice none 0 0] 40)):=((Below.refl _ _).alloc (Nat.le_refl _) _).alloc (by simp) _
 have HX:=Lib.hid (at_old w (.cells #[.int .u8 87,.int .i64 num,.string name,.slice ka kn kc] 66) (.cells #[.bool false,.int .i64 0,.slice none 0 0] 40))
 have HZ:=Lib.hid (at_new w (.cells #[.int .u8 87,.int .i64 num,.string name,.slice ka kn kc] 66) (.cells #[.bool false,.int .i64 0,.slice none 0 0] 40))
 obtain ⟨b,off,a0,c0,rfl,hvn,hvc,hr0,hi0,hc0⟩:=vls_cells0 hv (by omega)
 obtain ⟨a1,c1,hr1,hc1⟩:=vls_cells1 hv (by omega)
 have HS:Hid (∀ w1,Below ((w.alloc (.cells #[.int .u8 87,.int .i64 num,.string name,.slice ka kn kc] 66)).alloc (.cells #[.bool false,.int .i64 0,.slice none 0 0] 40)).heap.size ((w.alloc (.cells #[.int .u8 87,.int .i64 num,.string name,.slice ka kn kc] 66)).alloc (.cells #[.bool false,.int .i64 0,.slice none 0 0] 40)) w1→w1.cell? ⟨b,off+1,none⟩=some (.int .i64 (at' l 0).n)∧w1.cell? ⟨b,off+3+2,none⟩=some (.slice a1 (at' l 1).l.length c1)):=Lib.hid (fun w1 hw=>⟨(hc0 w1 (hA.trans (hw.mono hA.size))).1,(hc1 w1 (hA.trans (hw.mono hA.size))).2⟩)
 have hl1:(at' l 1).l.length≤100000:=hs _ (at_mem (by omega))
 have HR1:Hid (RowsAt IntE (fun j=>A j∧j < w.heap.size) ((w.alloc (.cells #[.int .u8 87,.int .i64 num,.string name,.slice ka kn kc] 66)).alloc (.cells #[.bool false,.int .i64 0,.slice none 0 0] 40)) (.slice a1 (at' l 1).l.length c1) (at' l 1).l):=Lib.hid (hr1.stays ⟨hA.size,fun j hj a=>⟨hA.block j hj,a,hj⟩⟩)
 have HI:=Lib.hid hi0
 have i0:(0:Int) < (l.length:Int):=by omega
 have i1:(1:Int) < (l.length:Int):=by omega
 clear hv hr0 hr1 hc0 hc1 hi0 hvn hs
 by_cases h0:1000≤(at' l 1).l.length
 · have HOP:=Lib.hid (o87a num l h0)
   have d0:decide ((1000:Int)≤((at' l 1).l.length:Int))=true:=by simp;omega
   go_enter Tryd.func84,Tryd.ntmps84
   obtain ⟨s0,s1⟩:=HS.out _ (Below.refl _ _)
   go_wp2
   (try simp only [Exit.inBlock,Exit.then])
   refine bodyPost_ret (results_cell_row2 (P:=Tryd.prog) rfl _ _ (w.heap.size+1) _ _ _ _ _ rfl (at_new w _ _) rfl Tryd.underlying40 rfl (by kernel_rfl)) rfl ?_
   rw [HOP.out]
   exact ⟨_,rfl,vl_no _,bel_alloc (bel_alloc (Below.refl _ _))⟩
 · have HOP:=Lib.hid (o87b num l h0)
   have d0:decide ((1000:Int)≤((at' l 1).l.length:Int))=false:=by simp;omega
   have HSZ:Hid (((w.alloc (.cells #[.int .u8 87,.int .i64 num,.string name,.slice ka kn kc] 66)).alloc (.cells #[.bool false,.int .i64 0,.slice none 0 0] 40)).heap.size=w.heap.size+2):=Lib.hid (by simp)
   go_enter Tryd.func84,Tryd.ntmps84
   obtain ⟨s0,s1⟩:=HS.out _ (Below.refl _ _)
   go_wp2
   generalize ((w.alloc (.cells #[.int .u8 87,.int .i64 num,.string name,.slice ka kn kc] 66)).alloc (.cells #[.bool false,.int .i64 0,.slice none 0 0] 40))=W at *
   obtain ⟨q0,q1⟩:=HS.out _ (bel_alloc (x:=.cells #[.int .i64 (at' l 0).n] 3) (Below.refl W.heap.size W))
   go_region_law
    (first
    | (refine step_rows (E:=IntE) (D:=fun j=>(A j∧j < w.heap.size)∨W.heap.size≤j) (D':=fun j=>A j∧j < w.heap.size) (base:=W.heap.size) (l:=[(at' l 0).n]) (m:=(at' l 1).l) TInt rfl (by decide) (by rfl) (.tmp 43) (.tmp 47) (by rfl) (by rfl) (by rfl) (own_int1 (by (repeat (with_reducible first|(refine blk_new ?_;(simp;done))|(refine blk_new ?_;rfl)|refine blk_drew ?_|refine blk_alloc ?_|(apply blk_below;focus assumption)))) (Nat.le_refl _) HI.out) (HR1.out.stays (Stays.of_below (by (repeat (with_reducible first|exact Below.refl _ _|refine bel_drew ?_|refine bel_alloc ?_|(apply bel_step;focus assumption)))))) (fun b _ hb2=>⟨.inl hb2,fun e=>by simp [Value.ownBlock] at e;have:=HSZ.out;omega⟩) (by unfold maxLen;simp;omega) (by simp;omega) (by simp) ?_;intro a2 c2 w4 h4 hg4 hn4;have hz4:w4.heap[w.heap.size+1]?=some (.cells #[.bool false,.int .i64 0,.slice none 0 0] 40 (0,0)):=(hg4.block (w.heap.size+1) (by have:=HSZ.out;simp;omega) (fun e=>by simp [Value.ownBlock] at e;have:=HSZ.out;omega)).trans (by (repeat (with_reducible first|exact HZ.out|(refine blk_new ?_;(simp;done))|refine blk_drew ?_|refine blk_alloc ?_|(apply blk_below;focus assumption))));obtain ⟨z0,z1,z2⟩:=cells3 hz4;have zf:=unfrozen hz4;have HZ4:=Lib.hid hz4;have hb4:Below W.heap.size W w4:=Below.grown (by (repeat (with_reducible first|exact Below.refl _ _|refine bel_drew ?_|refine bel_alloc ?_|(apply bel_step;focus assumption)))) hg4 (by simp) (fun k e=>by simp [Value.ownBlock] at e;omega);have HB4:=Lib.hid hb4;have H4:=Lib.hid h4;clear h4 hg4 hn4 hz4 hb4)
    | fail)
   all_goals
    go_wp2
    (try simp only [Exit.inBlock,Exit.then])
    refine bodyPost_ret (results_cell_row2 (P:=Tryd.prog) rfl _ _ (w.heap.size+1) _ _ _ _ _ rfl (set3 HZ4.out _ _ _) rfl Tryd.underlying40 rfl (by kernel_rfl)) rfl ?_
    rw [HOP.out]
    have hsz:=HSZ.out
    have hB4:Below w.heap.size w w4:=hA.trans (HB4.out.mono hA.size)
    have hlen:[(at' l 0).n].length+(at' l 1).l.length=((at' l 0).n :: (at' l 1).l).length:=by simp;omega
    have h4:=H4.out
    have hsh:=(h4.shut (A:=fun j=>(A j∧j < w.heap.size)∨W.heap.size≤j) (fun j d=>d) (fun j e=>.inr (h4.lt e).1) (by unfold maxLen;simp;omega)).stays (stays_keep (keeps_set3 w4 (w.heap.size+1) (.bool true) (.int .i64 0) (.slice a2 (1+(at' l 1).l.length) c2)) (fun k hk _=>by rcases hk with hk|hk <;> omega))
    refine ⟨_,rfl,⟨a2,c2,by simp [Nat.add_comm],in64_0,?_⟩,bel_sets3 hB4 (by omega)⟩
    rw [hlen] at hsh
    exact hsh.young (fun k _ hk=>by
     rcases hk with hk|hk
     · exact .inl hk.1
     · exact .inr (by omega))
end Go.Proofs.YtjhimhlebbamoaaDoor
/- Walks of package funeval:operate,at every operation;the state of the evaluator. -/
namespace Go.Proofs.YtjhimhlebbamoaaDoor
open Go.RowKit
theorem op_kinds {k num:Int} {name:ByteArray} {m:Nat} (h:formB k num name m=true) (h0:k≠80) (h1:k≠81) (h3:k≠83) (h4:k≠84) (h5:k≠85):
 k=82∧(8≤num∧num≤23)∧m=2∨k=86∨k=87∧m=2∨(k=88∨k=89∨k=90)∧m=1:=by
 unfold formB at h
 rw [if_neg h0,if_neg h1] at h
 by_cases h2:k=82
 · rw [if_pos h2] at h
   simp only [Bool.and_eq_true,decide_eq_true_eq] at h
   exact .inl ⟨h2,⟨h.1,h.2.1⟩,h.2.2.2⟩
 rw [if_neg h2,if_neg h4,if_neg h5] at h
 split at h
 · simp at h
 · by_cases h6:k=86
   · exact .inr (.inl h6)
   rw [if_neg h6] at h
   by_cases h8:k=88∨k=89∨k=90
   · rw [if_pos h8] at h
     exact .inr (.inr (.inr ⟨h8,by simpa using h⟩))
   rw [if_neg h8] at h
   by_cases h7:k=87
   · rw [if_pos h7] at h
     exact .inr (.inr (.inl ⟨h7,by simpa using h⟩))
   rw [if_neg h7] at h
   first|(rw [if_neg h3] at h;simp at h)|simp at h
theorem operate_any (n:Nd) (v:Value) (A A':Nat→Prop) (w:World) (va:Option Addr) (vc:Nat) (l:List Vl) (hv:NdAt A' w v n) (hf:formB n.kind n.num n.name n.kids.length=true) (h0:n.kind≠80) (h1:n.kind≠81) (h3:n.kind≠83) (h4:n.kind≠84) (h5:n.kind≠85)
 (hl:l.length=n.kids.length) (hr:RowsAt VlE A w (.slice va l.length vc) l) (hs:∀ x ∈ l,x.l.length≤100000):
 Calls Tryd.prog 84 #[v,.slice va l.length vc] w (OpPost (operateN apI n.kind n.num l) A w):=by
 obtain ⟨hok,hlen,ka,kc,rfl,hk⟩:=hv.open
 obtain ⟨k,num,name,kids⟩:=n
 simp only [Nd.kind,Nd.num,Nd.name,Nd.kids] at *
 rcases op_kinds hf h0 h1 h3 h4 h5 with ⟨rfl,hn,hm⟩|rfl|⟨rfl,hm⟩|⟨rfl|rfl|rfl,hm⟩
 · exact op_op num name ka va kids.length kc vc l A w (by omega) hn hr
 · exact op_nil num name ka va kids.length kc vc l A w hr
 · exact op_cons num name ka va kids.length kc vc l A w (by omega) hs hr
 · exact op_head num name ka va kids.length kc vc l A w (by omega) hr
 · exact op_tail num name ka va kids.length kc vc l A w (by omega) hr
 · exact op_null num name ka va kids.length kc vc l A w (by omega) hr
end Go.Proofs.YtjhimhlebbamoaaDoor
/- The state of the evaluator of package funeval:its block,the calls of the frame under way,its variables. -/
namespace Go.Proofs.YtjhimhlebbamoaaDoor
open Go.RowKit
mutual
def CallsOk (lib:List Fn):Nd→Prop
 | .mk k num name kids=>(k=85→0≤findF lib name∧kids.length=(fnAt lib (findF lib name)).params.length)∧CallsOks lib kids
def CallsOks (lib:List Fn):List Nd→Prop
 | []=>True
 | n :: r=>CallsOk lib n∧CallsOks lib r
end
theorem CallsOks.at {lib:List Fn}:∀ {l:List Nd},CallsOks lib l→∀ j,j < l.length→CallsOk lib (at' l j)
 | [],_,j,hj=>by simp at hj
 | n :: l,h,0,_=>by rw [CallsOks] at h;exact h.1
 | n :: l,h,j+1,hj=>by
   rw [CallsOks] at h
   exact h.2.at j (by simpa using hj)
theorem CallsOk.kid {lib:List Fn} {n:Nd} (h:CallsOk lib n) {j:Nat} (hj:j < n.kids.length):CallsOk lib (at' n.kids j):=by
 cases n with
 | mk k num name kids=>rw [CallsOk] at h;exact h.2.at j hj
def LibOk (lib:List Fn):Prop:=∀ i,i < lib.length→formedN (at' lib i).body=true∧CallsOk lib (at' lib i).body∧sizeN (at' lib i).body≤2000∧(at' lib i).params.length≤8
structure EC where
 ev:Nat
 la:Option Addr
 lc:Nat
 lib:List Fn
 tr:Bool
 ok:LibOk lib
def MuE (C:EC) (cb:Nat) (rv:Value) (k:Nat):Prop:=k=C.ev∨k=cb∨rv.ownBlock=some k
structure EvSt (C:EC) (cb:Nat) (A:Nat→Prop) (w:World) (rv:Value) (ts:List Tr) (fuel active:Int):Prop where
 ev:w.heap[C.ev]?=some (.cells #[.slice C.la C.lib.length C.lc,.int .i64 fuel,.int .i64 active,.bool C.tr] 88 (0,0))
 cbk:w.heap[cb]?=some (.cells #[rv] 41 (0,0))
 row:RowsOwn TrE 43 A 0 w rv ts
 lib:FnsAt A w (.slice C.la C.lib.length C.lc) C.lib
 alt:∀ k,A k→k < w.heap.size
 mutA:∀ k,MuE C cb rv k→¬ A k
 ne:C.ev≠cb
 rne:rv.ownBlock≠some C.ev
 rnc:rv.ownBlock≠some cb
def EnvAt (A:Nat→Prop) (w:World) (mb:Nat) (env:VEnv) (N:Nat):Prop:=
 A mb∧∃ m:ByteArray→Option Value,SMapLe Tryd.prog 9 w mb m N∧∀ s,(∀ v,m s=some v→VlAt A w v (env s))∧(m s=none→env s=noVl)
theorem EnvAt.stays {A A':Nat→Prop} {w w':World} {mb N:Nat} {env:VEnv} (h:EnvAt A w mb env N) (hs:Stays A A' w w'):EnvAt A' w' mb env N:=by
 obtain ⟨ha,m,hm,hv⟩:=h
 have h1:=hs.block mb hm.lt ha
 exact ⟨h1.2,m,hm.same h1.1,fun s=>⟨fun v e=>((hv s).1 v e).stays hs,(hv s).2⟩⟩
theorem EvSt.evlt {C:EC} {cb:Nat} {A:Nat→Prop} {w:World} {rv:Value} {ts:List Tr} {fuel active:Int} (h:EvSt C cb A w rv ts fuel active):C.ev < w.heap.size:=by
 have h:=h.ev;rw [Array.getElem?_eq_some_iff] at h;exact h.1
theorem EvSt.cblt {C:EC} {cb:Nat} {A:Nat→Prop} {w:World} {rv:Value} {ts:List Tr} {fuel active:Int} (h:EvSt C cb A w rv ts fuel active):cb < w.heap.size:=by
 have h:=h.cbk;rw [Array.getElem?_eq_some_iff] at h;exact h.1
theorem EvSt.mlt {C:EC} {cb:Nat} {A:Nat→Prop} {w:World} {rv:Value} {ts:List Tr} {fuel active:Int} (h:EvSt C cb A w rv ts fuel active) {k:Nat} (m:MuE C cb rv k):k < w.heap.size:=by
 rcases m with rfl|rfl|e
 · exact h.evlt
 · exact h.cblt
 · exact (h.row.lt e).2
theorem EvSt.keeps {C:EC} {cb:Nat} {A:Nat→Prop} {w w':World} {rv:Value} {ts:List Tr} {fuel active:Int} {S:Nat→Prop} (h:EvSt C cb A w rv ts fuel active) (hk:Keeps w w' S) (hA:∀ k,A k→¬ S k) (hM:∀ k,MuE C cb rv k→¬ S k):EvSt C cb A w' rv ts fuel active where
 ev:=(hk.block _ h.evlt (hM _ (.inl rfl))).trans h.ev
 cbk:=(hk.block _ h.cblt (hM _ (.inr (.inl rfl)))).trans h.cbk
 row:=h.row.keeps hk (fun k e=>hM k (.inr (.inr e))) (fun k _ a=>hA k a)
 lib:=h.lib.stays (hk.stays fun k a _=>hA k a)
 alt:=fun k a=>Nat.lt_of_lt_of_le (h.alt k a) hk.size
 mutA:=h.mutA
 ne:=h.ne
 rne:=h.rne
 rnc:=h.rnc
theorem EvSt.below {C:EC} {cb:Nat} {A:Nat→Prop} {w w':World} {rv:Value} {ts:List Tr} {fuel active:Int} (h:EvSt C cb A w rv ts fuel active) (hb:Below w.heap.size w w'):EvSt C cb A w' rv ts fuel active:=
 h.keeps (Keeps.of_below (fun _=>False) hb) (fun _ _ e=>e) (fun _ _ e=>e)
theorem EvSt.more {C:EC} {cb:Nat} {A A':Nat→Prop} {w:World} {rv:Value} {ts:List Tr} {fuel active:Int} (h:EvSt C cb A w rv ts fuel active) (h1:∀ k,A k→A' k) (h2:∀ k,A' k→A k∨k < w.heap.size∧¬ MuE C cb rv k):EvSt C cb A' w rv ts fuel active:=
 have hst:Stays A A' w w:=⟨Nat.le_refl _,fun b _ a=>⟨rfl,h1 b a⟩⟩
 { h with
   row:=h.row.mono h1
   lib:=h.lib.stays hst
   alt:=fun k a=>by
    rcases h2 k a with a|a
    · exact h.alt k a
    · exact a.1
   mutA:=fun k m a=>by
    rcases h2 k a with a|a
    · exact h.mutA k m a
    · exact a.2 m }
theorem EvSt.fuel {C:EC} {cb:Nat} {A:Nat→Prop} {w:World} {rv:Value} {ts:List Tr} {fuel active:Int} (h:EvSt C cb A w rv ts fuel active) (f:Int):EvSt C cb A (w.setCell ⟨C.ev,1,none⟩ (.int .i64 f)) rv ts f active:=by
 have hk:=keeps_set w C.ev 1 (.int .i64 f)
 have hA:∀ k,A k→¬ k=C.ev:=fun k a e=>h.mutA k (.inl e) a
 have he:=heap_setCell_same w C.ev 1 _ _ (.int .i64 f) h.ev
 exact {
  ev:=by simpa only [List.setIfInBounds_toArray,List.set_cons_zero,List.set_cons_succ] using he
  cbk:=(hk.block _ h.cblt (fun e=>h.ne e.symm)).trans h.cbk
  row:=h.row.keeps hk (fun k e e2=>h.rne (e2 ▸ e)) (fun k _ a=>hA k a)
  lib:=h.lib.stays (hk.stays fun k a _=>hA k a)
  alt:=fun k a=>Nat.lt_of_lt_of_le (h.alt k a) hk.size
  mutA:=h.mutA
  ne:=h.ne
  rne:=h.rne
  rnc:=h.rnc }
structure EStep (C:EC) (cb:Nat) (A:Nat→Prop) (w:World) (rv:Value) (A':Nat→Prop) (w':World) (rv':Value):Prop where
 keeps:Keeps w w' (MuE C cb rv)
 up:∀ k,A k→A' k
 new:∀ k,A' k→A k∨w.heap.size≤k
 nrv:NewOr w rv rv'
theorem EStep.refl (C:EC) (cb:Nat) (A:Nat→Prop) (w:World) (rv:Value):EStep C cb A w rv A w rv:=⟨Keeps.refl _ _,fun _ a=>a,fun _ a=>.inl a,NewOr.refl _ _⟩
theorem MuE.new {C:EC} {cb k:Nat} {w:World} {rv rv':Value} (h:MuE C cb rv' k) (h1:NewOr w rv rv'):MuE C cb rv k∨w.heap.size≤k:=by
 rcases h with h|h|h
 · exact .inl (.inl h)
 · exact .inl (.inr (.inl h))
 · rcases h1 k h with h|h
   · exact .inl (.inr (.inr h))
   · exact .inr h
theorem EStep.trans {C:EC} {cb:Nat} {A A1 A2:Nat→Prop} {w w1 w2:World} {rv rv1 rv2:Value} (h:EStep C cb A w rv A1 w1 rv1) (h':EStep C cb A1 w1 rv1 A2 w2 rv2):EStep C cb A w rv A2 w2 rv2 where
 keeps:=h.keeps.trans h'.keeps (fun k e=>e.new h.nrv)
 up:=fun k a=>h'.up k (h.up k a)
 new:=fun k a=>by
  rcases h'.new k a with a|a
  · exact h.new k a
  · exact .inr (Nat.le_trans h.keeps.size a)
 nrv:=h.nrv.trans h'.nrv h.keeps.size
theorem EStep.young {C:EC} {cb:Nat} {A A1:Nat→Prop} {w w1 w2:World} {rv rv1:Value} {S:Nat→Prop} (h:EStep C cb A w rv A1 w1 rv1) (hk:Keeps w1 w2 S) (hS:∀ k,S k→w.heap.size≤k):EStep C cb A w rv A1 w2 rv1:=
 ⟨h.keeps.trans hk (fun k e=>.inr (hS k e)),h.up,h.new,h.nrv⟩
theorem EStep.below {C:EC} {cb:Nat} {A A1:Nat→Prop} {w w1 w2:World} {rv rv1:Value} (h:EStep C cb A w rv A1 w1 rv1) (hb:Below w1.heap.size w1 w2):EStep C cb A w rv A1 w2 rv1:=h.young (Keeps.of_below (fun _=>False) hb) (fun _ e=>e.elim)
theorem EStep.more {C:EC} {cb:Nat} {A A1 A2:Nat→Prop} {w w1:World} {rv rv1:Value} (h:EStep C cb A w rv A1 w1 rv1) (h1:∀ k,A1 k→A2 k) (h2:∀ k,A2 k→A1 k∨w.heap.size≤k):EStep C cb A w rv A2 w1 rv1:=
 ⟨h.keeps,fun k a=>h1 k (h.up k a),fun k a=>by
   rcases h2 k a with a|a
   · exact h.new k a
   · exact .inr a,h.nrv⟩
theorem EvSt.stays {C:EC} {cb:Nat} {A A':Nat→Prop} {w w':World} {rv rv':Value} {ts:List Tr} {fuel active:Int} (h:EvSt C cb A w rv ts fuel active) (hs:EStep C cb A w rv A' w' rv'):Stays A A' w w':=
 ⟨hs.keeps.size,fun b hb a=>⟨hs.keeps.block b hb (fun m=>h.mutA b m a),hs.up b a⟩⟩
def EPost (C:EC) (cb:Nat) (A:Nat→Prop) (w:World) (rv:Value) (ts:List Tr) (active:Int) (X:ER) (e:Ending) (w':World):Prop:=
 ∃ (A':Nat→Prop) (rv' v:Value),e=.returned (.tuple #[v,.int .i64 X.err])∧VlAt A' w' v X.val∧EvSt C cb A' w' rv' (ts ++ (if C.tr then X.calls else [])) X.fuel active∧EStep C cb A w rv A' w' rv'
end Go.Proofs.YtjhimhlebbamoaaDoor
/- Walks of package funeval:expr without fuel,at a number. -/
namespace Go.Proofs.YtjhimhlebbamoaaDoor
open Go.RowKit
theorem calls_nil (ts:List Tr) (b:Bool):ts ++ (if b then ([]:List Tr) else [])=ts:=by cases b <;> simp
theorem ev_out (C:EC) (d:Nat) (n:Nd) (v:Value) (cb mb:Nat) (A:Nat→Prop) (w:World) (rv:Value) (ts:List Tr) (env:VEnv) (fuel active:Int) (h0:fuel≤0) (hv:NdAt A w v n) (hst:EvSt C cb A w rv ts fuel active):
 Calls Tryd.prog 65 #[.pointer (some ⟨C.ev,0,none⟩),v,.map (some mb),.pointer (some ⟨cb,0,none⟩)] w (EPost C cb A w rv ts active (evalN apI C.lib (d+1) n env fuel active)):=by
 obtain ⟨hok,hlen,ka,kc,rfl,hk⟩:=hv.open
 have HX:Hid (evalN apI C.lib (d+1) n env fuel active=⟨noVl,18,fuel,[]⟩):=Lib.hid (by cases n;rw [evalN,if_pos h0])
 have HST:=Lib.hid hst
 have e1:=cell_blk (hst.below (bel_alloc (x:=.cells #[.bool false,.int .i64 0,.slice none 0 0] 40) (bel_alloc (x:=.cells #[.int .u8 n.kind,.int .i64 n.num,.string n.name,.slice ka n.kids.length kc] 66) (Below.refl _ _)))).ev 1 rfl
 have d0:decide (fuel≤0)=true:=by simpa using h0
 clear hst
 go_enter Tryd.func65,Tryd.ntmps65
 go_wp2
 (try simp only [Exit.inBlock,Exit.then])
 refine bodyPost_ret (results_cell_row2 (P:=Tryd.prog) rfl _ _ (w.heap.size+1) _ _ _ _ _ rfl (at_new w _ _) rfl Tryd.underlying40 rfl (by kernel_rfl)) rfl ?_
 rw [HX.out]
 exact ⟨A,rv,_,rfl,vl_no _,by rw [calls_nil];exact HST.out.below (bel_alloc (bel_alloc (Below.refl _ _))),(EStep.refl C cb A w rv).below (bel_alloc (bel_alloc (Below.refl _ _)))⟩
abbrev EW (C:EC) (w:World) (X Z:Obj) (f:Int):World:=((w.alloc X).alloc Z).setCell ⟨C.ev,1,none⟩ (.int .i64 f)
theorem ew_start {C:EC} {cb:Nat} {A:Nat→Prop} {w:World} {rv:Value} {ts:List Tr} {fuel active:Int} (h:EvSt C cb A w rv ts fuel active) (X Z:Obj) (f:Int):
 EvSt C cb A (EW C w X Z f) rv ts f active∧(EW C w X Z f).heap[w.heap.size]?=some X∧(EW C w X Z f).heap[w.heap.size+1]?=some Z∧EStep C cb A w rv A (EW C w X Z f) rv:=by
 have hlt:=h.evlt
 have hb:Below w.heap.size w ((w.alloc X).alloc Z):=bel_alloc (bel_alloc (Below.refl _ _))
 refine ⟨(h.below hb).fuel f,blk_set (at_old w X Z) (by omega),blk_set (at_new w X Z) (by omega),⟨?_,fun _ a=>a,fun _ a=>.inl a,NewOr.refl _ _⟩⟩
 exact (Keeps.of_below _ hb).same ((keeps_set _ C.ev 1 _).mono fun k e=>.inl e)
theorem res_sets {C:EC} {cb:Nat} {A A':Nat→Prop} {w w1:World} {rv rv':Value} {ts:List Tr} {f active:Int} {g:Nat} (h:EvSt C cb A' w1 rv' ts f active) (hs:EStep C cb A w rv A' w1 rv') (hg:w.heap.size≤g) (hA:¬ A' g) (hM:¬ MuE C cb rv' g) (x0 x1 x2:Value):
 EvSt C cb A' (((w1.setCell ⟨g,0,none⟩ x0).setCell ⟨g,1,none⟩ x1).setCell ⟨g,2,none⟩ x2) rv' ts f active∧EStep C cb A w rv A' (((w1.setCell ⟨g,0,none⟩ x0).setCell ⟨g,1,none⟩ x1).setCell ⟨g,2,none⟩ x2) rv':=
 ⟨h.keeps (keeps_set3 w1 g x0 x1 x2) (fun k a e=>hA (e ▸ a)) (fun k m e=>hM (e ▸ m)),hs.young (keeps_set3 w1 g x0 x1 x2) (fun k e=>by omega)⟩
theorem ev_num (C:EC) (d:Nat) (n:Nd) (v:Value) (cb mb:Nat) (A:Nat→Prop) (w:World) (rv:Value) (ts:List Tr) (env:VEnv) (fuel active:Int) (h0:0 < fuel∧fuel≤1000000) (h80:n.kind=80) (hv:NdAt A w v n) (hst:EvSt C cb A w rv ts fuel active):
 Calls Tryd.prog 65 #[.pointer (some ⟨C.ev,0,none⟩),v,.map (some mb),.pointer (some ⟨cb,0,none⟩)] w (EPost C cb A w rv ts active (evalN apI C.lib (d+1) n env fuel active)):=by
 obtain ⟨hok,hlen,ka,kc,rfl,hk⟩:=hv.open
 have HX:Hid (evalN apI C.lib (d+1) n env fuel active=⟨⟨false,n.num,[]⟩,0,fuel - 1,[]⟩):=Lib.hid (by
  obtain ⟨k,num,name,kids⟩:=n
  have h80':k=80:=h80
  rw [evalN,if_neg (by omega),if_pos h80'];rfl)
 have HST:=Lib.hid hst
 have HOK:=Lib.hid hok
 have hS0:=hst.below (bel_alloc (x:=.cells #[.bool false,.int .i64 0,.slice none 0 0] 40) (bel_alloc (x:=.cells #[.int .u8 n.kind,.int .i64 n.num,.string n.name,.slice ka n.kids.length kc] 66) (Below.refl _ _)))
 have e1:=cell_blk hS0.ev 1 rfl
 have f1:=unfrozen hS0.ev
 obtain ⟨w1,w2,w3,w4⟩:=ew_start hst (.cells #[.int .u8 n.kind,.int .i64 n.num,.string n.name,.slice ka n.kids.length kc] 66) (.cells #[.bool false,.int .i64 0,.slice none 0 0] 40) (fuel - 1)
 have HW1:=Lib.hid w1
 have HW3:=Lib.hid w3
 have HW4:=Lib.hid w4
 obtain ⟨n0,n1,n2,n3⟩:=cells4 w2
 obtain ⟨z0,z1,z2⟩:=cells3 w3
 have zf:=unfrozen w3
 have hna:¬ A (w.heap.size+1):=fun a=>by have:=hst.alt _ a;omega
 have hnm:¬ MuE C cb rv (w.heap.size+1):=fun m=>by have:=hst.mlt m;omega
 have d0:¬ fuel≤0:=by omega
 have hwr:IntKind.i64.wrap (fuel - 1)=fuel - 1:=by rw [IntKind.wrap_i64];omega
 have d80:(n.kind == 80)=true:=by simpa using h80
 clear hst hS0 hok h80 w1 w2 w3 w4
 go_enter Tryd.func65,Tryd.ntmps65
 go_wp2
 (try simp only [Exit.inBlock,Exit.then])
 refine bodyPost_ret (results_cell_row2 (P:=Tryd.prog) rfl _ _ (w.heap.size+1) _ _ _ _ _ rfl (set3 HW3.out _ _ _) rfl Tryd.underlying40 rfl (by kernel_rfl)) rfl ?_
 rw [HX.out]
 obtain ⟨r1,r2⟩:=res_sets HW1.out HW4.out (by omega) hna hnm (.bool false) (.int .i64 n.num) (.slice none 0 0)
 exact ⟨A,rv,_,rfl,vl_int _ HOK.out.2.1,by rw [calls_nil];exact r1,r2⟩
end Go.Proofs.YtjhimhlebbamoaaDoor
/- Walks of package funeval:expr at a variable. -/
namespace Go.Proofs.YtjhimhlebbamoaaDoor
open Go.RowKit
theorem MVl:SmapT Tryd.prog 153 9 40 (.agg #[.bool false,.int .i64 0,.slice none 0 0]):=⟨Tryd.underlying153,Tryd.underlying9,fun _=>by kernel_rfl⟩
theorem EnvAt.find {A:Nat→Prop} {w:World} {mb N:Nat} {env:VEnv} (h:EnvAt A w mb env N) (s:ByteArray):
 ∃ (m:ByteArray→Option Value) (a:Option Addr) (c:Nat),SMapLe Tryd.prog 9 w mb m N∧(m s).getD (.agg #[.bool false,.int .i64 0,.slice none 0 0])=.agg #[.bool (env s).list,.int .i64 (env s).n,.slice a (env s).l.length c]∧VlAt A w (.agg #[.bool (env s).list,.int .i64 (env s).n,.slice a (env s).l.length c]) (env s):=by
 obtain ⟨_,m,hm,hv⟩:=h
 obtain ⟨h1,h2⟩:=hv s
 cases e:m s with
 | none=>
   rw [h2 e]
   exact ⟨m,none,0,hm,by rw [e];rfl,vl_no _⟩
 | some v=>
   have h3:=h1 v e
   obtain ⟨a,c,rfl,h4,h5⟩:=h3
   exact ⟨m,a,c,hm,by rw [e];rfl,a,c,rfl,h4,h5⟩
theorem ev_var (C:EC) (d:Nat) (n:Nd) (v:Value) (cb mb:Nat) (A:Nat→Prop) (w:World) (rv:Value) (ts:List Tr) (env:VEnv) (N:Nat) (fuel active:Int) (h0:0 < fuel∧fuel≤1000000) (h81:n.kind=81) (hv:NdAt A w v n) (hst:EvSt C cb A w rv ts fuel active) (hen:EnvAt A w mb env N):
 Calls Tryd.prog 65 #[.pointer (some ⟨C.ev,0,none⟩),v,.map (some mb),.pointer (some ⟨cb,0,none⟩)] w (EPost C cb A w rv ts active (evalN apI C.lib (d+1) n env fuel active)):=by
 obtain ⟨hok,hlen,ka,kc,rfl,hk⟩:=hv.open
 have HX:Hid (evalN apI C.lib (d+1) n env fuel active=⟨env n.name,0,fuel - 1,[]⟩):=Lib.hid (by
  obtain ⟨k,num,name,kids⟩:=n
  have h81':k=81:=h81
  rw [evalN,if_neg (by omega),if_neg (by omega),if_pos h81'];rfl)
 have hS0:=hst.below (bel_alloc (x:=.cells #[.bool false,.int .i64 0,.slice none 0 0] 40) (bel_alloc (x:=.cells #[.int .u8 n.kind,.int .i64 n.num,.string n.name,.slice ka n.kids.length kc] 66) (Below.refl _ _)))
 have e1:=cell_blk hS0.ev 1 rfl
 have f1:=unfrozen hS0.ev
 obtain ⟨w1,w2,w3,w4⟩:=ew_start hst (.cells #[.int .u8 n.kind,.int .i64 n.num,.string n.name,.slice ka n.kids.length kc] 66) (.cells #[.bool false,.int .i64 0,.slice none 0 0] 40) (fuel - 1)
 obtain ⟨m,a,c,hm,hg,hvl⟩:=(hen.stays (hst.stays w4)).find n.name
 have HM:=Lib.hid hm
 have HG:=Lib.hid hg
 have HVL:=Lib.hid hvl
 have HW1:=Lib.hid w1
 have HW3:=Lib.hid w3
 have HW4:=Lib.hid w4
 obtain ⟨n0,n1,n2,n3⟩:=cells4 w2
 obtain ⟨z0,z1,z2⟩:=cells3 w3
 have zf:=unfrozen w3
 have hna:¬ A (w.heap.size+1):=fun a=>by have:=hst.alt _ a;omega
 have hnm:¬ MuE C cb rv (w.heap.size+1):=fun m=>by have:=hst.mlt m;omega
 have d0:¬ fuel≤0:=by omega
 have hwr:IntKind.i64.wrap (fuel - 1)=fuel - 1:=by rw [IntKind.wrap_i64];omega
 have d80:(n.kind == 80)=false:=by simp [h81]
 have d81:(n.kind == 81)=true:=by simpa using h81
 have hsn:=hok.2.2
 clear hst hen hS0 hok h81 w1 w2 w3 w4 hm hg hvl
 go_enter Tryd.func65,Tryd.ntmps65
 go_wp2_with (refine wpl_find MVl rfl (.tmp 44) (.tmp 46) false rfl rfl rfl (by exact HM.out) hsn (by exact HG.out) ?_)
 (try simp only [Exit.inBlock,Exit.then])
 refine bodyPost_ret (results_cell_row2 (P:=Tryd.prog) rfl _ _ (w.heap.size+1) _ _ _ _ _ rfl (set3 HW3.out _ _ _) rfl Tryd.underlying40 rfl (by kernel_rfl)) rfl ?_
 rw [HX.out]
 obtain ⟨r1,r2⟩:=res_sets HW1.out HW4.out (by omega) hna hnm (.bool (env n.name).list) (.int .i64 (env n.name).n) (.slice a (env n.name).l.length c)
 exact ⟨A,rv,_,rfl,HVL.out.stays ((keeps_set3 _ (w.heap.size+1) _ _ _).stays (fun k a _ e=>hna (e ▸ a))),by rw [calls_nil];exact r1,r2⟩
end Go.Proofs.YtjhimhlebbamoaaDoor
/- A valid library may be evaluated:no program in sight. -/
namespace Go.Proofs.YtjhimhlebbamoaaDoor
mutual
theorem check_calls (lib:List Fn):∀ (n:Nd) (vis:Vis),(checkN lib n vis).2=0→CallsOk lib n
 | .mk k num name kids,vis,h=>by
   rw [checkN] at h
   by_cases hr:reachE lib vis k name kids.length=0
   · rw [if_neg (by simpa using hr)] at h
     simp only [] at h
     by_cases hc:(checkL lib (decide (k=84)) name kids 0 [] vis).2=0
     · rw [CallsOk]
       refine ⟨fun h85=>?_,checkL_calls lib (decide (k=84)) name kids 0 [] vis hc⟩
       unfold reachE at hr
       rw [if_neg (by omega),if_neg (by omega),if_pos h85] at hr
       rcases Int.lt_or_le (findF lib name) 0 with h0|h0
       · rw [if_pos h0] at hr;omega
       · rw [if_neg (by omega)] at hr
         by_cases hk:kids.length=(fnAt lib (findF lib name)).params.length
         · exact ⟨h0,hk⟩
         · rw [if_pos hk] at hr;omega
     · rw [if_pos hc] at h
       exact absurd h hc
   · rw [if_pos hr] at h
     exact absurd h hr
theorem checkL_calls (lib:List Fn) (b:Bool) (name:ByteArray):∀ (l:List Nd) (j:Nat) (types:List Bool) (vis:Vis),(checkL lib b name l j types vis).2=0→CallsOks lib l
 | [],_,_,_,_=>by rw [CallsOks];trivial
 | n :: r,j,types,vis,h=>by
   rw [checkL] at h
   rw [CallsOks]
   by_cases hc:(checkN lib n (if b∧j=1 then vis.put name (types.getD 0 false) else vis)).2=0
   · rw [if_neg (by simpa using hc)] at h
     exact ⟨check_calls lib n _ hc,checkL_calls lib b name r (j+1) _ vis h⟩
   · rw [if_pos hc] at h
     exact absurd h hc
end
theorem lib_ok {lib:List Fn} (h:(validE lib).2=0):LibOk lib:=fun i hi=>by
 have:=valid_ok h hi
 exact ⟨this.form,check_calls lib _ _ this.check,this.size,pars_le this.pars⟩
end Go.Proofs.YtjhimhlebbamoaaDoor
