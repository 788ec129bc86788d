/- Contracts and plain lemmas (RfJ, RAri, PSem4, PTw): no statement of the seat is proved here. -/
import Derived.Test.YtjhimhlebbamoaaDoorZs2
import Derived.Test.YtjhimhlebbamoaaDoorZq06
import Derived.Test.YtjhimhlebbamoaaDoorZq08
import Derived.Test.YtjhimhlebbamoaaDoorZq07
import Derived.Test.YtjhimhlebbamoaaDoorZq13
/- Expr and Normalize of the reference of layer 38,whole. -/
set_option linter.unusedSimpArgs false
set_option linter.unusedVariables false
set_option linter.unusedSectionVars false
set_option maxRecDepth 100000
set_option maxHeartbeats 3200000
namespace Go.Proofs.YtjhimhlebbamoaaDoor
open Go.RowKit
theorem exprR_ok (lib:List Fn) (hl:PLen lib) (n0 G:Nat):∀ m,XOk8 lib n0 G m:=by
 intro m
 induction m with
 | zero=>intro n nv lv ev A W vis env el ts hm;have:=size_pos n;omega
 | succ m IH=>
   intro n nv lv ev A W vis env el ts hm hel hr hx hn
   by_cases h81:n.kind=81
   · exact rx_var lib n0 G n nv lv ev A W vis env el ts h81 hr hx hn
   by_cases h84:n.kind=84
   · exact rx_let lib hl n0 G m IH n nv lv ev A W vis env el ts hm hel h84 hr hx hn
   by_cases h83:n.kind=83
   · exact rx_if lib hl n0 G m IH n nv lv ev A W vis env el ts hm hel h83 hr hx hn
   exact rx_op lib hl n0 G m IH n nv lv ev A W vis env el ts hm hel h81 h84 h83 hr hx hn
theorem TAFn8:RowT Tryd.prog 89 136 (.agg #[.string ByteArray.empty,.slice none 0 0,.bool false,.slice none 0 0,.slice none 0 0,.string ByteArray.empty]) 6 112:=⟨Tryd.underlying89,by kernel_rfl⟩
def AFnE:Elem AFn where
 size:=6
 C:=AFnCells
 stays:=fun hs _ _ h=>h.stays hs
 congr:=fun h e=>h.congr e
 one:=fun h i hi=>by
  obtain ⟨_,a1,k1,e1⟩:=h.c1.form
  obtain ⟨_,a3,k3,e3⟩:=h.c3.form
  obtain ⟨_,a4,k4,e4⟩:=(bds_rows.1 h.c4).form
  match i,hi with
  | 0,_=>rw [h.c0];rfl
  | 1,_=>rw [e1];rfl
  | 2,_=>rw [h.c2];rfl
  | 3,_=>rw [e3];rfl
  | 4,_=>rw [e4];rfl
  | 5,_=>rw [h.c5];rfl
theorem cells7 {w:World} {b e:Nat} {v0 v1 v2 v3 v4 v5 v6:Value} (h:w.heap[b]?=some (.cells #[v0,v1,v2,v3,v4,v5,v6] e (0,0))):
 w.cell? ⟨b,0,none⟩=some v0∧w.cell? ⟨b,1,none⟩=some v1∧w.cell? ⟨b,2,none⟩=some v2∧w.cell? ⟨b,3,none⟩=some v3∧w.cell? ⟨b,4,none⟩=some v4∧w.cell? ⟨b,5,none⟩=some v5∧w.cell? ⟨b,6,none⟩=some v6:=
 ⟨cell_blk h 0 rfl,cell_blk h 1 rfl,cell_blk h 2 rfl,cell_blk h 3 rfl,cell_blk h 4 rfl,cell_blk h 5 rfl,cell_blk h 6 rfl⟩
def elP (l:List Par):List (ByteArray × Par):=l.map (fun p=>(p.name,p))
theorem lk_elP (s:ByteArray):∀ l:List Par,lkV (elP l) s=parsEnv l s:=by
 have key:∀ r:List Par,lkV (elP r.reverse) s=parsEnv r.reverse s:=by
  intro r
  induction r with
  | nil=>rfl
  | cons p r ih=>
    rw [List.reverse_cons,elP,List.map_append,List.map_singleton,lkV_snoc]
    unfold parsEnv
    rw [List.foldl_append,List.foldl_cons,List.foldl_nil]
    show _=Env.put (parsEnv r.reverse) p.name p s
    unfold Env.put
    rw [show lkV (List.map (fun p=>(p.name,p)) r.reverse) s=lkV (elP r.reverse) s from rfl,ih]
    by_cases e:p.name=s
    · simp [e]
    · have:¬ s=p.name:=fun x=>e x.symm
      simp [e,this]
 intro l
 have:=key l.reverse
 rwa [List.reverse_reverse] at this
theorem elP_take (l:List Par) (j:Nat) (h:j < l.length):elP (l.take (j+1))=elP (l.take j) ++ [((at' l j).name,at' l j)]:=by
 rw [elP,List.take_add_one,List.getElem?_eq_getElem h,Option.toList_some,List.map_append,at_eq h];rfl
theorem normR_any (lib:List Fn) (hv:(validE lib).2=0) (lv:Value) (A:Nat→Prop) (w:World) (hl:FnsAt A w lv lib) (hle:lib.length≤1000):
 Calls Tryd.prog 36 #[lv] w fun e w'=>∃ v,e=.returned v∧AFnsAt Any w' v (normL lib)∧Below w.heap.size w w':=by
 have hpl:PLen lib:=fun i hi=>pars_le (valid_ok hv hi).pars
 obtain ⟨_,la,lc,rfl⟩:=hl.form
 have HL:Hid (FnsAt (fun b=>b < w.heap.size) w (.slice la lib.length lc) lib):=Lib.hid (hl.stays ⟨Nat.le_refl _,fun b hb _=>⟨rfl,hb⟩⟩)
 have HV:=Lib.hid hv
 have HPL:=Lib.hid hpl
 clear hl hpl hv
 go_enter Tryd.func36,Tryd.ntmps36
 go_wp2
 go_loopw [3,4] (fun v i wr=>∃ k:Nat,i=.int .i64 k∧k≤lib.length∧Below w.heap.size w wr∧RowsOwn AFnE 136 (fun _=>True) w.heap.size wr v ((normL lib).take k)) (fun _ i _=>lib.length - (intOf i).toNat)
 case atStart=>exact ⟨0,rfl,Nat.zero_le _,Below.refl _ _,RowsOwn.nil _ _ _ _ _⟩
 case round=>
  obtain ⟨k,rfl,hk,hbl,hrow⟩:=hrel
  obtain ⟨va,vc,rfl⟩:=hrow.form
  have hnl:(normL lib).length=lib.length:=by simp [normL]
  rw [List.length_take,hnl,Nat.min_eq_left hk]
  rw [List.length_take,hnl,Nat.min_eq_left hk] at hrow
  by_cases hlt:k < lib.length
  · obtain ⟨b,off,cap',pa,pc,ka,kc,he,hb,_,_,c0,c1,c2,c3,c4,c5,c6,hs,hp,hn⟩:=(HL.out.stays (Stays.of_below hbl)).at hlt
    simp only [Value.slice.injEq] at he
    obtain ⟨rfl,-,rfl⟩:=he
    have hok:=valid_ok HV.out hlt
    have hnt:=norm_take lib k hlt
    have hsm:=norm_small (lib:=lib) hok.size (fun j hj=>by obtain ⟨_,_,_,_,_,_,_,_,_,h⟩:=hp.at hj;exact h)
    have hpn:=pars_names hok.pars
    have hp8:=pars_le hok.pars
    have hpl':=HPL.out
    have hform:=hok.form
    have hcheck:=hok.check
    have hsz:=hok.size
    clear hok
    generalize hf:at' lib k=f at *
    have hrd:Rdy lib f.body (parsV f.params) (parsEnv f.params) []:=⟨hform,hcheck,agree_pars _ hpn,fun j hj=>by simp at hj,by simp;omega⟩
    have hX:∃ X,X=exprN lib f.body (parsEnv f.params) []:=⟨_,rfl⟩
    obtain ⟨X,hX⟩:=hX
    have HNF:Hid (normF lib f=⟨f.name,f.params,f.list,X.ts,X.bs,X.par.name⟩):=Lib.hid (by rw [hX];rfl)
    have hgd:=hrd.good hpl'
    rw [← hX] at hgd
    have hxl:=expr_len lib f.body (parsEnv f.params) []
    rw [← hX] at hxl
    have HXL:Hid (X.ts.length≤10000∧X.bs.length≤10000∧sizeN f.body≤2000):=Lib.hid (by simp at hxl;omega)
    have HTN:Hid (∀ j,(at' X.ts j).name.size≤maxLen):=Lib.hid (fun j=>by
     by_cases hj:j < X.ts.length
     · rw [hgd.ts j hj];have:=gname_size (gname_t (i:=j) (by have:=HXL.out.1;omega));unfold maxLen;omega
     · rw [show at' X.ts j=default by simp [at',List.getD_eq_getElem?_getD,List.getElem?_eq_none (Nat.le_of_not_lt hj)]]
       show (0:Nat)≤maxLen;omega)
    have HX:=Lib.hid hX
    obtain ⟨w0,hw0⟩:∃ w0,w0=wr:=⟨_,rfl⟩
    subst hw0
    have HRD:=Lib.hid hrd
    have HROW:=Lib.hid hrow
    have HBL:=Lib.hid hbl
    have HNT:=Lib.hid hnt
    have HSM:=Lib.hid hsm
    have HP8:=Lib.hid hp8
    have HP:=Lib.hid hp
    have HN:=Lib.hid hn
    have HS:=Lib.hid hs
    have hws:=hbl.size
    have HPN:Hid (∀ j,j < f.params.length→(at' f.params j).name.size≤maxLen):=Lib.hid (fun j hj=>by
     obtain ⟨_,_,_,_,_,_,_,_,_,h⟩:=hp.at hj;exact h)
    have i0:(0:Int)≤(k:Int):=Int.natCast_nonneg k
    have i1:(k:Int) < (lib.length:Int):=Int.ofNat_lt.2 hlt
    have hp8':f.params.length≤8:=hp8
    clear hrd hrow hnt hsm hp8 hp hn hs hpn hf hbl hform hcheck hX hgd hxl hsz hpl'
    go_wp2
    obtain ⟨W2,hW2⟩:∃ W2,W2=(w0.alloc (.cells #[.string f.name,.slice pa f.params.length pc,.bool f.list,.int .u8 f.body.kind,.int .i64 f.body.num,.string f.body.name,.slice ka f.body.kids.length kc] 68)).alloc (.cells #[.slice none 0 0] 128):=⟨_,rfl⟩
    have hb2:Below w0.heap.size w0 W2:=by rw [hW2];exact bel_alloc (bel_alloc (Below.refl _ _))
    have hs2:W2.heap.size=w0.heap.size+1+1:=by rw [hW2];simp
    have hF:W2.heap[w0.heap.size]?=some (.cells #[.string f.name,.slice pa f.params.length pc,.bool f.list,.int .u8 f.body.kind,.int .i64 f.body.num,.string f.body.name,.slice ka f.body.kids.length kc] 68 (0,0)):=by rw [hW2];exact blk_alloc (at_new0 _ _)
    have hG:W2.heap[w0.heap.size+1]?=some (.cells #[.slice none 0 0] 128 (0,0)):=by rw [hW2];exact blk_new (by simp)
    rw [← hW2]
    have HF:=Lib.hid hF
    have HGB:=Lib.hid hG
    have HB2:=Lib.hid hb2
    have hgs:GS (w0.heap.size+1) (w0.heap.size+1) [] W2:=⟨Nat.le_refl _,_,hG,World.ownsRow_nil _ _ _ _,nofun⟩
    have HGS:=Lib.hid hgs
    clear hW2 hF hG hb2 hgs
    go_loopw [7,8] (fun v i wr=>∃ j:Nat,i=.int .i64 j∧j≤f.params.length∧Below W2.heap.size W2 wr∧RowsOwn VarE 131 (fun _=>True) W2.heap.size wr v (elP (f.params.take j))) (fun _ i _=>f.params.length - (intOf i).toNat)
    case atStart=>exact ⟨0,rfl,Nat.zero_le _,Below.refl _ _,RowsOwn.nil _ _ _ _ _⟩
    case round=>
     obtain ⟨j,rfl,hj,hbq,hrq⟩:=hrel
     obtain ⟨ea,ec,rfl⟩:=hrq.form
     have hel:(elP (f.params.take j)).length=j:=by rw [elP,List.length_map,List.length_take,Nat.min_eq_left hj]
     rw [hel] at hrq
     rw [hel]
     have hFq:=blk_below hbq HF.out
     obtain ⟨f0,f1,f2,f3,f4,f5,f6⟩:=cells7 hFq
     have HBQ:=Lib.hid hbq
     have HRQ:=Lib.hid hrq
     have hsq:=hbq.size
     by_cases hjl:j < f.params.length
     · have hPq:=HP.out.stays (Stays.of_below HB2.out)
       obtain ⟨pb,po,pcap,he,hpb,_,_,p0,p1,ps⟩:=hPq.at hjl
       simp only [Value.slice.injEq] at he
       obtain ⟨rfl,-,rfl⟩:=he
       have HT:=Lib.hid (elP_take f.params j hjl)
       obtain ⟨e0,e1,e2,e3,e4,e5,e6⟩:=cells7 HF.out
       have HS5:Hid (∀ w1,Below W2.heap.size W2 w1→(w1.cell? ⟨w0.heap.size,1,none⟩=some (.slice (some ⟨pb,po,none⟩) f.params.length pc)∧w1.cell? ⟨pb,po+j * 2,none⟩=some (.string (at' f.params j).name)∧w1.cell? ⟨pb,po+j * 2+1,none⟩=some (.bool (at' f.params j).list))):=Lib.hid (fun w1 h=>⟨cell_bel h e1,cell_bel h p0,cell_bel h p1⟩)
       obtain ⟨s0,s1,s2⟩:=HS5.out wr hbq
       have j0:(0:Int)≤(j:Int):=Int.natCast_nonneg j
       have j1:(j:Int) < (f.params.length:Int):=Int.ofNat_lt.2 hjl
       have hps:=ps
       clear hPq hFq hrq ps e0 e1 e2 e3 e4 e5 e6 p0 p1 f0 f1 f2 f3 f4 f5 f6
       go_wp2
       go_region_held3 (fun w1=>w1.cell? ⟨w0.heap.size,1,none⟩=some (.slice (some ⟨pb,po,none⟩) f.params.length pc)∧w1.cell? ⟨pb,po+j * 2,none⟩=some (.string (at' f.params j).name)∧w1.cell? ⟨pb,po+j * 2+1,none⟩=some (.bool (at' f.params j).list))
        (with_reducible exact HS5.out _ (by (repeat (with_reducible first|exact Below.refl _ _|refine bel_drew ?_|refine bel_alloc ?_|(apply bel_step;focus assumption)))))
        (first
        | (refine step_rows (E:=VarE) (D:=fun _=>True) (base:=W2.heap.size) (l:=elP (f.params.take j)) (m:=[((at' f.params j).name,at' f.params j)]) TVar8 rfl (by decide) (by rfl) (.tmp 30) (.tmp 50) (by rfl) (by rfl) (by rfl) (HRQ.out.below (by (repeat (with_reducible first|exact Below.refl _ _|refine bel_drew ?_|refine bel_alloc ?_|(apply bel_step;focus assumption))))) (rows_1 (E:=VarE) (A:=fun b=>wr.heap.size≤b) (blk_new rfl) (by first|exact Nat.le_refl _|simp) rfl ⟨rfl,rfl,rfl,hps,hps⟩) (fun b hb h=>⟨trivial,fun e=>by have:=(HRQ.out.lt e).2;omega⟩) (by rw [hel];unfold maxLen;simp;omega) (by rw [hel];simp;omega) (by first|omega|(simp;done)|(simp;omega)) ?_;intro a9 c9 w9 h9 hg9 hn9;have H9:=Lib.hid h9;have hb9:Below W2.heap.size W2 w9:=Below.grown (by (repeat (with_reducible first|exact Below.refl _ _|refine bel_drew ?_|refine bel_alloc ?_|(apply bel_step;focus assumption)))) hg9 (by first|omega|(simp;done)|(simp;omega)) (fun k e=>(HRQ.out.lt e).1);clear h9 hg9 hn9)
        | fail)
       all_goals
        go_wp2
        exact ⟨⟨j+1,by go_num,by omega,hb9,by rw [HT.out];have h:=H9.out;rw [hel] at h;exact h⟩,by simp [intOf];omega⟩
     · obtain rfl:j=f.params.length:=by omega
       rw [List.take_length] at HRQ
       have hlt':¬ (f.params.length:Int) < (f.params.length:Int):=by omega
       have hgq:=HGS.out.new hbq
       have hbxq:∀ b,Bx (w0.heap.size+1) wr b→w0.heap.size+1≤b∧b < W2.heap.size:=fun b m=>⟨hgq.ge m,HGS.out.lt (bx_below HGS.out.glt hbq m)⟩
       have hbwr:Below w0.heap.size w0 wr:=HB2.out.trans (hbq.mono (by omega))
       have hxin:XIn lib (w0.heap.size+1) (w0.heap.size+1) (fun b=>b < wr.heap.size∧¬ Bx (w0.heap.size+1) wr b) (.slice (some ⟨b,off,none⟩) lib.length lc) (.slice ea f.params.length ec) (elP f.params) (parsEnv f.params) [] wr:=by
        refine ⟨hgq,fun b hb=>hb,?_,?_,fun s=>lk_elP s _,by rw [elP,List.length_map];omega⟩
        · obtain ⟨xs,hx,hf⟩:=HRQ.out
          have h:=(show RowsOwn VarE 131 (fun _=>False) W2.heap.size wr (.slice ea f.params.length ec) (elP f.params) from ⟨xs,hx,hf⟩).shut (A:=fun b=>b < wr.heap.size∧¬ Bx (w0.heap.size+1) wr b) (fun _ e=>e.elim) (fun k e=>⟨(hx.lt k e).2,fun m=>by have:=(hx.lt k e).1;have:=(hbxq k m).2;omega⟩) (by rw [elP,List.length_map];unfold maxLen;omega)
          exact h
        · exact HL.out.stays ⟨by have:=hbwr.size;omega,fun b hb _=>⟨(hbwr.block b (by omega)).trans (HBL.out.block b hb),by omega,fun m=>by have:=(hbxq b m).1;omega⟩⟩
       have hnd:NdAt (fun b=>b < wr.heap.size∧¬ Bx (w0.heap.size+1) wr b) wr (.agg #[.int .u8 f.body.kind,.int .i64 f.body.num,.string f.body.name,.slice ka f.body.kids.length kc]) f.body:=HN.out.stays ⟨hbwr.size,fun b hb a=>⟨hbwr.block b hb,by have:=hbwr.size;omega,fun m=>by have:=(hbxq b m).1;omega⟩⟩
       have HI:=Lib.hid (exprR_ok lib HPL.out (w0.heap.size+1) (w0.heap.size+1) (sizeN f.body) f.body _ _ _ _ wr _ _ _ _ (Nat.le_refl _) (by rw [elP,List.length_map];have:=HXL.out.2.2;omega) HRD.out hxin hnd)
       rw [← HX.out] at HI
       have HBX:Hid (¬ Bx (w0.heap.size+1) wr w0.heap.size):=Lib.hid (fun m=>by have:=(hbxq _ m).1;omega)
       have HFQ:=Lib.hid hFq
       have HBW:=Lib.hid hbwr
       clear hgq hbxq hxin hnd hbq hrq hFq hbwr
       go_wp2_with fail
       refine HI.out.mono ?_
       rintro e W4 ⟨a4,c4,rfl,g4,k4,r4⟩
       clear f0 f1 f2 f3 f4 f5 f6
       obtain ⟨f0,f1,f2,f3,f4,f5,f6⟩:=cells7 (k4.blk HFQ.out (by omega) HBX.out)
       have hr4:=r4.shut (by have:=HXL.out;unfold maxLen;omega)
       obtain ⟨_,v4,hb4,ho4,hne4⟩:=g4
       obtain ⟨ta,tc,rfl⟩:=row_form ho4
       have cG:=cell_blk hb4 0 rfl
       have hk4:Below w0.heap.size w0 W4:=HBW.out.trans (k4.1.mono (by omega))
       have HK4:=Lib.hid hk4
       have HR4:=Lib.hid hr4
       have HO4:=Lib.hid ho4
       have h4z:=hk4.size
       have HC:Hid (∀ w1,Below W4.heap.size W4 w1→AFnCells (fun b=>b < w.heap.size∨w0.heap.size≤b) w1 (fun i=>(#[.string f.name,.slice pa f.params.length pc,.bool f.list,.slice ta X.ts.length tc,.slice a4 X.bs.length c4,.string X.par.name]:Array Value).getD i undef) (normF lib f)):=Lib.hid (fun w1 h1=>by
        rw [HNF.out]
        have hz1:=h1.size
        have hw1:Below w0.heap.size w0 w1:=HK4.out.trans (h1.mono h4z)
        refine ⟨rfl,?_,rfl,?_,?_,rfl,HS.out,?_⟩
        · exact HP.out.stays ⟨hw1.size,fun b hb a=>⟨hw1.block b hb,.inl a⟩⟩
        · exact pars_of_row (row_below HO4.out h1) (fun k e=>.inr (by have:=(HO4.out.lt k e).1;omega)) (by have:=HXL.out.1;show X.ts.length≤maxLen;unfold maxLen;omega) HTN.out
        · exact (bds_rows.2 HR4.out).stays ⟨hz1,fun b hb a=>⟨h1.block b hb,.inr (by have:=a.1;omega)⟩⟩
        · have h:=HSM.out;rw [HNF.out] at h;exact h)
       clear hr4 hb4 ho4 hne4 k4 r4 hk4 HI
       go_wp2_with (at_builtin;refine wpl_rows (E:=AFnE) (D:=fun _=>True) (base:=w.heap.size) TAFn8 rfl (by decide) rfl (.tmp 61) (.tmp 73) rfl rfl rfl ((HROW.out.below HK4.out).below (bel_alloc (Below.refl _ _))) (m:=[normF lib f]) (D':=fun b=>b < w.heap.size∨w0.heap.size≤b) (rows_1 (E:=AFnE) (A:=fun b=>b < w.heap.size∨w0.heap.size≤b) (at_new0 _ _) (.inr h4z) rfl (HC.out _ (bel_alloc (Below.refl _ _)))) (fun b hb h=>⟨trivial,fun e=>by have:=HROW.out.lt e;omega⟩) (by unfold maxLen;simp [normL];omega) (by simp [normL];omega) (by simp;omega) ?_;intro a9 c9 w9 h9 hg9 hn9;have H9:=Lib.hid h9;have HB9:Hid (Below w.heap.size w w9):=Lib.hid (Below.grown (HBL.out.trans ((HK4.out.trans ((bel_alloc (Below.refl _ _)).mono h4z)).mono hws)) hg9 (by simp;omega) (fun k e=>(HROW.out.lt e).1));clear h9 hg9 hn9)
       exact ⟨⟨k+1,by go_num,by omega,HB9.out,by rw [HNT.out];have h:=H9.out;rw [List.length_take,hnl,Nat.min_eq_left hk] at h;exact h⟩,by simp [intOf];omega⟩
  · obtain rfl:k=lib.length:=by omega
    go_wp2
    go_ret
    rw [show (normL lib).take lib.length=normL lib by rw [← hnl];exact List.take_length ..] at hrow
    obtain ⟨cs,h1,h2⟩:=hrow.shut (A:=Any) (fun _ _=>trivial) (fun _ _=>trivial) (by rw [hnl];unfold maxLen;omega)
    exact ⟨_,rfl,⟨cs,by rw [hnl] at h1;rw [hnl];exact h1,h2⟩,hbl⟩
end Go.Proofs.YtjhimhlebbamoaaDoor
/- The reference's operators. -/
namespace Go.Proofs.YtjhimhlebbamoaaDoor
open Go.RowKit
theorem number_AR (b:Bool) (w:World):Calls Tryd.prog 87 #[.bool b] w fun e w'=>e=.returned (.int .i64 (if b then 1 else 0))∧w=w':=by
 cases b
 all_goals
  go_enter Tryd.func87,Tryd.ntmps87
  go_wp2
  go_ret
  exact ⟨rfl,rfl⟩
theorem apply_plainR (k x y:Int) (w:World) (hk:k=8∨k=9∨k=10∨k=13∨k=14∨k=15):Calls Tryd.prog 70 #[.int .u8 k,.int .i64 x,.int .i64 y] w (ApPost k x y w):=by
 rcases hk with rfl|rfl|rfl|rfl|rfl|rfl
 all_goals
  go_enter Tryd.func70,Tryd.ntmps70
  go_wp2
  go_ret2
  refine ⟨?_,rfl⟩
  simp [apI]
theorem apply_divR (k x y:Int) (w:World) (hk:k=11∨k=12):Calls Tryd.prog 70 #[.int .u8 k,.int .i64 x,.int .i64 y] w (ApPost k x y w):=by
 by_cases h0:y=0
 · subst h0
   have HR:Hid (apI k x 0=(0,11)):=Lib.hid (by rcases hk with rfl|rfl <;> simp [apI])
   have d:((0:Int) == 0)=true:=rfl
   rcases hk with rfl|rfl
   all_goals
    go_enter Tryd.func70,Tryd.ntmps70
    go_wp2
    go_ret2
    refine ⟨?_,rfl⟩
    rw [HR.out];rfl
 · have d:(y == 0)=false:=by simp [h0]
   rcases hk with rfl|rfl
   · have HR:Hid (apI 11 x y=(wrap64 (x.tdiv y),0)):=Lib.hid (by simp [apI,h0])
     go_enter Tryd.func70,Tryd.ntmps70
     go_wp2
     go_ret2
     refine ⟨?_,rfl⟩
     rw [HR.out];rfl
   · have HR:Hid (apI 12 x y=(x.tmod y,0)):=Lib.hid (by simp [apI,h0])
     go_enter Tryd.func70,Tryd.ntmps70
     go_wp2
     go_ret2
     refine ⟨?_,rfl⟩
     rw [HR.out];rfl
theorem apply_bitR (k x y:Int) (b:Bool) (w:World) (hk:16≤k∧k≤23) (hb:apI k x y=(if b then 1 else 0,0))
 (h16:k=16→(x == y)=b) (h17:k=17→(x != y)=b) (h18:k=18→decide (x < y)=b) (h19:k=19→decide (x≤y)=b) (h20:k=20→decide (y < x)=b) (h21:k=21→decide (y≤x)=b) (h22:k=22→((x != 0) && (y != 0))=b) (h23:k=23→((x != 0) || (y != 0))=b):
 Calls Tryd.prog 70 #[.int .u8 k,.int .i64 x,.int .i64 y] w (ApPost k x y w):=by
 have HB:=Lib.hid hb
 have HN:=Lib.hid (fun b w=>number_AR b w)
 clear hb
 obtain ⟨h0,h1⟩:=hk
 have hkk:k=16∨k=17∨k=18∨k=19∨k=20∨k=21∨k=22∨k=23:=by omega
 clear h0 h1
 rcases hkk with rfl|rfl|rfl|rfl|rfl|rfl|rfl|rfl
 · have d:=h16 rfl
   clear h16 h17 h18 h19 h20 h21 h22 h23
   cases b
   all_goals
    go_enter Tryd.func70,Tryd.ntmps70
    go_wp2_with (go_at_call 87;refine (HN.out _ _).mono ?_;rintro e w' ⟨rfl,rfl⟩)
    go_ret2
    refine ⟨?_,rfl⟩
    rw [HB.out];rfl
 · have d:=h17 rfl
   clear h16 h17 h18 h19 h20 h21 h22 h23
   cases b
   all_goals
    go_enter Tryd.func70,Tryd.ntmps70
    go_wp2_with (go_at_call 87;refine (HN.out _ _).mono ?_;rintro e w' ⟨rfl,rfl⟩)
    go_ret2
    refine ⟨?_,rfl⟩
    rw [HB.out];rfl
 · have d:=h18 rfl
   clear h16 h17 h18 h19 h20 h21 h22 h23
   cases b
   all_goals
    go_enter Tryd.func70,Tryd.ntmps70
    go_wp2_with (go_at_call 87;refine (HN.out _ _).mono ?_;rintro e w' ⟨rfl,rfl⟩)
    go_ret2
    refine ⟨?_,rfl⟩
    rw [HB.out];rfl
 · have d:=h19 rfl
   clear h16 h17 h18 h19 h20 h21 h22 h23
   cases b
   all_goals
    go_enter Tryd.func70,Tryd.ntmps70
    go_wp2_with (go_at_call 87;refine (HN.out _ _).mono ?_;rintro e w' ⟨rfl,rfl⟩)
    go_ret2
    refine ⟨?_,rfl⟩
    rw [HB.out];rfl
 · have d:=h20 rfl
   clear h16 h17 h18 h19 h20 h21 h22 h23
   cases b
   all_goals
    go_enter Tryd.func70,Tryd.ntmps70
    go_wp2_with (go_at_call 87;refine (HN.out _ _).mono ?_;rintro e w' ⟨rfl,rfl⟩)
    go_ret2
    refine ⟨?_,rfl⟩
    rw [HB.out];rfl
 · have d:=h21 rfl
   clear h16 h17 h18 h19 h20 h21 h22 h23
   cases b
   all_goals
    go_enter Tryd.func70,Tryd.ntmps70
    go_wp2_with (go_at_call 87;refine (HN.out _ _).mono ?_;rintro e w' ⟨rfl,rfl⟩)
    go_ret2
    refine ⟨?_,rfl⟩
    rw [HB.out];rfl
 · have d:=h22 rfl
   clear h16 h17 h18 h19 h20 h21 h22 h23
   cases hx:(x != 0) <;> cases hy:(y != 0)
   all_goals
    rw [hx,hy] at d
    simp only [Bool.and_true,Bool.and_false] at d
    subst d
    go_enter Tryd.func70,Tryd.ntmps70
    go_wp2_with (go_at_call 87;refine (HN.out _ _).mono ?_;rintro e w' ⟨rfl,rfl⟩)
    go_ret2
    refine ⟨?_,rfl⟩
    rw [HB.out];rfl
 · have d:=h23 rfl
   clear h16 h17 h18 h19 h20 h21 h22 h23
   cases hx:(x != 0) <;> cases hy:(y != 0)
   all_goals
    rw [hx,hy] at d
    simp only [Bool.or_true,Bool.or_false] at d
    subst d
    go_enter Tryd.func70,Tryd.ntmps70
    go_wp2_with (go_at_call 87;refine (HN.out _ _).mono ?_;rintro e w' ⟨rfl,rfl⟩)
    go_ret2
    refine ⟨?_,rfl⟩
    rw [HB.out];rfl
theorem apply_AR (k x y:Int) (w:World) (hk:8≤k∧k≤23):Calls Tryd.prog 70 #[.int .u8 k,.int .i64 x,.int .i64 y] w (ApPost k x y w):=by
 by_cases h1:k=8∨k=9∨k=10∨k=13∨k=14∨k=15
 · exact apply_plainR k x y w h1
 by_cases h2:k=11∨k=12
 · exact apply_divR k x y w h2
 have h3:k=16∨k=17∨k=18∨k=19∨k=20∨k=21∨k=22∨k=23:=by omega
 rcases h3 with rfl|rfl|rfl|rfl|rfl|rfl|rfl|rfl
 · exact apply_bitR 16 x y (x == y) w (by omega) (by by_cases h:x=y <;> simp [apI,h]) (fun _=>rfl) (by omega) (by omega) (by omega) (by omega) (by omega) (by omega) (by omega)
 · exact apply_bitR 17 x y (x != y) w (by omega) (by by_cases h:x=y <;> simp [apI,h]) (by omega) (fun _=>rfl) (by omega) (by omega) (by omega) (by omega) (by omega) (by omega)
 · exact apply_bitR 18 x y (decide (x < y)) w (by omega) (by by_cases h:x < y <;> simp [apI,h]) (by omega) (by omega) (fun _=>rfl) (by omega) (by omega) (by omega) (by omega) (by omega)
 · exact apply_bitR 19 x y (decide (x≤y)) w (by omega) (by by_cases h:x≤y <;> simp [apI,h]) (by omega) (by omega) (by omega) (fun _=>rfl) (by omega) (by omega) (by omega) (by omega)
 · exact apply_bitR 20 x y (decide (y < x)) w (by omega) (by by_cases h:y < x <;> simp [apI,h]) (by omega) (by omega) (by omega) (by omega) (fun _=>rfl) (by omega) (by omega) (by omega)
 · exact apply_bitR 21 x y (decide (y≤x)) w (by omega) (by by_cases h:y≤x <;> simp [apI,h]) (by omega) (by omega) (by omega) (by omega) (by omega) (fun _=>rfl) (by omega) (by omega)
 · exact apply_bitR 22 x y ((x != 0) && (y != 0)) w (by omega) (by by_cases h:x=0 <;> by_cases h':y=0 <;> simp [apI,h,h']) (by omega) (by omega) (by omega) (by omega) (by omega) (by omega) (fun _=>rfl) (by omega)
 · exact apply_bitR 23 x y ((x != 0) || (y != 0)) w (by omega) (by by_cases h:x=0 <;> by_cases h':y=0 <;> simp [apI,h,h']) (by omega) (by omega) (by omega) (by omega) (by omega) (by omega) (by omega) (fun _=>rfl)
end Go.Proofs.YtjhimhlebbamoaaDoor
/- The normal form computes what the function computes:the operands' types and the callees are checked on the way,and the binds that are executed are counted. No program in sight. -/
namespace Go.Proofs.YtjhimhlebbamoaaDoor
def chkB (ap:Ap) (op num:Int) (list:Bool) (args:List ByteArray) (vals:VEnv):Bool:=
 if op=81 then (vals (at' args 0)).list == list
 else if op=85 then true
 else if op=83 then !(vals (at' args 0)).list
 else (list == opList op) && (if op=82 then (!(vals (at' args 0)).list && !(vals (at' args 1)).list) && decide ((ap num (vals (at' args 0)).n (vals (at' args 1)).n).2=0)
 else if op=87 then !(vals (at' args 0)).list && (vals (at' args 1)).list
 else if op=88∨op=89∨op=90 then (vals (at' args 0)).list
 else true)
instance:DecidableEq Vl:=fun a b=>decidable_of_iff (a.list=b.list∧a.n=b.n∧a.l=b.l) ⟨fun h=>by cases a;cases b;simp_all,fun h=>by rw [h];exact ⟨rfl,rfl,rfl⟩⟩
mutual
def cexecB (ap:Ap) (lib:List Fn):Bd→VEnv→List Tr→Option (VEnv × List Tr × Int)
 | .mk tn list op num name args thn els,vals,calls=>
   if chkB ap op num list args vals then
    if op=83 then (if (vals (at' args 0)).n≠0 then cexecBs ap lib thn vals calls else cexecBs ap lib els vals calls).map fun x=>(x.1,x.2.1,x.2.2+1)
    else if op=85 then (match calls with|[]=>none|t :: r=>if t.f=findF lib name∧t.args=args.map (fun a=>cleanV (vals a))∧t.res.list=list then some (vals.put tn t.res,r,1) else none)
    else (resultB ap op num list args vals).map fun v=>(vals.put tn v,calls,1)
   else none
def cexecBs (ap:Ap) (lib:List Fn):List Bd→VEnv→List Tr→Option (VEnv × List Tr × Int)
 | [],vals,calls=>some (vals,calls,0)
 | b :: r,vals,calls=>(cexecB ap lib b vals calls).bind fun x=>(cexecBs ap lib r x.1 x.2.1).map fun y=>(y.1,y.2.1,x.2.2+y.2.2)
end
theorem cexecB_eq (ap:Ap) (lib:List Fn) (tn:ByteArray) (list:Bool) (op num:Int) (name:ByteArray) (args:List ByteArray) (thn els:List Bd) (vals:VEnv) (calls:List Tr):cexecB ap lib (.mk tn list op num name args thn els) vals calls =
 if chkB ap op num list args vals then
  if op=83 then (if (vals (at' args 0)).n≠0 then cexecBs ap lib thn vals calls else cexecBs ap lib els vals calls).map fun x=>(x.1,x.2.1,x.2.2+1)
  else if op=85 then (match calls with|[]=>none|t :: r=>if t.f=findF lib name∧t.args=args.map (fun a=>cleanV (vals a))∧t.res.list=list then some (vals.put tn t.res,r,1) else none)
  else (resultB ap op num list args vals).map fun v=>(vals.put tn v,calls,1)
 else none:=by
 conv=>lhs;unfold cexecB
theorem cexec_append (ap:Ap) (lib:List Fn):∀ (l m:List Bd) (vals v1:VEnv) (calls r1:List Tr) (c1:Int),cexecBs ap lib l vals calls=some (v1,r1,c1)→∀ v2 r2 c2,cexecBs ap lib m v1 r1=some (v2,r2,c2)→cexecBs ap lib (l ++ m) vals calls=some (v2,r2,c1+c2)
 | [],m,vals,v1,calls,r1,c1,h,v2,r2,c2,h2=>by
   rw [cexecBs] at h
   simp only [Option.some.injEq,Prod.mk.injEq] at h
   obtain ⟨rfl,rfl,rfl⟩:=h
   rw [List.nil_append,h2,Int.zero_add]
 | b :: l,m,vals,v1,calls,r1,c1,h,v2,r2,c2,h2=>by
   rw [cexecBs] at h
   rw [List.cons_append,cexecBs]
   cases hb:cexecB ap lib b vals calls with
   | none=>rw [hb] at h;cases h
   | some x=>
     rw [hb] at h
     simp only [Option.bind_some] at h ⊢
     cases hl:cexecBs ap lib l x.1 x.2.1 with
     | none=>rw [hl] at h;cases h
     | some y=>
       rw [hl] at h
       simp only [Option.map_some,Option.some.injEq,Prod.mk.injEq] at h
       obtain ⟨rfl,rfl,rfl⟩:=h
       rw [cexec_append ap lib l m _ _ _ _ _ hl _ _ _ h2]
       simp only [Option.map_some,Int.add_assoc]
theorem cexec_one (ap:Ap) (lib:List Fn) (b:Bd) (vals:VEnv) (calls:List Tr) {x:VEnv × List Tr × Int} (h:cexecB ap lib b vals calls=some x):cexecBs ap lib [b] vals calls=some x:=by
 rw [cexecBs,h]
 simp only [Option.bind_some]
 rw [cexecBs]
 simp
mutual
theorem cexecB_exec (ap:Ap) (lib:List Fn):∀ (b:Bd) (vals:VEnv) (calls:List Tr) (v:VEnv) (r:List Tr) (c:Int),cexecB ap lib b vals calls=some (v,r,c)→execB ap b vals calls=some (v,r)
 | .mk tn list op num name args thn els,vals,calls,v,r,c,h=>by
   rw [cexecB_eq] at h
   rw [execB_eq]
   split at h
   · by_cases h83:op=83
     · rw [if_pos h83] at h ⊢
       split at h
       · rename_i hz
         rw [if_pos hz]
         cases hx:cexecBs ap lib thn vals calls with
         | none=>rw [hx] at h;cases h
         | some x=>
           rw [hx] at h
           simp only [Option.map_some,Option.some.injEq,Prod.mk.injEq] at h
           rw [cexecBs_exec ap lib thn _ _ _ _ _ hx,h.1,h.2.1]
       · rename_i hz
         rw [if_neg hz]
         cases hx:cexecBs ap lib els vals calls with
         | none=>rw [hx] at h;cases h
         | some x=>
           rw [hx] at h
           simp only [Option.map_some,Option.some.injEq,Prod.mk.injEq] at h
           rw [cexecBs_exec ap lib els _ _ _ _ _ hx,h.1,h.2.1]
     · rw [if_neg h83] at h ⊢
       by_cases h85:op=85
       · rw [if_pos h85] at h ⊢
         cases calls with
         | nil=>cases h
         | cons t cr=>
           simp only at h ⊢
           split at h
           · simp only [Option.some.injEq,Prod.mk.injEq] at h
             rw [h.1,h.2.1]
           · cases h
       · rw [if_neg h85] at h ⊢
         cases hx:resultB ap op num list args vals with
         | none=>rw [hx] at h;cases h
         | some x=>
           rw [hx] at h
           simp only [Option.map_some,Option.some.injEq,Prod.mk.injEq] at h ⊢
           exact ⟨h.1,h.2.1⟩
   · cases h
theorem cexecBs_exec (ap:Ap) (lib:List Fn):∀ (l:List Bd) (vals:VEnv) (calls:List Tr) (v:VEnv) (r:List Tr) (c:Int),cexecBs ap lib l vals calls=some (v,r,c)→execBs ap l vals calls=some (v,r)
 | [],vals,calls,v,r,c,h=>by
   rw [cexecBs] at h
   simp only [Option.some.injEq,Prod.mk.injEq] at h
   rw [execBs,h.1,h.2.1]
 | b :: l,vals,calls,v,r,c,h=>by
   rw [cexecBs] at h
   rw [execBs]
   cases hb:cexecB ap lib b vals calls with
   | none=>rw [hb] at h;cases h
   | some x=>
     rw [hb] at h
     simp only [Option.bind_some] at h
     rw [cexecB_exec ap lib b _ _ _ _ _ hb]
     simp only [Option.bind_some]
     cases hl:cexecBs ap lib l x.1 x.2.1 with
     | none=>rw [hl] at h;cases h
     | some y=>
       rw [hl] at h
       simp only [Option.map_some,Option.some.injEq,Prod.mk.injEq] at h
       rw [cexecBs_exec ap lib l _ _ _ _ _ hl,h.1,h.2.1]
end
def SamW (b:Bool) (v u:Vl):Prop:=v.list=b∧u.list=b∧(if b then u.l=v.l else u.n=v.n)
theorem SamW.n {v u:Vl} (h:SamW false v u):u.n=v.n:=h.2.2
theorem SamW.l {v u:Vl} (h:SamW true v u):u.l=v.l:=h.2.2
theorem SamW.of {b:Bool} {v:Vl} (h:v.list=b):SamW b v v:=⟨h,h,by split <;> rfl⟩
theorem SamW.clean {b:Bool} {v u:Vl} (h:SamW b v u):cleanV u=cleanV v:=by
 cases b with
 | true=>simp [cleanV,h.1,h.2.1,h.l]
 | false=>simp [cleanV,h.1,h.2.1,h.n]
theorem clean_samW (v:Vl):SamW v.list v (cleanV v):=by
 unfold cleanV
 cases h:v.list <;> exact ⟨h,by simp,by simp⟩
def AgreW (N:Nat) (vis:Vis) (env:Env) (se:VEnv) (vals:VEnv):Prop:=∀ s b,vis s=some b→∃ p,env s=some p∧p.list=b∧OldT N p.name∧SamW b (se s) (vals p.name)
theorem AgreW.keep {N:Nat} {vis:Vis} {env:Env} {se vals vals':VEnv} (h:AgreW N vis env se vals) (hv:∀ s,OldT N s→vals' s=vals s) {M:Nat} (hm:N≤M):AgreW M vis env se vals':=fun s b hs=>by
 obtain ⟨p,h1,h2,h3,h4⟩:=h s b hs
 exact ⟨p,h1,h2,h3.mono hm,by rw [hv _ h3];exact h4⟩
theorem AgreW.put {N:Nat} {vis:Vis} {env:Env} {se vals:VEnv} (h:AgreW N vis env se vals) (s:ByteArray) (p:Par) (v:Vl) (hp:OldT N p.name) (hv:SamW p.list v (vals p.name)):AgreW N (vis.put s p.list) (env.put s p) (se.put s v) vals:=by
 intro y b hy
 by_cases e:y=s
 · simp only [Vis.put,if_pos e,Option.some.injEq] at hy
   subst hy
   exact ⟨p,by simp [Env.put,e],rfl,hp,by simp only [VEnv.put,if_pos e];exact hv⟩
 · simp only [Vis.put,if_neg e] at hy
   obtain ⟨q,h1,h2,h3,h4⟩:=h y b hy
   exact ⟨q,by simp only [Env.put,if_neg e];exact h1,h2,h3,by simp only [VEnv.put,if_neg e];exact h4⟩
mutual
def costT (ap:Ap) (lib:List Fn):Tr→Int
 | .mk f args res calls=>((cexecBs ap lib (normF lib (fnAt lib f)).body (bindPars (fnAt lib f).params args) calls).map (·.2.2)).getD 0+costTs ap lib calls
def costTs (ap:Ap) (lib:List Fn):List Tr→Int
 | []=>0
 | t :: r=>costT ap lib t+costTs ap lib r
end
theorem costTs_append (ap:Ap) (lib:List Fn):∀ l m:List Tr,costTs ap lib (l ++ m)=costTs ap lib l+costTs ap lib m
 | [],m=>by rw [List.nil_append,costTs,Int.zero_add]
 | t :: l,m=>by rw [List.cons_append,costTs,costTs,costTs_append ap lib l m,Int.add_assoc]
mutual
def TrR (ap:Ap) (lib:List Fn):Tr→Prop
 | .mk f args res calls=>(0≤f∧f.toNat < lib.length∧args.length=(fnAt lib f).params.length∧∃ vals' c,cexecBs ap lib (normF lib (fnAt lib f)).body (bindPars (fnAt lib f).params args) calls=some (vals',[],c)∧cleanV (vals' (normF lib (fnAt lib f)).result)=res)∧TrRs ap lib calls
def TrRs (ap:Ap) (lib:List Fn):List Tr→Prop
 | []=>True
 | t :: r=>TrR ap lib t∧TrRs ap lib r
end
theorem TrRs.nil (ap:Ap) (lib:List Fn):TrRs ap lib []:=by rw [TrRs];trivial
theorem TrRs.append {ap:Ap} {lib:List Fn}:∀ {l m:List Tr},TrRs ap lib l→TrRs ap lib m→TrRs ap lib (l ++ m)
 | [],_,_,h=>h
 | t :: l,m,h,h'=>by
   rw [TrRs] at h
   rw [List.cons_append,TrRs]
   exact ⟨h.1,h.2.append h'⟩
theorem TrRs.one {ap:Ap} {lib:List Fn} {t:Tr} (h:TrR ap lib t):TrRs ap lib [t]:=by rw [TrRs];exact ⟨h,.nil _ _⟩
def XSemW (ap:Ap) (lib:List Fn) (d:Nat):Prop:=∀ (n:Nd) (vis:Vis) (env:Env) (ts:List Par) (se vals:VEnv) (fuel active:Int),formedN n=true→(checkN lib n vis).2=0→Agree vis env→TNamed ts→ts.length+2 * sizeN n≤10000→AgreW ts.length vis env se vals→
 (evalN ap lib d n se fuel active).err=0→∀ rest,∃ vals' c,cexecBs ap lib (exprN lib n env ts).bs vals ((evalN ap lib d n se fuel active).calls ++ rest)=some (vals',rest,c)∧SamW (checkN lib n vis).1 (evalN ap lib d n se fuel active).val (vals' (exprN lib n env ts).par.name)∧
   (∀ s,OldT ts.length s→vals' s=vals s)∧OldT (exprN lib n env ts).ts.length (exprN lib n env ts).par.name∧TrRs ap lib (evalN ap lib d n se fuel active).calls∧c+costTs ap lib (evalN ap lib d n se fuel active).calls+1≤3 * (fuel - (evalN ap lib d n se fuel active).fuel)
theorem cexec_var (ap:Ap) (lib:List Fn) (tn x:ByteArray) (b:Bool) (vals:VEnv) (calls:List Tr) (hb:(vals x).list=b):cexecBs ap lib [varB tn b x] vals calls=some (vals.put tn (vals x),calls,1):=by
 refine cexec_one ap lib _ _ _ ?_
 rw [varB,cexecB_eq];simp [resultB,at',chkB,hb]
theorem cexec_op {ap:Ap} {lib:List Fn} {tn:ByteArray} {list:Bool} {op num:Int} {name:ByteArray} {args:List ByteArray} {vals:VEnv} {calls:List Tr} {v:Vl} (h83:op≠83) (h85:op≠85) (hc:chkB ap op num list args vals=true) (h:resultB ap op num list args vals=some v):cexecBs ap lib [.mk tn list op num name args [] []] vals calls=some (vals.put tn v,calls,1):=by
 refine cexec_one ap lib _ _ _ ?_
 rw [cexecB_eq,if_pos hc,if_neg h83,if_neg h85,h];rfl
theorem cexec_if {ap:Ap} {lib:List Fn} {tn x:ByteArray} {list:Bool} {num:Int} {name:ByteArray} {thn els:List Bd} {vals v:VEnv} {calls r:List Tr} {c:Int} (hc:(vals x).list=false) (h:cexecBs ap lib (if (vals x).n≠0 then thn else els) vals calls=some (v,r,c)):cexecBs ap lib [.mk tn list 83 num name [x] thn els] vals calls=some (v,r,c+1):=by
 refine cexec_one ap lib _ _ _ ?_
 rw [cexecB_eq,if_pos (by simp [chkB,at',hc]),if_pos rfl]
 simp only [show at' [x] 0=x from rfl]
 by_cases hz:(vals x).n≠0
 · rw [if_pos hz] at h ⊢;rw [h];rfl
 · rw [if_neg hz] at h ⊢;rw [h];rfl
theorem cexec_call {ap:Ap} {lib:List Fn} {tn:ByteArray} {list:Bool} {num:Int} {name:ByteArray} {args:List ByteArray} {vals:VEnv} {t:Tr} {r:List Tr} (hf:t.f=findF lib name) (ha:t.args=args.map (fun a=>cleanV (vals a))) (hl:t.res.list=list):cexecBs ap lib [.mk tn list 85 num name args [] []] vals (t :: r)=some (vals.put tn t.res,r,1):=by
 refine cexec_one ap lib _ _ _ ?_
 rw [cexecB_eq,if_pos (by simp [chkB]),if_neg (by omega),if_pos rfl]
 simp only [if_pos (And.intro hf (And.intro ha hl))]
theorem map_at {α β:Type} [Inhabited α] [Inhabited β] {l:List α} {m:List β} {γ:Type} {f:α→γ} {g:β→γ} (hl:l.length=m.length) (h:∀ i,i < l.length→f (at' l i)=g (at' m i)):l.map f=m.map g:=by
 apply List.ext_getElem
 · simpa using hl
 · intro i h1 h2
   rw [List.getElem_map,List.getElem_map]
   have:=h i (by simpa using h1)
   rw [at_eq (by simpa using h1),at_eq (by simpa using h2)] at this
   exact this
theorem args_semW (ap:Ap) (lib:List Fn) (hl:∀ i,i < lib.length→(at' lib i).params.length≤8) (d:Nat) (H:XSemW ap lib d) (call:Bool) (name:ByteArray):∀ (l:List Nd) (j:Nat) (types:List Bool) (vis:Vis) (env:Env) (ts:List Par) (se vals:VEnv) (fuel active:Int),formedL l=true→(checkL lib false name l j types vis).2=0→Agree vis env→TNamed ts→ts.length+2 * sizeL l≤10000→AgreW ts.length vis env se vals→
 (evalL (fun n f=>evalN ap lib d n se f active) l fuel).err=0→(evalL (fun n f=>evalN ap lib d n se f active) l fuel).vals.length=l.length∧(argsN lib call l env ts).args.length=l.length∧∀ rest,∃ vals' c,cexecBs ap lib (argsN lib call l env ts).bs vals ((evalL (fun n f=>evalN ap lib d n se f active) l fuel).calls ++ rest)=some (vals',rest,c)∧
   (∀ i,i < l.length→SamW (checkN lib (at' l i) vis).1 (at' (evalL (fun n f=>evalN ap lib d n se f active) l fuel).vals i) (vals' (at' (argsN lib call l env ts).args i))∧OldT (argsN lib call l env ts).ts.length (at' (argsN lib call l env ts).args i))∧
   (∀ s,OldT ts.length s→vals' s=vals s)∧TrRs ap lib (evalL (fun n f=>evalN ap lib d n se f active) l fuel).calls∧c+costTs ap lib (evalL (fun n f=>evalN ap lib d n se f active) l fuel).calls≤3 * (fuel - (evalL (fun n f=>evalN ap lib d n se f active) l fuel).fuel)
 | [],j,types,vis,env,ts,se,vals,fuel,active,hf,hc,hag,hts,hsz,hav,he=>by
   refine ⟨rfl,by rw [argsN];rfl,fun rest=>⟨vals,0,?_,fun i hi=>absurd hi (by simp),fun s _=>rfl,TrRs.nil _ _,?_⟩⟩
   · rw [argsN,cexecBs];rfl
   · simp only [evalL];rw [costTs];omega
 | n :: r,j,types,vis,env,ts,se,vals,fuel,active,hf,hc,hag,hts,hsz,hav,he=>by
   rw [formedL,Bool.and_eq_true] at hf
   obtain ⟨c1,c2,_⟩:=checkL_cons hc
   simp only [Bool.false_eq_true,false_and,if_false] at c1 c2
   rw [sizeL] at hsz
   rw [evalL] at he ⊢
   simp only [] at he ⊢
   have gn:=expr_good lib hl n vis env ts hf.1 c1 hag hts (by omega)
   have lenn:=expr_len lib n env ts
   by_cases hx:(evalN ap lib d n se fuel active).err=0
   · rw [if_neg (by simpa using hx)] at he ⊢
     have hn:=H n vis env ts se vals fuel active hf.1 c1 hag hts (by omega) hav hx
     rw [argsN]
     simp only [gn.env]
     generalize hE:evalN ap lib d n se fuel active=E at *
     generalize hX:exprN lib n env ts=X at *
     simp only [] at he ⊢
     by_cases hcall:(call && namesN (sizeN n) n)=true
     · simp only [if_pos hcall]
       have hts2:=gn.ts.snoc X.par.list
       have hlen2:(X.ts ++ [(⟨tname X.ts.length,X.par.list⟩:Par)]).length=X.ts.length+1:=by simp
       have ih:=fun vals2 h2=>args_semW ap lib hl d H call name r (j+1) _ vis env (X.ts ++ [⟨tname X.ts.length,X.par.list⟩]) se vals2 E.fuel active hf.2 c2 hag hts2 (by rw [hlen2];omega) h2 he
       have hlenv:(evalL (fun n f=>evalN ap lib d n se f active) r E.fuel).vals.length=r.length∧(argsN lib call r env (X.ts ++ [⟨tname X.ts.length,X.par.list⟩])).args.length=r.length:=by
        obtain ⟨v1,_,_,_,h3,_⟩:=hn []
        exact (fun x=>And.intro x.1 x.2.1) (ih (v1.put (tname X.ts.length) (v1 X.par.name)) ((hav.keep h3 (Nat.le_refl _)).keep (fun s hs=>put_old (by omega) hs) (by rw [hlen2];omega)))
       refine ⟨by simp only [List.length_cons,hlenv.1],by simp only [List.length_cons,hlenv.2],fun rest=>?_⟩
       obtain ⟨v1,c1,h1,h2,h3,h4,h5,h6⟩:=hn ((evalL (fun n f=>evalN ap lib d n se f active) r E.fuel).calls ++ rest)
       obtain ⟨v2,c2,k1,k2,k3,k4,k5⟩:=(ih (v1.put (tname X.ts.length) (v1 X.par.name)) ((hav.keep h3 (Nat.le_refl _)).keep (fun s hs=>put_old (by omega) hs) (by rw [hlen2];omega))).2.2 rest
       rw [hlen2] at k3
       refine ⟨v2,c1+(1+c2),?_,fun i hi=>?_,fun s hs=>?_,h5.append k4,?_⟩
       rotate_right
       · rw [costTs_append];omega
       · rw [List.append_assoc]
         exact cexec_append ap lib _ _ _ _ _ _ _ h1 _ _ _ (cexec_append ap lib [_] _ _ _ _ _ _ (cexec_var ap lib _ _ _ _ _ (h2.2.1.trans gn.list.symm)) _ _ _ k1)
       · cases i with
         | zero=>
           have leny:=args_len lib call r env (X.ts ++ [⟨tname X.ts.length,X.par.list⟩])
           rw [hlen2] at leny
           show SamW _ E.val (v2 (tname X.ts.length))∧OldT _ (tname X.ts.length)
           rw [k3 _ (old_t (by omega)),put_same]
           exact ⟨h2,old_t (by omega)⟩
         | succ i=>exact k2 i (by simpa using hi)
       · rw [k3 _ (hs.mono (by omega)),put_old (by omega) hs,h3 s hs]
     · simp only [if_neg hcall]
       have ih:=fun vals2 h2=>args_semW ap lib hl d H call name r (j+1) _ vis env X.ts se vals2 E.fuel active hf.2 c2 hag gn.ts (by omega) h2 he
       have hlenv:(evalL (fun n f=>evalN ap lib d n se f active) r E.fuel).vals.length=r.length∧(argsN lib call r env X.ts).args.length=r.length:=by
        obtain ⟨v1,_,_,_,h3,_⟩:=hn []
        exact (fun x=>And.intro x.1 x.2.1) (ih v1 (hav.keep h3 (by omega)))
       refine ⟨by simp only [List.length_cons,hlenv.1],by simp only [List.length_cons,hlenv.2],fun rest=>?_⟩
       obtain ⟨v1,c1,h1,h2,h3,h4,h5,h6⟩:=hn ((evalL (fun n f=>evalN ap lib d n se f active) r E.fuel).calls ++ rest)
       obtain ⟨v2,c2,k1,k2,k3,k4,k5⟩:=(ih v1 (hav.keep h3 (by omega))).2.2 rest
       refine ⟨v2,c1+c2,?_,fun i hi=>?_,fun s hs=>?_,h5.append k4,?_⟩
       rotate_right
       · rw [costTs_append];omega
       · rw [List.append_assoc]
         exact cexec_append ap lib _ _ _ _ _ _ _ h1 _ _ _ k1
       · cases i with
         | zero=>
           have leny:=args_len lib call r env X.ts
           show SamW _ E.val (v2 X.par.name)∧OldT _ X.par.name
           rw [k3 _ h4]
           exact ⟨h2,h4.mono (by omega)⟩
         | succ i=>exact k2 i (by simpa using hi)
       · rw [k3 _ (hs.mono (by omega)),h3 s hs]
   · rw [if_pos hx] at he;exact absurd he hx
theorem zip_envW (lib:List Fn):∀ (ps:List Par) (vs:List Vl),(∀ p ∈ ps,nameB p.name=true)→vs.length=ps.length→(∀ i,i < ps.length→(at' vs i).list=(at' ps i).list)→
 AgreW 0 (parsV ps) (parsEnv ps) (bindPars ps vs) (bindPars ps (vs.map cleanV)):=by
 have key:∀ (ps:List Par) (vs:List Vl) (vis:Vis) (env:Env) (e e':VEnv),(∀ p ∈ ps,nameB p.name=true)→vs.length=ps.length→(∀ i,i < ps.length→(at' vs i).list=(at' ps i).list)→AgreW 0 vis env e e'→(∀ s p,env s=some p→p.name=s)→(∀ s b,vis s=some b→∃ p,env s=some p∧p.list=b)→
  (∀ s b,vis s=some b→OldT 0 s)→
  AgreW 0 (ps.foldl (fun v p=>v.put p.name p.list) vis) (ps.foldl (fun v p=>v.put p.name p) env) ((ps.zip vs).foldl (fun e p=>e.put p.1.name p.2) e) ((ps.zip (vs.map cleanV)).foldl (fun e p=>e.put p.1.name p.2) e'):=by
  intro ps
  induction ps with
  | nil=>intro vs vis env e e' _ _ _ h _ _ _;exact h
  | cons p r ih=>
    intro vs vis env e e' hn hl ht ha h1 h2 h3
    match vs,hl with
    | v :: vr,hl=>
      simp only [List.foldl_cons,List.zip_cons_cons,List.map_cons]
      have hp:=hn p (List.mem_cons_self ..)
      have hv:v.list=p.list:=ht 0 (by simp)
      refine ih vr _ _ _ _ (fun q hq=>hn q (List.mem_cons_of_mem _ hq)) (by simpa using hl) (fun i hi=>ht (i+1) (by simpa using hi)) ?_ ?_ ?_ ?_
      · intro y b hy
        by_cases e0:y=p.name
        · simp only [Vis.put,if_pos e0,Option.some.injEq] at hy
          subst hy
          refine ⟨p,by simp [Env.put,e0],rfl,old_name hp 0,?_⟩
          simp only [VEnv.put,if_pos e0,if_true]
          rw [← hv];exact clean_samW v
        · simp only [Vis.put,if_neg e0] at hy
          obtain ⟨q,g1,g2,g3,g4⟩:=ha y b hy
          have hq:=h1 y q g1
          refine ⟨q,by simp only [Env.put,if_neg e0];exact g1,g2,g3,?_⟩
          rw [hq] at g4 ⊢
          simp only [VEnv.put,if_neg e0];exact g4
      · intro s q hs
        by_cases e0:s=p.name
        · simp only [Env.put,if_pos e0,Option.some.injEq] at hs;subst hs;exact e0.symm
        · simp only [Env.put,if_neg e0] at hs;exact h1 s q hs
      · intro s b hs
        by_cases e0:s=p.name
        · simp only [Vis.put,if_pos e0,Option.some.injEq] at hs;exact ⟨p,by simp [Env.put,e0],hs⟩
        · simp only [Vis.put,if_neg e0] at hs
          obtain ⟨q,g1,g2⟩:=h2 s b hs
          exact ⟨q,by simp only [Env.put,if_neg e0];exact g1,g2⟩
      · intro s b hs
        by_cases e0:s=p.name
        · subst e0;exact old_name hp 0
        · simp only [Vis.put,if_neg e0] at hs;exact h3 s b hs
 intro ps vs h1 h2 h3
 exact key ps vs _ _ _ _ h1 h2 h3 (fun s b h=>by cases h) (fun s p h=>by cases h) (fun s b h=>by cases h) (fun s b h=>by cases h)
theorem sem_callW {ap:Ap} {lib:List Fn} (hv:(validE lib).2=0) {d:Nat} (H:XSemW ap lib d) {f:Int} (hf0:0≤f) (hf:f.toNat < lib.length) {vals:List Vl} (hl:vals.length=(fnAt lib f).params.length) (ht:∀ i,i < vals.length→(at' vals i).list=(at' (fnAt lib f).params i).list) {fuel active:Int}
 (he:(evalN ap lib d (fnAt lib f).body (bindPars (fnAt lib f).params vals) fuel active).err=0):
 (evalN ap lib d (fnAt lib f).body (bindPars (fnAt lib f).params vals) fuel active).val.list=(fnAt lib f).list∧TrR ap lib (.mk f (vals.map cleanV) (cleanV (evalN ap lib d (fnAt lib f).body (bindPars (fnAt lib f).params vals) fuel active).val) (evalN ap lib d (fnAt lib f).body (bindPars (fnAt lib f).params vals) fuel active).calls)∧
   costT ap lib (.mk f (vals.map cleanV) (cleanV (evalN ap lib d (fnAt lib f).body (bindPars (fnAt lib f).params vals) fuel active).val) (evalN ap lib d (fnAt lib f).body (bindPars (fnAt lib f).params vals) fuel active).calls)+1≤3 * (fuel - (evalN ap lib d (fnAt lib f).body (bindPars (fnAt lib f).params vals) fuel active).fuel):=by
 have hok:=valid_ok hv hf
 have hp:=pars_names hok.pars
 have hsz:=hok.size
 obtain ⟨v',c,h1,h2,h3,h4,h5,h6⟩:=H (fnAt lib f).body (parsV (fnAt lib f).params) (parsEnv (fnAt lib f).params) [] _ (bindPars (fnAt lib f).params (vals.map cleanV)) fuel active hok.form hok.check (agree_pars _ hp) (fun j hj=>by simp at hj) (by unfold fnAt;simp;omega) (zip_envW lib _ _ hp hl (fun i hi=>ht i (by omega))) he []
 have hlist:=hok.list
 rw [List.append_nil] at h1
 have h1':cexecBs ap lib (normF lib (fnAt lib f)).body (bindPars (fnAt lib f).params (vals.map cleanV)) (evalN ap lib d (fnAt lib f).body (bindPars (fnAt lib f).params vals) fuel active).calls=some (v',[],c):=h1
 refine ⟨h2.1.trans hlist,?_,?_⟩
 · rw [TrR]
   exact ⟨⟨hf0,hf,by simpa using hl,v',c,h1',h2.clean⟩,h5⟩
 · rw [costT,h1']
   simp only [Option.map_some,Option.getD_some]
   exact h6
theorem semW_ok (ap:Ap) (lib:List Fn) (hv:(validE lib).2=0):∀ d,XSemW ap lib d:=by
 have hl8:∀ i,i < lib.length→(at' lib i).params.length≤8:=fun j hj=>pars_le (valid_ok hv hj).pars
 intro d
 induction d with
 | zero=>intro n vis env ts se vals fuel active hf hc hag hts hsz hav he;rw [evalN] at he;exact absurd he (by simp)
 | succ d H=>
   intro n vis env ts se vals fuel active hf hc hag hts hsz hav he rest
   obtain ⟨k,num,name,kids⟩:=n
   rw [formedN,Bool.and_eq_true] at hf
   obtain ⟨hf1,hf2⟩:=hf
   rw [evalN] at he ⊢
   by_cases hfu:fuel≤0
   · rw [if_pos hfu] at he;exact absurd he (by simp)
   rw [if_neg hfu] at he ⊢
   by_cases h81:k=81
   · subst h81
     rw [if_neg (by omega),if_pos rfl]
     have hkl:kids.length=0:=by simp [formB] at hf1;simp [hf1.2]
     obtain ⟨b,hvb,hty⟩:=check_var hc hkl
     obtain ⟨p,g1,g2,g3,g4⟩:=hav name b hvb
     rw [exprN_var,hty,g1]
     exact ⟨vals,0,by rw [cexecBs];rfl,g4,fun s _=>rfl,g3,TrRs.nil _ _,by rw [costTs];simp only;omega⟩
   obtain ⟨hr,hcl,hres,hty⟩:=check_split h81 hc
   obtain ⟨r1,r2⟩:=result_ty hres
   by_cases h84:k=84
   · subst h84
     rw [if_neg (by omega),if_neg (by omega),if_neg (by omega),if_pos rfl] at he ⊢
     have hk2:kids.length=2:=by simp [formB] at hf1;exact hf1.2.2
     match kids,hk2 with
     | [a,b],_=>
       rw [hty,r2]
       simp only [decide_true] at hcl r1 ⊢
       obtain ⟨c1,c2,c3⟩:=checkL_cons hcl
       rw [c3]
       obtain ⟨d1,d2,d3⟩:=checkL_cons c2
       rw [d3]
       simp only [true_and,Nat.zero_ne_one,if_false,List.nil_append,Nat.zero_add,if_true,List.getD_cons_zero] at c1 d1 ⊢
       rw [formedL,formedL,Bool.and_eq_true,Bool.and_eq_true] at hf2
       rw [sizeN,sizeL,sizeL,sizeL] at hsz
       simp only [show at' [a,b] 0=a from rfl,show at' [a,b] 1=b from rfl] at he ⊢
       have ga:=expr_good lib hl8 a vis env ts hf2.1 c1 hag hts (by omega)
       have lena:=expr_len lib a env ts
       by_cases hea:(evalN ap lib d a se (fuel - 1) active).err=0
       · rw [if_neg (by simpa using hea)] at he ⊢
         have hA:=H a vis env ts se vals (fuel - 1) active hf2.1 c1 hag hts (by omega) hav hea
         have hag2:Agree (vis.put name (checkN lib a vis).1) (env.put name (exprN lib a env ts).par):=by
          rw [← ga.list];exact hag.put name _ ga.name
         have lenb:=expr_len lib b (env.put name (exprN lib a env ts).par) (exprN lib a env ts).ts
         rw [exprN_let]
         simp only [ga.env]
         have gl:=ga.list
         have gts:=ga.ts
         generalize hX:exprN lib a env ts=X at *
         generalize hEa:evalN ap lib d a se (fuel - 1) active=Ea at *
         simp only [] at he ⊢
         obtain ⟨v1,ca,a1,a2,a3,a4,a5,a6⟩:=hA ((evalN ap lib d b (se.put name Ea.val) Ea.fuel active).calls ++ rest)
         have hav2:AgreW X.ts.length (vis.put name (checkN lib a vis).1) (env.put name X.par) (se.put name Ea.val) v1:=by
          rw [← gl]
          refine (hav.keep a3 (by omega)).put name X.par Ea.val a4 ?_
          rw [gl];exact a2
         obtain ⟨v2,cb,b1,b2,b3,b4,b5,b6⟩:=H b _ _ X.ts _ v1 Ea.fuel active hf2.2.1 d1 hag2 gts (by omega) hav2 he rest
         refine ⟨v2,ca+cb,?_,?_,fun s hs=>by rw [b3 _ (hs.mono (by omega)),a3 s hs],b4,a5.append b5,by rw [costTs_append];omega⟩
         · rw [List.append_assoc]
           exact cexec_append ap lib _ _ _ _ _ _ _ a1 _ _ _ b1
         · have:(wantT lib 84 name (checkL lib true name ([]:List Nd) (1+1) [(checkN lib a vis).1,(checkN lib b (vis.put name (checkN lib a vis).1)).1] vis).1).2=(checkN lib b (vis.put name (checkN lib a vis).1)).1:=by
            simp [wantT,checkL]
           first|(rw [this];exact b2)|(simp [wantT,checkL];exact b2)
       · rw [if_pos hea] at he;exact absurd he hea
   have hd:decide (k=84)=false:=by simp [h84]
   rw [hd] at hcl r1 r2 hty hres
   have htl:=checkL_types kids 0 [] hcl
   rw [List.nil_append] at htl
   by_cases h83:k=83
   · subst h83
     rw [if_neg (by omega),if_neg (by omega),if_pos rfl] at he ⊢
     have hk3:kids.length=3:=by rw [formB] at hf1;simp at hf1;exact hf1.2
     match kids,hk3 with
     | [c,a,b],_=>
       obtain ⟨c1,c2,c3⟩:=checkL_cons hcl
       obtain ⟨d1,d2,d3⟩:=checkL_cons c2
       obtain ⟨e1,e2,e3⟩:=checkL_cons d2
       simp only [Bool.false_eq_true,false_and,if_false,List.nil_append,Nat.zero_add,List.cons_append] at c1 d1 e1
       rw [htl] at r1
       have r1':(checkN lib c vis).1=false∧(checkN lib b vis).1=(checkN lib a vis).1:=by
        simp [wantT] at r1;exact r1
       have hty':(checkN lib (.mk 83 num name [c,a,b]) vis).1=(checkN lib a vis).1:=by
        rw [hty,r2,htl];simp [wantT]
       rw [hty']
       rw [formedL,formedL,formedL,Bool.and_eq_true,Bool.and_eq_true,Bool.and_eq_true] at hf2
       rw [sizeN,sizeL,sizeL,sizeL,sizeL] at hsz
       simp only [show at' [c,a,b] 0=c from rfl,show at' [c,a,b] 1=a from rfl,show at' [c,a,b] 2=b from rfl] at he ⊢
       have gc:=expr_good lib hl8 c vis env ts hf2.1 c1 hag hts (by omega)
       have lenc:=expr_len lib c env ts
       by_cases hec:(evalN ap lib d c se (fuel - 1) active).err=0
       · rw [if_neg (by simpa using hec)] at he ⊢
         have hC:=H c vis env ts se vals (fuel - 1) active hf2.1 c1 hag hts (by omega) hav hec
         have ga:=expr_good lib hl8 a vis env ((exprN lib c env ts).ts ++ [⟨tname (exprN lib c env ts).ts.length,false⟩]) hf2.2.1 d1 hag (gc.ts.snoc false) (by simp only [List.length_append,List.length_singleton];omega)
         have lena:=expr_len lib a env ((exprN lib c env ts).ts ++ [⟨tname (exprN lib c env ts).ts.length,false⟩])
         simp only [List.length_append,List.length_singleton] at lena
         have gb:=expr_good lib hl8 b vis env (setTy (exprN lib a env ((exprN lib c env ts).ts ++ [⟨tname (exprN lib c env ts).ts.length,false⟩])).ts (exprN lib c env ts).ts.length (exprN lib a env ((exprN lib c env ts).ts ++ [⟨tname (exprN lib c env ts).ts.length,false⟩])).par.list) hf2.2.2.1 e1 hag (ga.ts.set _ _) (by rw [setTy_len];omega)
         have lenb:=expr_len lib b env (setTy (exprN lib a env ((exprN lib c env ts).ts ++ [⟨tname (exprN lib c env ts).ts.length,false⟩])).ts (exprN lib c env ts).ts.length (exprN lib a env ((exprN lib c env ts).ts ++ [⟨tname (exprN lib c env ts).ts.length,false⟩])).par.list)
         rw [setTy_len] at lenb
         have hTs:=ga.ts.set (exprN lib c env ts).ts.length (exprN lib a env ((exprN lib c env ts).ts ++ [⟨tname (exprN lib c env ts).ts.length,false⟩])).par.list
         have hAs:=fun v1 f hav1 h=>H a vis env ((exprN lib c env ts).ts ++ [⟨tname (exprN lib c env ts).ts.length,false⟩]) se v1 f active hf2.2.1 d1 hag (gc.ts.snoc false) (by simp only [List.length_append,List.length_singleton];omega) hav1 h
         have hBs:=fun v1 f hav1 h=>H b vis env (setTy (exprN lib a env ((exprN lib c env ts).ts ++ [⟨tname (exprN lib c env ts).ts.length,false⟩])).ts (exprN lib c env ts).ts.length (exprN lib a env ((exprN lib c env ts).ts ++ [⟨tname (exprN lib c env ts).ts.length,false⟩])).par.list) se v1 f active hf2.2.2.1 e1 hag hTs (by rw [setTy_len];omega) hav1 h
         simp only [List.length_append,List.length_singleton,setTy_len] at hAs hBs
         rw [exprN_if]
         simp only [gc.env,ga.env]
         have gat:=ga.ts
         have gbt:=gb.ts
         generalize hX:exprN lib c env ts=X at *
         generalize hY:exprN lib a env (X.ts ++ [⟨tname X.ts.length,false⟩])=Y at *
         generalize hT:setTy Y.ts X.ts.length Y.par.list=T1 at *
         generalize hZ:exprN lib b env T1=Z at *
         generalize hEc:evalN ap lib d c se (fuel - 1) active=Ec at *
         have n1:(at' T1 X.ts.length).name=tname X.ts.length:=hTs _ (by rw [← hT,setTy_len];omega)
         have n3:(at' T1 X.ts.length).list=Y.par.list:=by rw [← hT,setTy_at (by omega)]
         have n4:(at' (setTy Z.ts X.ts.length Z.par.list) X.ts.length).list=Z.par.list:=by rw [setTy_at (by omega)]
         have n2:(at' (setTy Z.ts X.ts.length Z.par.list) X.ts.length).name=tname X.ts.length:=(gbt.set X.ts.length Z.par.list) _ (by rw [setTy_len];omega)
         simp only [] at he ⊢
         simp only [n1,n2,setTy_len]
         by_cases hz:Ec.val.n≠0
         · rw [if_pos hz] at he ⊢
           obtain ⟨v1,ca,a1,a2,a3,a4,a5,a6⟩:=hC ((evalN ap lib d a se Ec.fuel active).calls ++ rest)
           rw [r1'.1] at a2
           obtain ⟨v2,cb,b1,b2,b3,b4,b5,b6⟩:=hAs v1 Ec.fuel (hav.keep a3 (by omega)) he rest
           refine ⟨v2.put (tname X.ts.length) (v2 Y.par.name),ca+((cb+1)+1),?_,?_,fun s hs=>?_,old_t (by omega),a5.append b5,by rw [costTs_append];omega⟩
           · rw [List.append_assoc]
             refine cexec_append ap lib _ _ _ _ _ _ _ a1 _ _ _ (cexec_if a2.2.1 ?_)
             rw [if_pos (by rw [a2.n];exact hz)]
             exact cexec_append ap lib _ _ _ _ _ _ _ b1 _ _ _ (cexec_var ap lib _ _ _ _ _ (by first|exact (b2.2.1.trans ga.list.symm).trans n3.symm|exact (b2.2.1.trans gb.list.symm).trans n4.symm))
           · rw [put_same];exact b2
           · rw [put_old (by omega) hs,b3 _ (hs.mono (by omega)),a3 s hs]
         · rw [if_neg hz] at he ⊢
           obtain ⟨v1,ca,a1,a2,a3,a4,a5,a6⟩:=hC ((evalN ap lib d b se Ec.fuel active).calls ++ rest)
           rw [r1'.1] at a2
           have hYl:Y.ts.length=T1.length:=by rw [← hT,setTy_len]
           obtain ⟨v2,cb,b1,b2,b3,b4,b5,b6⟩:=hBs v1 Ec.fuel (hav.keep a3 (by omega)) he rest
           refine ⟨v2.put (tname X.ts.length) (v2 Z.par.name),ca+((cb+1)+1),?_,?_,fun s hs=>?_,old_t (by omega),a5.append b5,by rw [costTs_append];omega⟩
           · rw [List.append_assoc]
             refine cexec_append ap lib _ _ _ _ _ _ _ a1 _ _ _ (cexec_if a2.2.1 ?_)
             rw [if_neg (by rw [a2.n];exact hz)]
             exact cexec_append ap lib _ _ _ _ _ _ _ b1 _ _ _ (cexec_var ap lib _ _ _ _ _ (by first|exact (b2.2.1.trans ga.list.symm).trans n3.symm|exact (b2.2.1.trans gb.list.symm).trans n4.symm))
           · rw [put_same,← r1'.2];exact b2
           · rw [put_old (by omega) hs,b3 _ (hs.mono (by omega)),a3 s hs]
       · rw [if_pos hec] at he;exact absurd he hec
   rw [hty,r2]
   by_cases h80:k=80
   · subst h80
     rw [if_pos rfl] at he ⊢
     have hkl:kids.length=0:=by simp [formB] at hf1;simp [hf1.2]
     obtain rfl:kids=[]:=List.eq_nil_of_length_eq_zero hkl
     rw [exprN_op lib num name [] env ts (by omega) (by omega) (by omega)]
     simp only [argsN]
     refine ⟨vals.put (tname ts.length) ⟨false,num,[]⟩,1,?_,?_,fun s hs=>put_old (by omega) hs,old_t (by simp),TrRs.nil _ _,by rw [costTs];omega⟩
     · exact cexec_op (by omega) (by omega) (by simp [chkB]) rfl
     · rw [put_same];exact ⟨rfl,rfl,rfl⟩
   rw [if_neg h80,if_neg h81,if_neg h83,if_neg h84] at he ⊢
   simp only [] at he ⊢
   have gy:=args_good lib hl8 (decide (k=85)) name kids 0 [] vis env ts hf2 hcl hag hts (by rw [sizeN] at hsz;omega)
   have leny:=args_len lib (decide (k=85)) kids env ts
   have hY:=args_semW ap lib hl8 d H (decide (k=85)) name kids 0 [] vis env ts se vals (fuel - 1) active hf2 hcl hag hts (by rw [sizeN] at hsz;omega) hav
   rw [exprN_op lib num name kids env ts h81 h84 h83]
   generalize hYv:argsN lib (decide (k=85)) kids env ts=Y at *
   generalize hR:evalL (fun n f=>evalN ap lib d n se f active) kids (fuel - 1)=R at *
   by_cases hre:R.err=0
   · rw [if_neg (show ¬ R.err≠0 by simpa using hre)] at he ⊢
     obtain ⟨hlen,hlarg,hY⟩:=hY hre
     by_cases h85:k=85
     · subst h85
       rw [if_neg (show ¬ (85:Int)≠85 by simp)] at he ⊢
       simp only [if_true]
       by_cases hact:30≤active
       · rw [if_pos hact] at he;exact absurd he (by simp)
       · rw [if_neg hact] at he ⊢
         have hfind:¬ findF lib name < 0:=by
          intro h0;simp [reachE,h0] at hr
         obtain ⟨f0,f1⟩:=findF_lt hfind
         have hkp:kids.length=(fnAt lib (findF lib name)).params.length:=by
          simp only [reachE] at hr
          rw [if_neg (show ¬ (85:Int)=81 by omega),if_neg (show ¬ (85:Int)=84 by omega),if_true,if_neg hfind] at hr
          by_cases hn:kids.length=(fnAt lib (findF lib name)).params.length
          · exact hn
          · rw [if_pos hn] at hr;omega
         by_cases hye:(evalN ap lib d (fnAt lib (findF lib name)).body (bindPars (fnAt lib (findF lib name)).params R.vals) R.fuel (active+1)).err=0
         · rw [if_neg (show ¬ (evalN ap lib d (fnAt lib (findF lib name)).body (bindPars (fnAt lib (findF lib name)).params R.vals) R.fuel (active+1)).err≠0 by simpa using hye)] at he ⊢
           simp only [] at he ⊢
           obtain ⟨v0,_,_,t2,_,_⟩:=hY []
           have hts':∀ i,i < R.vals.length→(at' R.vals i).list=(at' (fnAt lib (findF lib name)).params i).list:=fun i hi=>by
            have h1:=(t2 i (by omega)).1.1
            rw [h1]
            have h2:=r1
            rw [htl] at h2
            simp only [wantT] at h2
            rw [if_neg (show ¬ (85:Int)=82 by omega),if_neg (show ¬ (85:Int)=83 by omega),if_neg (show ¬ (85:Int)=84 by omega),if_true] at h2
            have h3:=congrArg (fun l=>l[i]?) h2
            simp only [List.getElem?_map] at h3
            rw [List.getElem?_eq_getElem (by omega),List.getElem?_eq_getElem (by omega)] at h3
            simp only [Option.map_some,Option.some.injEq] at h3
            rw [at_eq (by omega),at_eq (by omega)];exact h3
           obtain ⟨s1,s2,s3⟩:=sem_callW hv H f0 f1 (by omega) hts' hye
           obtain ⟨v1,c1,k1,k2,k3,k4,k5⟩:=hY ([.mk (findF lib name) (R.vals.map cleanV) (cleanV (evalN ap lib d (fnAt lib (findF lib name)).body (bindPars (fnAt lib (findF lib name)).params R.vals) R.fuel (active+1)).val) (evalN ap lib d (fnAt lib (findF lib name)).body (bindPars (fnAt lib (findF lib name)).params R.vals) R.fuel (active+1)).calls] ++ rest)
           refine ⟨v1.put (tname Y.ts.length) (cleanV (evalN ap lib d (fnAt lib (findF lib name)).body (bindPars (fnAt lib (findF lib name)).params R.vals) R.fuel (active+1)).val),c1+1,?_,?_,fun s hs=>?_,old_t (by simp),k4.append (TrRs.one s2),by rw [costTs_append,costTs,costTs];omega⟩
           · rw [List.append_assoc]
             refine cexec_append ap lib _ _ _ _ _ _ _ k1 _ _ _ (cexec_call rfl ?_ ((clean_list _).trans s1))
             exact map_at (by omega) (fun i hi=>((k2 i (by omega)).1.clean).symm)
           · rw [put_same]
             have:(wantT lib 85 name (checkL lib false name kids 0 [] vis).1).2=(fnAt lib (findF lib name)).list:=by simp [wantT]
             rw [this]
             exact SamW.of ((clean_list _).trans s1)
           · rw [put_old (by omega) hs,k3 s hs]
         · rw [if_pos hye] at he;exact absurd he hye
     · rw [if_pos h85] at he ⊢
       simp only [] at he ⊢
       simp only [if_neg h85]
       obtain ⟨v1,c1,k1,k2,k3,k4,k5⟩:=hY rest
       have key:∀ v:Vl,chkB ap k num (opList k) Y.args v1=true→resultB ap k num (opList k) Y.args v1=some v→SamW (wantT lib k name (checkL lib false name kids 0 [] vis).1).2 (operateN ap k num R.vals).1 v→∃ vals' c,cexecBs ap lib (Y.bs ++ [.mk (tname Y.ts.length) (opList k) k num ByteArray.empty Y.args [] []]) vals (R.calls ++ rest)=some (vals',rest,c)∧SamW (wantT lib k name (checkL lib false name kids 0 [] vis).1).2 (operateN ap k num R.vals).1 (vals' (tname Y.ts.length))∧(∀ s,OldT ts.length s→vals' s=vals s)∧OldT (Y.ts ++ [(⟨tname Y.ts.length,opList k⟩:Par)]).length (tname Y.ts.length)∧TrRs ap lib R.calls∧c+costTs ap lib R.calls+1≤3 * (fuel - R.fuel):=by
        intro v h0 h1 h2
        refine ⟨v1.put (tname Y.ts.length) v,c1+1,?_,?_,fun s hs=>?_,old_t (by simp),k4,by omega⟩
        · exact cexec_append ap lib _ _ _ _ _ _ _ k1 _ _ _ (cexec_op h83 h85 h0 h1)
        · rw [put_same];exact h2
        · rw [put_old (by omega) hs,k3 s hs]
       rw [htl] at r1
       rw [formB] at hf1
       simp only [if_neg h81,if_neg h84,if_neg h85,if_neg h83,if_neg h80] at hf1
       have ty:∀ i,i < kids.length→∀ b,(wantT lib k name (kids.map fun n=>(checkN lib n vis).1)).1[i]?=some b→SamW b (at' R.vals i) (v1 (at' Y.args i)):=fun i hi b hb=>by
        have h1:=(k2 i hi).1
        rw [← r1,List.getElem?_map,List.getElem?_eq_getElem hi] at hb
        simp only [Option.map_some,Option.some.injEq] at hb
        rw [at_eq hi,hb] at h1
        exact h1
       by_cases h82:k=82
       · subst h82
         rw [if_pos rfl] at hf1
         simp at hf1
         have hk2:kids.length=2:=hf1.2.2.2
         have f0:=(ty 0 (by omega) false rfl).2.1
         have f1:=(ty 1 (by omega) false rfl).2.1
         have t0:=(ty 0 (by omega) false rfl).n
         have t1:=(ty 1 (by omega) false rfl).n
         have he2:(ap num (at' R.vals 0).n (at' R.vals 1).n).2=0:=by simpa [operateN] using he
         refine key ⟨false,(ap num (at' R.vals 0).n (at' R.vals 1).n).1,[]⟩ (by simp [chkB,f0,f1,t0,t1,he2]) ?_ ⟨rfl,rfl,rfl⟩
         simp only [resultB]
         rw [if_neg (by omega),if_neg (by omega),if_true,t0,t1]
       · rw [if_neg h82] at hf1
         by_cases hnn:num≠0∨name.size≠0
         · rw [if_pos hnn] at hf1;simp at hf1
         · rw [if_neg hnn] at hf1
           by_cases h86:k=86
           · subst h86
             exact key ⟨true,0,[]⟩ (by simp [chkB]) rfl ⟨rfl,rfl,rfl⟩
           · rw [if_neg h86] at hf1
             by_cases h1:k=88∨k=89∨k=90
             · rw [if_pos h1] at hf1
               have hk1:kids.length=1:=by simpa using hf1
               rcases h1 with rfl|rfl|rfl
               · have f0:=(ty 0 (by omega) true rfl).2.1
                 have t0:=(ty 0 (by omega) true rfl).l
                 by_cases hz:(at' R.vals 0).l.length=0
                 · simp [operateN,hz] at he
                 · refine key ⟨false,nth (at' R.vals 0).l 0,[]⟩ (by simp [chkB,f0]) ?_ ?_
                   · simp [resultB,t0,hz]
                   · simp [operateN,hz,wantT,SamW]
               · have f0:=(ty 0 (by omega) true rfl).2.1
                 have t0:=(ty 0 (by omega) true rfl).l
                 by_cases hz:(at' R.vals 0).l.length=0
                 · simp [operateN,hz] at he
                 · refine key ⟨true,0,(at' R.vals 0).l.tail⟩ (by simp [chkB,f0]) ?_ ?_
                   · simp [resultB,t0,hz]
                   · simp [operateN,hz,wantT,SamW]
               · have f0:=(ty 0 (by omega) true rfl).2.1
                 have t0:=(ty 0 (by omega) true rfl).l
                 by_cases hz:(at' R.vals 0).l.length=0
                 · refine key ⟨false,1,[]⟩ (by simp [chkB,f0]) ?_ ?_
                   · simp [resultB,t0,hz]
                   · simp [operateN,hz,wantT,SamW]
                 · refine key noVl (by simp [chkB,f0]) ?_ ?_
                   · simp [resultB,t0,hz]
                   · simp [operateN,hz,wantT,SamW,noVl]
             · rw [if_neg h1] at hf1
               by_cases h87:k=87
               · subst h87
                 have hk2:kids.length=2:=by simpa using hf1
                 have f0:=(ty 0 (by omega) false rfl).2.1
                 have f1:=(ty 1 (by omega) true rfl).2.1
                 have t0:=(ty 0 (by omega) false rfl).n
                 have t1:=(ty 1 (by omega) true rfl).l
                 by_cases hz:1000≤(at' R.vals 1).l.length
                 · simp [operateN,hz] at he
                 · refine key ⟨true,0,(at' R.vals 0).n :: (at' R.vals 1).l⟩ (by simp [chkB,f0,f1]) ?_ ?_
                   · simp [resultB,t0,t1]
                   · simp [operateN,hz,wantT,SamW]
               · rw [if_neg h87] at hf1;simp at hf1
   · rw [if_pos hre] at he;exact absurd he hre
end Go.Proofs.YtjhimhlebbamoaaDoor
/- The tree of a call that gives a value:the normal forms follow it;its cost. No program in sight. -/
namespace Go.Proofs.YtjhimhlebbamoaaDoor
theorem start_treeW {lib:List Fn} {name:ByteArray} {args:List Vl} {fuel:Int} (hv:(validE lib).2=0) (he:(startN lib name args fuel).err=0):
 TrR apI lib (startN lib name args fuel).tree∧costT apI lib (startN lib name args fuel).tree≤3 * fuel∧(startN lib name args fuel).tree.args=args.map cleanV:=by
 unfold startN at he ⊢
 rw [if_neg (by omega)] at he ⊢
 by_cases h1:findF lib name < 0
 · rw [if_pos h1] at he;exact absurd he (by simp)
 rw [if_neg h1] at he ⊢
 by_cases h2:args.length≠(fnAt lib (findF lib name)).params.length
 · rw [if_pos h2] at he;exact absurd he (by simp)
 rw [if_neg h2] at he ⊢
 by_cases h3:¬ KindsOk (fnAt lib (findF lib name)).params args
 · rw [if_pos h3] at he;exact absurd he (by simp)
 rw [if_neg h3] at he ⊢
 have h2:=Classical.not_not.1 h2
 have h3:=Classical.not_not.1 h3
 unfold callN at he ⊢
 rw [if_neg (by omega)] at he ⊢
 simp only [] at he ⊢
 by_cases hy:(evalN apI lib (fuel.toNat+1) (fnAt lib (findF lib name)).body (bindPars (fnAt lib (findF lib name)).params args) fuel (0+1)).err≠0
 · rw [if_pos hy] at he;exact absurd he hy
 rw [if_neg hy]
 have hy:=Classical.not_not.1 hy
 have hf:=findF_lt h1
 have hs:=sem_callW hv (semW_ok apI lib hv _) hf.1 hf.2 h2 (fun i hi=>h3 i hi) hy
 have h0:0 < fuel:=by
  rcases Int.lt_or_le 0 fuel with h|h
  · exact h
  · exfalso
    generalize (fnAt lib (findF lib name)).body=bd at hy
    obtain ⟨k,num,nm,kids⟩:=bd
    rw [evalN,if_pos h] at hy
    exact absurd hy (by simp)
 have hn:=eval_nonneg apI lib (fuel.toNat+1) (fnAt lib (findF lib name)).body (bindPars (fnAt lib (findF lib name)).params args) fuel (0+1) (by omega)
 generalize evalN apI lib (fuel.toNat+1) (fnAt lib (findF lib name)).body (bindPars (fnAt lib (findF lib name)).params args) fuel (0+1)=y at *
 refine ⟨hs.2.1,?_,rfl⟩
 have:=hs.2.2
 show costT apI lib (.mk (findF lib name) (args.map cleanV) (cleanV y.val) y.calls)≤3 * fuel
 omega
def wantE (lib:List Fn) (name:ByteArray) (args:List Vl) (fuel g:Int):Int:=
 if (validE lib).2≠0 then (validE lib).2 else if findF lib name < 0 then 21 else if g≠0 then g else (startN lib name args fuel).err
theorem want_eq {lib:List Fn} {name:ByteArray} {kept:List ByteArray} {args:List Vl} {fuel g:Int} (h1:(∃ s ∈ kept,findF lib s < 0)→g=21) (h2:(∀ s ∈ kept,¬ findF lib s < 0)→¬ kept.Nodup→g=22) (h3:(∀ s ∈ kept,¬ findF lib s < 0)→kept.Nodup→g=0):(predN lib name kept args fuel).err=wantE lib name args fuel g:=by
 unfold predN wantE
 by_cases hv:(validE lib).2≠0
 · rw [if_pos hv,if_pos hv]
 rw [if_neg hv,if_neg hv]
 by_cases hf:findF lib name < 0
 · rw [if_pos (.inl hf),if_pos hf]
 rw [if_neg hf]
 by_cases hb:∃ s ∈ kept,findF lib s < 0
 · rw [if_pos (.inr hb),h1 hb,if_pos (by decide)]
 have hb2:∀ s ∈ kept,¬ findF lib s < 0:=fun s hs e=>hb ⟨s,hs,e⟩
 rw [if_neg (fun e=>e.elim hf hb)]
 by_cases hn:kept.Nodup
 · rw [if_neg (fun e=>e hn),h3 hb2 hn,if_neg (show ¬ (0:Int)≠0 by simp)]
   by_cases hs:(startN lib name args fuel).err≠0
   · rw [if_pos hs]
   · rw [if_neg hs]
     exact (Classical.not_not.1 hs).symm
 · rw [if_pos hn,h2 hb2 hn,if_pos (by decide)]
theorem pred_badP {lib:List Fn} {name:ByteArray} {kept:List ByteArray} {args:List Vl} {fuel:Int} (h:(predN lib name kept args fuel).err≠0):(predN lib name kept args fuel).cnt=noCnt∧(predN lib name kept args fuel).gar=0:=by
 unfold predN at h ⊢
 by_cases h1:(validE lib).2≠0
 · rw [if_pos h1];exact ⟨rfl,rfl⟩
 rw [if_neg h1] at h ⊢
 by_cases h2:findF lib name < 0∨(∃ k ∈ kept,findF lib k < 0)
 · rw [if_pos h2];exact ⟨rfl,rfl⟩
 rw [if_neg h2] at h ⊢
 by_cases h3:¬ kept.Nodup
 · rw [if_pos h3];exact ⟨rfl,rfl⟩
 rw [if_neg h3] at h ⊢
 by_cases h4:(startN lib name args fuel).err≠0
 · rw [if_pos h4];exact ⟨rfl,rfl⟩
 rw [if_neg h4] at h
 exact absurd rfl h
theorem gT_root (pu:Tr→Int) (K:Int→Bool) (t:Tr):gT pu K t false=gL pu K t.calls:=by
 obtain ⟨f,args,res,cs⟩:=t
 rw [gT,if_neg (by simp),Int.zero_add]
 rfl
theorem flags_K {lib:List Fn} {kept:List ByteArray} {F:List Bool} (hv:(validE lib).2=0) (hb:∀ s ∈ kept,¬ findF lib s < 0) (hF:∀ i,i < lib.length→(at' F i=true ↔ ∃ s ∈ kept,findF lib s=(i:Int))):∀ i,i < lib.length→at' F i=inK lib kept (i:Int):=fun i hi=>by
 rw [Bool.eq_iff_iff,hF i hi,inK_iff]
 show _ ↔ (at' lib (i:Int).toNat).name ∈ kept
 rw [Int.toNat_natCast]
 constructor
 · rintro ⟨s,hs,e⟩
   have:=(findF_iff hv (hb s hs) hi).2 e.symm
   rw [this];exact hs
 · intro hm
   exact ⟨_,hm,((findF_iff hv (hb _ hm) hi).1 rfl).symm⟩
end Go.Proofs.YtjhimhlebbamoaaDoor
