/- Contracts and plain lemmas (CgQ, CcN, CgR): no statement of the seat is proved here. -/
import Derived.Test.YtpobmoegmdhbpaaGreatDoorXq18
import Derived.Test.YtpobmoegmdhbpaaGreatDoorXq11
import Derived.Lib.AppendZerosOnto
import Derived.WalkSpells
/- Walks of package cleangen:inverse,at an if and at a call. -/
set_option linter.unusedSimpArgs false
set_option linter.unusedVariables false
set_option linter.unusedSectionVars false
set_option maxRecDepth 100000
set_option maxHeartbeats 3200000
namespace Go.Proofs.YtpobmoegmdhbpaaGreatDoor
open Go.RowKit
theorem zft {A:Nat→Prop} {w:World} {ka:Option Addr} {kc:Nat} {x0 x1 x2 x3:Nd} (h:KidsAt A w (.slice ka 4 kc) [x0,x1,x2,x3]):
 ∃ b off a0 c0 a1 c1 a2 c2 a3 c3,ka=some ⟨b,off,none⟩∧4≤kc∧
   NdAt A w (.agg #[.int .u8 x0.kind,.int .i64 x0.num,.string x0.name,.slice a0 x0.kids.length c0]) x0∧NdAt A w (.agg #[.int .u8 x1.kind,.int .i64 x1.num,.string x1.name,.slice a1 x1.kids.length c1]) x1∧
   NdAt A w (.agg #[.int .u8 x2.kind,.int .i64 x2.num,.string x2.name,.slice a2 x2.kids.length c2]) x2∧NdAt A w (.agg #[.int .u8 x3.kind,.int .i64 x3.num,.string x3.name,.slice a3 x3.kids.length c3]) x3∧
   ∀ w1,Below w.heap.size w w1→
     w1.cell? ⟨b,off,none⟩=some (.int .u8 x0.kind)∧w1.cell? ⟨b,off+1,none⟩=some (.int .i64 x0.num)∧w1.cell? ⟨b,off+2,none⟩=some (.string x0.name)∧w1.cell? ⟨b,off+3,none⟩=some (.slice a0 x0.kids.length c0)∧
     w1.cell? ⟨b,off+4,none⟩=some (.int .u8 x1.kind)∧w1.cell? ⟨b,off+4+1,none⟩=some (.int .i64 x1.num)∧w1.cell? ⟨b,off+4+2,none⟩=some (.string x1.name)∧w1.cell? ⟨b,off+4+3,none⟩=some (.slice a1 x1.kids.length c1)∧
     w1.cell? ⟨b,off+8,none⟩=some (.int .u8 x2.kind)∧w1.cell? ⟨b,off+8+1,none⟩=some (.int .i64 x2.num)∧w1.cell? ⟨b,off+8+2,none⟩=some (.string x2.name)∧w1.cell? ⟨b,off+8+3,none⟩=some (.slice a2 x2.kids.length c2)∧
     w1.cell? ⟨b,off+12,none⟩=some (.int .u8 x3.kind)∧w1.cell? ⟨b,off+12+1,none⟩=some (.int .i64 x3.num)∧w1.cell? ⟨b,off+12+2,none⟩=some (.string x3.name)∧w1.cell? ⟨b,off+12+3,none⟩=some (.slice a3 x3.kids.length c3):=by
 obtain ⟨b,off,cap,a0,c0,he,hb,hcap,_,p0,p1,p2,p3,n0⟩:=h.at (j:=0) (by simp)
 simp only [Value.slice.injEq] at he
 obtain ⟨rfl,-,rfl⟩:=he
 obtain ⟨b1,off1,cap1,a1,c1,he,hb1,_,_,q0,q1,q2,q3,n1⟩:=h.at (j:=1) (by simp)
 simp only [Value.slice.injEq,Option.some.injEq,Addr.mk.injEq] at he
 obtain ⟨⟨rfl,rfl,-⟩,-,-⟩:=he
 obtain ⟨b2,off2,cap2,a2,c2,he,hb2,_,_,r0,r1,r2,r3,n2⟩:=h.at (j:=2) (by simp)
 simp only [Value.slice.injEq,Option.some.injEq,Addr.mk.injEq] at he
 obtain ⟨⟨rfl,rfl,-⟩,-,-⟩:=he
 obtain ⟨b3,off3,cap3,a3,c3,he,hb3,_,_,s0,s1,s2,s3,n3⟩:=h.at (j:=3) (by simp)
 simp only [Value.slice.injEq,Option.some.injEq,Addr.mk.injEq] at he
 obtain ⟨⟨rfl,rfl,-⟩,-,-⟩:=he
 simp only [Nat.zero_mul,Nat.add_zero,Nat.reduceMul] at p0 p1 p2 p3 q0 q1 q2 q3 r0 r1 r2 r3 s0 s1 s2 s3
 exact ⟨b,off,a0,c0,a1,c1,a2,c2,a3,c3,rfl,hcap,n0,n1,n2,n3,fun w1 hw=>⟨(hw.cell hb).trans p0,(hw.cell hb).trans p1,(hw.cell hb).trans p2,(hw.cell hb).trans p3,(hw.cell hb).trans q0,(hw.cell hb).trans q1,(hw.cell hb).trans q2,(hw.cell hb).trans q3,(hw.cell hb).trans r0,(hw.cell hb).trans r1,(hw.cell hb).trans r2,(hw.cell hb).trans r3,(hw.cell hb).trans s0,(hw.cell hb).trans s1,(hw.cell hb).trans s2,(hw.cell hb).trans s3⟩⟩
theorem zbb {B:Nat} {w0 w:World} {g:Nat} {x0 x1 x2 x3:Value} (h:Below B w0 w) (hg:B≤g):
 Below B w0 ((((w.setCell ⟨g,0,none⟩ x0).setCell ⟨g,1,none⟩ x1).setCell ⟨g,2,none⟩ x2).setCell ⟨g,3,none⟩ x3):=(((h.setCell hg _).setCell hg _).setCell hg _).setCell hg _
theorem zjU (a b1 b2 d R1 R2:Nd) (H1:Hid (InvOk b1 R1)) (H2:Hid (InvOk b2 R2)):InvOk (nodeN 52 ⟨#[]⟩ [a,b1,b2,d]) (nodeN 52 ⟨#[]⟩ [d,R1,R2,a]):=by
 intro v A w hv
 obtain ⟨_,hlen,ka,kc,he,hk⟩:=hv.open
 have he':v=.agg #[.int .u8 52,.int .i64 0,.string ⟨#[]⟩,.slice ka 4 kc]:=he
 subst he'
 obtain ⟨b,off,a0,c0,a1,c1,a2,c2,a3,c3,rfl,hkc,n0,n1,n2,n3,hcs⟩:=zft hk
 have hA1:Below w.heap.size w (w.alloc (.cells #[.int .u8 52,.int .i64 0,.string ⟨#[]⟩,.slice (some ⟨b,off,none⟩) 4 kc] 34)):=(Below.refl _ _).alloc (Nat.le_refl _) _
 have hA:Below w.heap.size w ((w.alloc (.cells #[.int .u8 52,.int .i64 0,.string ⟨#[]⟩,.slice (some ⟨b,off,none⟩) 4 kc] 34)).alloc (.cells #[.int .u8 0,.int .i64 0,.string ⟨#[]⟩,.slice none 0 0] 34)):=hA1.alloc hA1.size _
 have HX:=Lib.hid (zaI w (.cells #[.int .u8 52,.int .i64 0,.string ⟨#[]⟩,.slice (some ⟨b,off,none⟩) 4 kc] 34) (.cells #[.int .u8 0,.int .i64 0,.string ⟨#[]⟩,.slice none 0 0] 34))
 have HZ:=Lib.hid (zaw w (.cells #[.int .u8 52,.int .i64 0,.string ⟨#[]⟩,.slice (some ⟨b,off,none⟩) 4 kc] 34) (.cells #[.int .u8 0,.int .i64 0,.string ⟨#[]⟩,.slice none 0 0] 34))
 have HSZ:Hid (((w.alloc (.cells #[.int .u8 52,.int .i64 0,.string ⟨#[]⟩,.slice (some ⟨b,off,none⟩) 4 kc] 34)).alloc (.cells #[.int .u8 0,.int .i64 0,.string ⟨#[]⟩,.slice none 0 0] 34)).heap.size=w.heap.size+1+1):=Lib.hid (by simp)
 have HI1:Hid (∀ (v:Value) (A:Nat→Prop) (w:World),NdAt A w v b1→Calls Tryz.prog 83 #[v] w (InvPost R1 A w)):=Lib.hid H1.out
 have HI2:Hid (∀ (v:Value) (A:Nat→Prop) (w:World),NdAt A w v b2→Calls Tryz.prog 83 #[v] w (InvPost R2 A w)):=Lib.hid H2.out
 have HCS:=Lib.hid hcs
 have hst:∀ w1,Below w.heap.size w w1→Stays A (LD A w) w w1:=fun w1 hw=>⟨hw.size,fun b hb a=>⟨hw.block b hb,.inl ⟨a,hb⟩⟩⟩
 have HN0:Hid (∀ w1,Below w.heap.size w w1→NdAt (LD A w) w1 (.agg #[.int .u8 a.kind,.int .i64 a.num,.string a.name,.slice a0 a.kids.length c0]) a):=Lib.hid (fun w1 hw=>n0.stays (hst w1 hw))
 have HN1:Hid (∀ w1,Below w.heap.size w w1→NdAt (LD A w) w1 (.agg #[.int .u8 b1.kind,.int .i64 b1.num,.string b1.name,.slice a1 b1.kids.length c1]) b1):=Lib.hid (fun w1 hw=>n1.stays (hst w1 hw))
 have HN2:Hid (∀ w1,Below w.heap.size w w1→NdAt (LD A w) w1 (.agg #[.int .u8 b2.kind,.int .i64 b2.num,.string b2.name,.slice a2 b2.kids.length c2]) b2):=Lib.hid (fun w1 hw=>n2.stays (hst w1 hw))
 have HN3:Hid (∀ w1,Below w.heap.size w w1→NdAt (LD A w) w1 (.agg #[.int .u8 d.kind,.int .i64 d.num,.string d.name,.slice a3 d.kids.length c3]) d):=Lib.hid (fun w1 hw=>n3.stays (hst w1 hw))
 clear hv hk hA1 hcs n0 n1 n2 n3 he hlen hst
 go_enter Tryz.func83,Tryz.ntmps83
 go_wp2
 generalize ((w.alloc (.cells #[.int .u8 52,.int .i64 0,.string ⟨#[]⟩,.slice (some ⟨b,off,none⟩) 4 kc] 34)).alloc (.cells #[.int .u8 0,.int .i64 0,.string ⟨#[]⟩,.slice none 0 0] 34))=W at *
 have HS0:Hid (∀ w1,Below (w.heap.size+1) W w1→(w1.cell? ⟨w.heap.size,3,none⟩=some (.slice (some ⟨b,off,none⟩) 4 kc))∧
       w1.cell? ⟨b,off,none⟩=some (.int .u8 a.kind)∧w1.cell? ⟨b,off+1,none⟩=some (.int .i64 a.num)∧w1.cell? ⟨b,off+2,none⟩=some (.string a.name)∧w1.cell? ⟨b,off+3,none⟩=some (.slice a0 a.kids.length c0)∧
       w1.cell? ⟨b,off+4,none⟩=some (.int .u8 b1.kind)∧w1.cell? ⟨b,off+4+1,none⟩=some (.int .i64 b1.num)∧w1.cell? ⟨b,off+4+2,none⟩=some (.string b1.name)∧w1.cell? ⟨b,off+4+3,none⟩=some (.slice a1 b1.kids.length c1)∧
       w1.cell? ⟨b,off+8,none⟩=some (.int .u8 b2.kind)∧w1.cell? ⟨b,off+8+1,none⟩=some (.int .i64 b2.num)∧w1.cell? ⟨b,off+8+2,none⟩=some (.string b2.name)∧w1.cell? ⟨b,off+8+3,none⟩=some (.slice a2 b2.kids.length c2)∧
       w1.cell? ⟨b,off+12,none⟩=some (.int .u8 d.kind)∧w1.cell? ⟨b,off+12+1,none⟩=some (.int .i64 d.num)∧w1.cell? ⟨b,off+12+2,none⟩=some (.string d.name)∧w1.cell? ⟨b,off+12+3,none⟩=some (.slice a3 d.kids.length c3)):=Lib.hid (fun w1 hw=>⟨(cells4 ((hw.block w.heap.size (by omega)).trans HX.out)).2.2.2,HCS.out w1 (hA.trans (hw.mono (by omega)))⟩)
 have hWS:w.heap.size+1≤W.heap.size:=by have:=HSZ.out;omega
 go_region_held3 (fun w1=>(w1.cell? ⟨w.heap.size,3,none⟩=some (.slice (some ⟨b,off,none⟩) 4 kc))∧
  w1.cell? ⟨b,off,none⟩=some (.int .u8 a.kind)∧w1.cell? ⟨b,off+1,none⟩=some (.int .i64 a.num)∧w1.cell? ⟨b,off+2,none⟩=some (.string a.name)∧w1.cell? ⟨b,off+3,none⟩=some (.slice a0 a.kids.length c0)∧
  w1.cell? ⟨b,off+4,none⟩=some (.int .u8 b1.kind)∧w1.cell? ⟨b,off+4+1,none⟩=some (.int .i64 b1.num)∧w1.cell? ⟨b,off+4+2,none⟩=some (.string b1.name)∧w1.cell? ⟨b,off+4+3,none⟩=some (.slice a1 b1.kids.length c1)∧
  w1.cell? ⟨b,off+8,none⟩=some (.int .u8 b2.kind)∧w1.cell? ⟨b,off+8+1,none⟩=some (.int .i64 b2.num)∧w1.cell? ⟨b,off+8+2,none⟩=some (.string b2.name)∧w1.cell? ⟨b,off+8+3,none⟩=some (.slice a2 b2.kids.length c2)∧
  w1.cell? ⟨b,off+12,none⟩=some (.int .u8 d.kind)∧w1.cell? ⟨b,off+12+1,none⟩=some (.int .i64 d.num)∧w1.cell? ⟨b,off+12+2,none⟩=some (.string d.name)∧w1.cell? ⟨b,off+12+3,none⟩=some (.slice a3 d.kids.length c3))
  (first|with_reducible exact HS0.out _ (zbb (Below.mono (by (repeat (with_reducible first|exact Below.refl _ _|refine zab ?_|refine zaa ?_|(apply zac;focus assumption)))) hWS) (Nat.le_refl _))|with_reducible exact HS0.out _ (Below.mono (by (repeat (with_reducible first|exact Below.refl _ _|refine zab ?_|refine zaa ?_|(apply zac;focus assumption)))) hWS))
  (first
  | (go_at_call 83;(with_reducible refine (HI1.out (.agg #[.int .u8 b1.kind,.int .i64 b1.num,.string b1.name,.slice a1 b1.kids.length c1]) (LD A w) _ (HN1.out _ (by (repeat (with_reducible first|exact hA|exact Below.refl _ _|refine zab ?_|refine zaa ?_|(apply zac;focus assumption)))))).mono ?_);rintro e w3 ⟨k3,m3,rfl,hk3,hb3⟩)
  | (go_at_call 83;(with_reducible refine (HI2.out (.agg #[.int .u8 b2.kind,.int .i64 b2.num,.string b2.name,.slice a2 b2.kids.length c2]) (LD A w) _ (HN2.out _ (by (repeat (with_reducible first|exact hA|exact Below.refl _ _|refine zab ?_|refine zaa ?_|(apply zac;focus assumption)))))).mono ?_);rintro e w4 ⟨k4,m4,rfl,hk4,hb4⟩)
  | (go_at_call 136;refine (zbx _ _ _ _ _ _).mono ?_;rintro e w5 ⟨rfl,hb5⟩;have hz:=(by (repeat (with_reducible first|exact HZ.out|refine zai ?_|refine zag ?_|(apply zad;focus assumption))):w5.heap[w.heap.size+1]?=some (.cells #[.int .u8 0,.int .i64 0,.string ⟨#[]⟩,.slice none 0 0] 34));obtain ⟨z0,z1,z2,z3⟩:=cells4 hz;have zf:=unfrozen hz;have HZ5:=Lib.hid hz;clear hz))
 all_goals
  go_wp2
  (try simp only [Exit.inBlock,Exit.then])
  refine bodyPost_ret (results_cell_row (P:=Tryz.prog) rfl _ _ (w.heap.size+1) _ _ _ _ rfl (set4 HZ5.out _ _ _ _) Tryz.underlying34 rfl (by kernel_rfl)) rfl ?_
  have hz:=HSZ.out
  have hK4:=(((zaf w5 (w.heap.size+1) 0 (.int .u8 52)).same (zaf _ (w.heap.size+1) 1 (.int .i64 0))).same (zaf _ (w.heap.size+1) 2 (.string ⟨#[]⟩))).same (zaf _ (w.heap.size+1) 3 (.slice (some ⟨w4.heap.size,0,none⟩) 4 4))
  have hw45:Below w4.heap.size w4 w5:=(by (repeat (with_reducible first|exact Below.refl _ _|refine zab ?_|refine zaa ?_|(apply zac;focus assumption))))
  have hw34:Below w3.heap.size w3 w4:=(by (repeat (with_reducible first|exact Below.refl _ _|refine zab ?_|refine zaa ?_|(apply zac;focus assumption))))
  have hw35:=hw34.trans (hw45.mono hw34.size)
  have hw3:Below W.heap.size W w3:=(by (repeat (with_reducible first|exact Below.refl _ _|refine zab ?_|refine zaa ?_|(apply zac;focus assumption))))
  have hw4:=hw3.trans (hw34.mono hw3.size)
  have hw5:=(hA.trans (hw4.mono hA.size)).trans (hw45.mono (Nat.le_trans hA.size hw4.size))
  have hs3:=hw3.size
  have hs4:=hw4.size
  have k3':NdAt (LD A w) w5 _ R1:=hk3.stays ⟨hw35.size,fun b hb a=>⟨hw35.block b hb,by
   rcases a with a|a
   · exact a
   · exact .inr (by (try simp at a);omega)⟩⟩
  have k4':NdAt (LD A w) w5 _ R2:=hk4.stays ⟨hw45.size,fun b hb a=>⟨hw45.block b hb,by
   rcases a with a|a
   · exact a
   · exact .inr (by (try simp at a);omega)⟩⟩
  have hrow:KidsAt (LD A w) w5 (.slice (some ⟨w4.heap.size,0,none⟩) 4 4) [d,R1,R2,a]:=ziA (A:=LD A w) (zad hb5 (heap_alloc_new w4 _)) (.inr (by omega)) (HN3.out _ hw5) k3' k4' (HN0.out _ hw5)
  refine ⟨_,_,rfl,?_,zbb hw5 (by omega)⟩
  exact zam (k:=52) (hrow.stays ⟨hK4.size,fun b hb h=>⟨hK4.block b hb (fun e=>by rcases h with ⟨_,h⟩|h <;> omega),by
   rcases h with ⟨h,_⟩|h
   · exact .inl h
   · exact .inr (by omega)⟩⟩) (by omega) (Nat.zero_le _)
end Go.Proofs.YtpobmoegmdhbpaaGreatDoor
/- slices.Grow at nil,slices.Concat,slices.Clone at trees. -/
namespace Go.Proofs.YtpobmoegmdhbpaaGreatDoor
open Go.RowKit
theorem zok (n:Nat) (w:World) (hn:n≤1000000):
 Calls Tryz.prog 111 #[.slice none 0 0,.int .i64 n] w fun e w'=>∃ a c,e=.returned (.slice a 0 c)∧w'.ownsRow w.heap.size 34 4 (.slice a 0 c) 0 []∧Below w.heap.size w w':=by
 have h1:¬ ((n:Int) < 0):=by omega
 by_cases hp:0 < n
 · obtain ⟨i,hi,hz,hsize,hby⟩:=info_parts TNd.inf
   have hrz:∀ ty,(Builtin.append_ #[32,3] ty #[.slice none 0 0,.int .i64 n]).run Tryz.prog w=_:=fun ty=>
    Lib.run_append_grow_zeros w 32 3 ty 34 i _ .i64 .i64 TNd.und Tryz.underlying3 hi hz none 0 0 [] (run_firstCells_none w.drew i.size 0 0 0) n hp (by omega) (by omega) (by omega) (by rw [hby];omega) (growslice_fits (by omega) (by rw [hby];omega))
   rw [Nat.zero_add] at hrz
   have HG:=grownCap_ge w n 0 34
   have HM:=grownCap_le_maxLen w n 0 34 (by unfold maxLen;omega)
   have hzc:∀ k,(Builtin.zeroCells (.agg #[.int .u8 0,.int .i64 0,.string ByteArray.empty,.slice none 0 0]:Value).cells k).size=k * 4:=fun k=>by simp [Builtin.zeroCells,Value.cells]
   have HOWN:Hid ((w.drew.alloc (.cells (([]:List Value).toArray ++ Builtin.zeroCells (.agg #[.int .u8 0,.int .i64 0,.string ByteArray.empty,.slice none 0 0]:Value).cells n ++ Builtin.zeroCells (.agg #[.int .u8 0,.int .i64 0,.string ByteArray.empty,.slice none 0 0]:Value).cells (grownCap w n 0 34 - n)) 34)).ownsRow w.heap.size 34 4 (.slice (some ⟨w.heap.size,0,none⟩) 0 (grownCap w n 0 34)) 0 []):=Lib.hid
    ⟨rfl,.inr ⟨w.heap.size,_,_,rfl,Nat.le_refl _,heap_alloc_new w.drew _,Nat.zero_le _,HM,by simp only [Array.size_append,hzc];simp;omega,rfl⟩⟩
   generalize (([]:List Value).toArray ++ Builtin.zeroCells (.agg #[.int .u8 0,.int .i64 0,.string ByteArray.empty,.slice none 0 0]:Value).cells n ++ Builtin.zeroCells (.agg #[.int .u8 0,.int .i64 0,.string ByteArray.empty,.slice none 0 0]:Value).cells (grownCap w n 0 34 - n))=C at *
   generalize grownCap w n 0 34=G at *
   have hG:G≤9223372036854775807:=by unfold maxLen at HM;omega
   have hGn:n≤G:=HG
   have h4:(0:Int) < (n:Int):=by omega
   clear HM HG hzc hi hz hsize hby
   go_enter Tryz.func111,Tryz.ntmps111
   go_wp2_with (at_builtin;refine Lib.wpList_append_run _ rfl _ _ _ _ rfl _ _ rfl rfl _ _ (hrz _) ?_)
   go_ret
   exact ⟨_,_,rfl,HOWN.out,((zal (Below.refl _ _) 1).alloc (Nat.le_refl _) _)⟩
 · obtain rfl:n=0:=by omega
   go_enter Tryz.func111,Tryz.ntmps111
   go_wp2
   go_ret
   exact ⟨_,_,rfl,World.ownsRow_nil _ _ _ _,Below.refl _ _⟩
theorem zlQ (g n:Nat) (vs:Nat→Value) (ls:Nat→List Nd) (A:Nat→Prop) (w:World) (hn:n≤10) (hg:g < w.heap.size) (hc:∀ j,j < n→w.cell? ⟨g,j,none⟩=some (vs j)) (hv:∀ j,j < n→RowsAt NdE A w (vs j) (ls j)) (hl:∀ j,j < n→(ls j).length≤100000):
 Calls Tryz.prog 68 #[.slice (some ⟨g,0,none⟩) n n] w fun e w'=>∃ a c,e=.returned (.slice a (catN ls n).length c)∧RowsAt NdE (NewB A w) w' (.slice a (catN ls n).length c) (catN ls n)∧Below w.heap.size w w':=by
 have HC:=Lib.hid hc
 have HV:=Lib.hid hv
 have HLB:=Lib.hid hl
 have HCL:Hid (∀ k,k≤n→(catN ls k).length≤100000 * k):=Lib.hid (fun k hk=>zfB hl hk)
 clear hc hv hl
 go_enter Tryz.func68,Tryz.ntmps68
 go_wp2
 go_loop [3,11] (fun s i=>∃ k:Nat,i=.int .i64 k∧k≤n∧s=.int .i64 (catN ls k).length) (fun _ i=>n - (intOf i).toNat)
 case atStart=>exact ⟨0,rfl,Nat.zero_le _,rfl⟩
 case round=>
  obtain ⟨k,rfl,hk,rfl⟩:=hrel
  have hck:=HCL.out k hk
  by_cases hlt:k < n
  · have c0:=HC.out k hlt
    obtain ⟨_,sa,sc,hs⟩:=(HV.out k hlt).form
    have hlk:=HLB.out k hlt
    rw [hs] at c0
    have HCS:Hid ((catN ls (k+1)).length=(catN ls k).length+(ls k).length):=Lib.hid (by rw [catN,List.length_append])
    clear hs
    go_wp2
    go_round
    case rel=>exact ⟨k+1,by go_num,by omega,by rw [HCS.out];go_num⟩
    case measure=>simp [intOf];omega
  · obtain rfl:k=n:=by omega
    have hlt':¬ (k:Int) < (k:Int):=by omega
    have hck2:(catN ls k).length≤1000000:=by omega
    have HGR:=Lib.hid (zok (catN ls k).length w hck2)
    go_wp2_with (go_at_call 111;refine HGR.out.mono ?_;rintro e w1 ⟨ga,gc,rfl,hown1,hb1⟩;have HO1:=Lib.hid hown1;clear hown1)
    go_loopw [27,6] (fun i v wr=>∃ q:Nat,i=.int .i64 q∧q≤k∧Below w.heap.size w wr∧RowsOwn NdE 34 (fun j=>A j∧j < w.heap.size) w.heap.size wr v (catN ls q)) (fun i _ _=>k - (intOf i).toNat)
    case atStart=>exact ⟨0,rfl,Nat.zero_le _,hb1,⟨[],HO1.out,fun j hj=>by simp [catN] at hj⟩⟩
    case round=>
     obtain ⟨q,rfl,hq,hbl,hown⟩:=hrel
     obtain ⟨va,vc,rfl⟩:=hown.form
     have HOWN:=Lib.hid hown
     have hqk:=HCL.out q hq
     clear hown
     by_cases hlt2:q < k
     · have c0:=(hbl.cell (p:=⟨g,q,none⟩) hg).trans (HC.out q hlt2)
       have hrow:=(HV.out q hlt2)
       obtain ⟨_,sa,sc,hs⟩:=hrow.form
       have hlq:=HLB.out q hlt2
       have HCS:Hid (catN ls (q+1)=catN ls q ++ ls q):=Lib.hid (by rw [catN])
       have HR:Hid (RowsAt NdE (fun j=>A j∧j < w.heap.size) wr (vs q) (ls q)):=Lib.hid (hrow.stays ⟨hbl.size,fun b hb a=>⟨hbl.block b hb,a,hb⟩⟩)
       rw [hs] at c0 HR
       have HD:Hid (∀ b,b < wr.heap.size→(A b∧b < w.heap.size)→(A b∧b < w.heap.size)∧(Value.slice va (catN ls q).length vc).ownBlock≠some b):=Lib.hid (fun b _ a=>⟨a,fun e=>by have:=(HOWN.out.lt e).1;omega⟩)
       clear hs hrow
       go_wp2_with (at_builtin;refine zaF TNd rfl (by decide) rfl (.tmp 31) (.tmp 32) rfl rfl rfl HOWN.out HR.out HD.out (by unfold maxLen;omega) (by omega) hbl.size ?_;intro a' c' w3 h3 hg3 hn3;have H3:=Lib.hid h3;have HG3:Hid (World.grownBy _ w3 (Value.slice va (catN ls q).length vc).ownBlock):=Lib.hid hg3;clear h3 hg3 hn3)
       go_roundw
       case rel=>exact ⟨q+1,by go_num,by omega,hbl.grown HG3.out hbl.size (fun j e=>(HOWN.out.lt e).1),by rw [HCS.out];exact H3.out⟩
       case measure=>simp [intOf];omega
     · obtain rfl:q=k:=by omega
       have hlt2':¬ (q:Int) < (q:Int):=by omega
       go_wp2
       go_ret
       exact ⟨_,_,rfl,HOWN.out.shut (fun j a=>.inl a.1) (fun j e=>.inr (HOWN.out.lt e).1) (by unfold maxLen;omega),hbl⟩
theorem zlD (g:Nat) (v0 v1 v2:Value) (l0 l1 l2:List Nd) (A:Nat→Prop) (w:World) (hg:w.heap[g]?=some (.cells #[v0,v1,v2] 32 (0,0))) (h0:RowsAt NdE A w v0 l0) (h1:RowsAt NdE A w v1 l1) (h2:RowsAt NdE A w v2 l2) (k0:l0.length≤100000) (k1:l1.length≤100000) (k2:l2.length≤100000):
 Calls Tryz.prog 68 #[.slice (some ⟨g,0,none⟩) 3 3] w fun e w'=>∃ a n c,e=.returned (.slice a n c)∧RowsAt NdE (NewB A w) w' (.slice a n c) (l0 ++ l1 ++ l2)∧Below w.heap.size w w':=by
 have hgl:g < w.heap.size:=by rw [Array.getElem?_eq_some_iff] at hg;exact hg.1
 have hcat:catN (fun j=>[l0,l1,l2].getD j []) 3=l0 ++ l1 ++ l2:=by simp [catN]
 refine (zlQ g 3 (fun j=>[v0,v1,v2].getD j undef) (fun j=>[l0,l1,l2].getD j []) A w (by omega) hgl (fun j hj=>?_) (fun j hj=>?_) (fun j hj=>?_)).mono fun e w' h=>?_
 · match j,hj with
   | 0,_=>exact zae hg 0 rfl
   | 1,_=>exact zae hg 1 rfl
   | 2,_=>exact zae hg 2 rfl
 · match j,hj with
   | 0,_=>exact h0
   | 1,_=>exact h1
   | 2,_=>exact h2
 · match j,hj with
   | 0,_=>exact k0
   | 1,_=>exact k1
   | 2,_=>exact k2
 · rw [hcat] at h
   obtain ⟨a,c,he,hr,hb⟩:=h
   exact ⟨a,_,c,he,hr,hb⟩
theorem zhP (v:Value) (l:List Nd) (A:Nat→Prop) (w:World) (hv:RowsAt NdE A w v l) (hl:l.length≤100000):
 Calls Tryz.prog 58 #[v] w fun e w'=>∃ a c,e=.returned (.slice a l.length c)∧RowsOwn NdE 34 (fun j=>A j∧j < w.heap.size) w.heap.size w' (.slice a l.length c) l∧Below w.heap.size w w':=by
 obtain ⟨hll,a,c,rfl⟩:=hv.form
 cases a with
 | none=>
   have hl0:l.length=0∧c=0:=by
    obtain ⟨cs,⟨h0,a',cap',he,h1,h2,h3⟩,_⟩:=hv
    simp only [Value.slice.injEq] at he
    obtain ⟨rfl,-,rfl⟩:=he
    have:=h2 rfl;omega
   obtain ⟨hl0,rfl⟩:=hl0
   have hnil:l=[]:=List.eq_nil_of_length_eq_zero hl0
   subst hnil
   have heq:=fun (w:World)=>Lib.run_eql_slice_nil (P:=Tryz.prog) w 32 34 none 0 0 0 0 Tryz.underlying32
   clear hv hl0
   go_enter Tryz.func58,Tryz.ntmps58
   go_wp2
   go_ret
   exact ⟨_,_,rfl,RowsOwn.nil _ _ _ _ _,Below.refl _ _⟩
 | some ad=>
   have hB:Below w.heap.size w (w.alloc (.cells #[] 34)):=(Below.refl _ _).alloc (Nat.le_refl _) _
   have HV:Hid (RowsAt NdE (fun j=>A j∧j < w.heap.size) (w.alloc (.cells #[] 34)) (.slice (some ad) l.length c) l):=Lib.hid (hv.stays ⟨hB.size,fun b hb a=>⟨hB.block b hb,a,hb⟩⟩)
   have HRW:Hid (RowsOwn NdE 34 (fun j=>A j∧j < w.heap.size) w.heap.size (w.alloc (.cells #[] 34)) (.slice (some ⟨w.heap.size,0,none⟩) 0 0) []):=Lib.hid ⟨[],⟨rfl,.inr ⟨w.heap.size,0,#[],rfl,Nat.le_refl _,heap_alloc_new w _,Nat.le_refl _,by unfold maxLen;omega,rfl,rfl⟩⟩,fun j hj=>by simp at hj⟩
   have HD:Hid (∀ b,b < (w.alloc (.cells #[] 34)).heap.size→(A b∧b < w.heap.size)→(A b∧b < w.heap.size)∧(Value.slice (some ⟨w.heap.size,0,none⟩) 0 0).ownBlock≠some b):=Lib.hid (fun b _ a=>⟨a,fun e=>by simp [Value.ownBlock] at e;omega⟩)
   have heq:=fun (w:World)=>Lib.run_eql_slice_nil (P:=Tryz.prog) w 32 34 (some ad) l.length c 0 0 Tryz.underlying32
   clear hv
   go_enter Tryz.func58,Tryz.ntmps58
   go_wp2_with (at_builtin;refine zaF TNd rfl (by decide) rfl (.tmp 5) (.tmp 6) rfl rfl rfl HRW.out HV.out HD.out (by unfold maxLen;simp;omega) (by simp;omega) (by simp) ?_;intro a' c' w2 hown hg hn;have HO:=Lib.hid hown;have HG:Hid ((w.alloc (.cells #[] 34)).grownBy w2 (some w.heap.size)):=Lib.hid hg;clear hown hg hn)
   go_ret
   have hown:=HO.out
   simp only [List.length_nil,Nat.zero_add,List.nil_append] at hown
   have hBB:Below w.heap.size w w2:=hB.grown HG.out (by simp) (fun k e=>by
    have e2:w.heap.size=k:=by simpa using e
    omega)
   exact ⟨_,_,rfl,hown,hBB⟩
end Go.Proofs.YtpobmoegmdhbpaaGreatDoor
/- Walks of package cleangen:inverse,at a call;inverse at the statements of binds. -/
namespace Go.Proofs.YtpobmoegmdhbpaaGreatDoor
open Go.RowKit
theorem zgN (p:ByteArray) (l:List Nd) (hl:l.length≤100000):InvOk (nodeN 50 p l) (nodeN 51 p l):=by
 intro v A w hv
 obtain ⟨hok,hlen,ka,kc,he,hk⟩:=hv.open
 have he':v=.agg #[.int .u8 50,.int .i64 0,.string p,.slice ka l.length kc]:=he
 subst he'
 have hkk:KidsAt A w (.slice ka l.length kc) l:=hk
 have hp:p.size≤maxLen:=hok.2.2
 have hA1:Below w.heap.size w (w.alloc (.cells #[.int .u8 50,.int .i64 0,.string p,.slice ka l.length kc] 34)):=(Below.refl _ _).alloc (Nat.le_refl _) _
 have hA:Below w.heap.size w ((w.alloc (.cells #[.int .u8 50,.int .i64 0,.string p,.slice ka l.length kc] 34)).alloc (.cells #[.int .u8 0,.int .i64 0,.string ⟨#[]⟩,.slice none 0 0] 34)):=hA1.alloc hA1.size _
 have HX:=Lib.hid (zaI w (.cells #[.int .u8 50,.int .i64 0,.string p,.slice ka l.length kc] 34) (.cells #[.int .u8 0,.int .i64 0,.string ⟨#[]⟩,.slice none 0 0] 34))
 have HZ:=Lib.hid (zaw w (.cells #[.int .u8 50,.int .i64 0,.string p,.slice ka l.length kc] 34) (.cells #[.int .u8 0,.int .i64 0,.string ⟨#[]⟩,.slice none 0 0] 34))
 have HSZ:Hid (((w.alloc (.cells #[.int .u8 50,.int .i64 0,.string p,.slice ka l.length kc] 34)).alloc (.cells #[.int .u8 0,.int .i64 0,.string ⟨#[]⟩,.slice none 0 0] 34)).heap.size=w.heap.size+1+1):=Lib.hid (by simp)
 have HK:Hid (∀ w1,Below w.heap.size w w1→RowsAt NdE (LD A w) w1 (.slice ka l.length kc) l):=Lib.hid (fun w1 hw=>(zar.1 hkk).stays ⟨hw.size,fun b hb a=>⟨hw.block b hb,.inl ⟨a,hb⟩⟩⟩)
 clear hv hk hkk hA1 he hlen hok
 go_enter Tryz.func83,Tryz.ntmps83
 go_wp2
 generalize ((w.alloc (.cells #[.int .u8 50,.int .i64 0,.string p,.slice ka l.length kc] 34)).alloc (.cells #[.int .u8 0,.int .i64 0,.string ⟨#[]⟩,.slice none 0 0] 34))=W at *
 have hWS:w.heap.size+1≤W.heap.size:=by have:=HSZ.out;omega
 have HS0:Hid (∀ w1,Below (w.heap.size+1) W w1→w1.cell? ⟨w.heap.size,2,none⟩=some (.string p)∧w1.cell? ⟨w.heap.size,3,none⟩=some (.slice ka l.length kc)):=Lib.hid (fun w1 hw=>(cells4 ((hw.block w.heap.size (by omega)).trans HX.out)).2.2)
 go_region_held3 (fun w1=>w1.cell? ⟨w.heap.size,2,none⟩=some (.string p)∧w1.cell? ⟨w.heap.size,3,none⟩=some (.slice ka l.length kc))
  (first|with_reducible exact HS0.out _ (zbb (Below.mono (by (repeat (with_reducible first|exact Below.refl _ _|refine zab ?_|refine zaa ?_|(apply zac;focus assumption)))) hWS) (Nat.le_refl _))|with_reducible exact HS0.out _ (Below.mono (by (repeat (with_reducible first|exact Below.refl _ _|refine zab ?_|refine zaa ?_|(apply zac;focus assumption)))) hWS))
  (first
  | (go_at_call 58;refine (zhP (.slice ka l.length kc) l (LD A w) _ (HK.out _ (by (repeat (with_reducible first|exact hA|exact Below.refl _ _|refine zab ?_|refine zaa ?_|(apply zac;focus assumption))))) hl).mono ?_;rintro e w3 ⟨a3,c3,rfl,hk3,hb3⟩)
  | (go_at_call 136;refine (zbx _ _ _ _ _ _).mono ?_;rintro e w5 ⟨rfl,hb5⟩;have hz:=(by (repeat (with_reducible first|exact HZ.out|refine zai ?_|refine zag ?_|(apply zad;focus assumption))):w5.heap[w.heap.size+1]?=some (.cells #[.int .u8 0,.int .i64 0,.string ⟨#[]⟩,.slice none 0 0] 34));obtain ⟨z0,z1,z2,z3⟩:=cells4 hz;have zf:=unfrozen hz;have HZ5:=Lib.hid hz;clear hz))
 all_goals
  go_wp2
  (try simp only [Exit.inBlock,Exit.then])
  refine bodyPost_ret (results_cell_row (P:=Tryz.prog) rfl _ _ (w.heap.size+1) _ _ _ _ rfl (set4 HZ5.out _ _ _ _) Tryz.underlying34 rfl (by kernel_rfl)) rfl ?_
  have hz:=HSZ.out
  have hK4:=(((zaf w5 (w.heap.size+1) 0 (.int .u8 51)).same (zaf _ (w.heap.size+1) 1 (.int .i64 0))).same (zaf _ (w.heap.size+1) 2 (.string p))).same (zaf _ (w.heap.size+1) 3 (.slice a3 l.length c3))
  have hw35:Below w3.heap.size w3 w5:=(by (repeat (with_reducible first|exact Below.refl _ _|refine zab ?_|refine zaa ?_|(apply zac;focus assumption))))
  have hw3:Below W.heap.size W w3:=(by (repeat (with_reducible first|exact Below.refl _ _|refine zab ?_|refine zaa ?_|(apply zac;focus assumption))))
  have hw5:=(hA.trans (hw3.mono hA.size)).trans (hw35.mono (Nat.le_trans hA.size hw3.size))
  have hkr:KidsAt (LD A w) w5 (.slice a3 l.length c3) l:=zar.2 ((hk3.shut (A:=LD A w) (fun k a=>a.1) (fun k e=>.inr (by have:=(hk3.lt e).1;(try simp at this);omega)) (by unfold maxLen;omega)).stays (Stays.of_below hw35))
  refine ⟨_,_,rfl,?_,zbb hw5 (by omega)⟩
  exact zam (k:=51) (hkr.stays ⟨hK4.size,fun b hb h=>⟨hK4.block b hb (fun e=>by rcases h with ⟨_,h⟩|h <;> omega),by
   rcases h with ⟨h,_⟩|h
   · exact .inl h
   · exact .inr (by omega)⟩⟩) (by omega) hp
theorem zcw (l:List Nd) (h:∀ s ∈ l,InvOk s (invN s)) (hl:l.length≤100000):InvOk (blockN l) (blockN (invL l).reverse):=
 zfM 0 ByteArray.empty l (invL l) (zee l) hl (Lib.hid fun j hj=>by rw [zkl l hj];exact h _ (zaT hj))
theorem zcK (l:List Nd):invN (blockN l)=blockN (invL l).reverse:=by rw [blockN,nodeN,invN,invK,if_pos rfl];rfl
theorem zjQ {n:Nd} (h:CS n):InvOk n (invN n):=by
 induction h with
 | plus s e hs he h57 hz=>exact zlS s e hs he h57 hz
 | call p args hl=>
   have e:invN (callN p args)=nodeN 51 p (args.map vN):=by rw [callN,nodeN,invN,invK];rfl
   rw [e]
   exact zgN p _ (by simp;omega)
 | cond a d l1 l2 h1 h2 n1 n2 ih1 ih2=>
   have e:invN (nodeN 52 ByteArray.empty [a,blockN l1,blockN l2,d])=nodeN 52 ByteArray.empty [d,invN (blockN l1),invN (blockN l2),a]:=by
    have:∀ x y z u:Nd,invN (nodeN 52 ByteArray.empty [x,y,z,u])=nodeN 52 ByteArray.empty [u,invN y,invN z,x]:=fun x y z u=>by
     rw [nodeN,invN,invK];simp [invL,at',nodeN]
    exact this _ _ _ _
   rw [e,zcK,zcK]
   exact zjU a _ _ d _ _ (Lib.hid (zcw l1 ih1 n1)) (Lib.hid (zcw l2 ih2 n2))
 | loc a c k k' s hk hs ha hc ka kc za zc=>exact znS a c k k' s hk hs ha hc ka kc za zc
end Go.Proofs.YtpobmoegmdhbpaaGreatDoor
