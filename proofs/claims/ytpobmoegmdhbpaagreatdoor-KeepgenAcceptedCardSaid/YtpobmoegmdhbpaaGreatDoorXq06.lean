/- Contracts and plain lemmas (AnfR, AnfS, AnfT): no statement of the seat is proved here. -/
import Derived.Test.YtpobmoegmdhbpaaGreatDoorXq04
import Derived.Test.YtpobmoegmdhbpaaGreatDoorXq05
import Derived.Test.YtpobmoegmdhbpaaGreatDoorXq03
import Derived.WalkSpells
import Derived.Deep.DeepCutAuto
/- Walks of package anf:slices.Clone at parameters,and what normalize leaves. -/
set_option linter.unusedSimpArgs false
set_option linter.unusedVariables false
set_option linter.unusedSectionVars false
set_option maxRecDepth 100000
set_option maxHeartbeats 6400000
namespace Go.Proofs.YtpobmoegmdhbpaaGreatDoor
open Go.RowKit
theorem zeL {A:Nat→Prop} {w:World} {base:Nat} {v:Value} {l:List Par} (h:w.ownsRow base 97 2 v l.length (parCells l)) (hA:∀ k,v.ownBlock=some k→A k) (hl:l.length≤maxLen) (hs:∀ j,(at' l j).name.size≤maxLen):ParsAt A w v l:=by
 refine ⟨fun j i=>if i=0 then .string (at' l j).name else .bool (at' l j).list,⟨hl,?_⟩,fun j hj=>⟨rfl,rfl,hs j⟩⟩
 obtain ⟨h0,⟨rfl,h1⟩|⟨g,cap,cur,rfl,hg,hh,hn,hm,hc,ht⟩⟩:=id h
 · exact ⟨none,0,by rw [h1],by omega,fun _=>rfl,fun h=>by omega⟩
 · refine ⟨_,cap,rfl,hn,nofun,fun hp=>⟨g,0,rfl,by rw [Array.getElem?_eq_some_iff] at hh;exact hh.1,hA g rfl,fun j hj i hi=>?_⟩⟩
   obtain ⟨g',cap',cur',he,_,_,_,_,_,_,hcl⟩:=zeq h (by omega)
   simp only [Value.slice.injEq,Option.some.injEq,Addr.mk.injEq,and_true] at he
   obtain ⟨rfl,-,-⟩:=he
   obtain ⟨m0,m1⟩:=zbD l j hj
   match i,hi with
   | 0,_=>have:=hcl _ _ m0;simpa using this
   | 1,_=>have:=hcl _ _ m1;simpa using this
theorem ParsAt.cells {A:Nat→Prop} {w:World} {a:Addr} {l:List Par} {c:Nat} (h:ParsAt A w (.slice (some a) l.length c) l) (hp:0 < l.length):∀ j u,(parCells l)[j]?=some u→w.cell? (a.add j)=some u:=by
 intro j u hj
 have hjl:j < l.length * 2:=by
  rw [← zdV]
  rcases Nat.lt_or_ge j (parCells l).length with h|h
  · exact h
  · rw [List.getElem?_eq_none h] at hj;simp at hj
 obtain ⟨b,off,cap,he,hb,_,_,c0,c1,_⟩:=h.at (j:=j / 2) (by omega)
 simp only [Value.slice.injEq,Option.some.injEq] at he
 obtain ⟨rfl,-,-⟩:=he
 obtain ⟨m0,m1⟩:=zbD l (j / 2) (by omega)
 have ea:(⟨b,off,none⟩:Addr).add j=⟨b,off+j,none⟩:=by
  simp only [Addr.add];split
  · subst_vars;rfl
  · rfl
 rw [ea]
 rcases Nat.mod_two_eq_zero_or_one j with e|e
 · have e2:j / 2 * 2=j:=by omega
   rw [e2] at m0 c0
   rw [hj] at m0
   simp only [Option.some.injEq] at m0
   rw [c0,m0]
 · have e2:j / 2 * 2+1=j:=by omega
   rw [e2] at m1
   rw [show off+j / 2 * 2+1=off+j by omega] at c1
   rw [hj] at m1
   simp only [Option.some.injEq] at m1
   rw [c1,m1]
theorem ziY (v:Value) (l:List Par) (A:Nat→Prop) (w:World) (hv:ParsAt A w v l) (hl:l.length≤100000):
 Calls Tryz.prog 101 #[v] w fun e w'=>∃ v',e=.returned v'∧ParsAt (fun k=>v'.ownBlock=some k) w' v' l∧Below w.heap.size w w'∧(∀ k,v'.ownBlock=some k→w.heap.size≤k∧k < w'.heap.size):=by
 obtain ⟨hll,a,c,rfl⟩:=hv.form
 have hsm:∀ j,(at' l j).name.size≤maxLen:=fun j=>by
  by_cases hj:j < l.length
  · obtain ⟨_,_,_,_,_,_,_,_,_,h⟩:=hv.at hj;exact h
  · have:at' l j=default:=by simp only [at',List.getD_eq_getElem?_getD];rw [List.getElem?_eq_none (by omega)];rfl
    rw [this];exact Nat.zero_le _
 have HSM:=Lib.hid hsm
 clear hsm
 cases a with
 | none=>
   have hl0:l.length=0:=by
    obtain ⟨cs,⟨h0,a',cap',he,h1,h2,h3⟩,_⟩:=hv
    simp only [Value.slice.injEq] at he
    obtain ⟨rfl,-,rfl⟩:=he
    have:=h2 rfl;omega
   have hnil:l=[]:=List.eq_nil_of_length_eq_zero hl0
   subst hnil
   have hc0:c=0:=by
    obtain ⟨cs,⟨h0,a',cap',he,h1,h2,h3⟩,_⟩:=hv
    simp only [Value.slice.injEq] at he
    obtain ⟨rfl,-,rfl⟩:=he
    exact h2 rfl
   subst hc0
   have heq:=fun (w:World)=>Lib.run_eql_slice_nil (P:=Tryz.prog) w 41 97 none 0 0 0 0 Tryz.underlying41
   go_enter Tryz.func101,Tryz.ntmps101
   go_wp2
   go_ret
   exact ⟨_,rfl,⟨fun _ _=>undef,RowAt.empty _ _ _,fun j hj=>by simp at hj⟩,Below.refl _ _,fun k e=>by simp [Value.ownBlock] at e⟩
 | some ad=>
   have HV:=Lib.hid hv
   clear hv
   have hB:Below w.heap.size w (w.alloc (.cells #[] 97)):=(Below.refl _ _).alloc (Nat.le_refl _) _
   have HRW:Hid ((w.alloc (.cells #[] 97)).ownsRow w.heap.size 97 2 (.slice (some ⟨w.heap.size,0,none⟩) 0 0) 0 []):=Lib.hid ⟨rfl,.inr ⟨w.heap.size,0,#[],rfl,Nat.le_refl _,heap_alloc_new w _,Nat.le_refl _,by unfold maxLen;omega,rfl,rfl⟩⟩
   have HSRC:Hid (Value.slice (some ad) l.length c=.slice none 0 0∧l.length=0∧parCells l=[]∨∃ ad' c',Value.slice (some ad) l.length c=.slice (some ad') l.length c'∧∀ j u,(parCells l)[j]?=some u→(w.alloc (.cells #[] 97)).cell? (ad'.add j)=some u):=Lib.hid (by
    refine .inr ⟨ad,c,rfl,?_⟩
    by_cases hp:0 < l.length
    · exact (HV.out.stays (Stays.of_below hB)).cells hp
    · obtain rfl:l=[]:=List.eq_nil_of_length_eq_zero (by omega)
      intro j u hj;simp [parCells] at hj)
   have heq:=fun (w:World)=>Lib.run_eql_slice_nil (P:=Tryz.prog) w 41 97 (some ad) l.length c 0 0 Tryz.underlying41
   go_enter Tryz.func101,Tryz.ntmps101
   go_wp2_with (at_builtin;refine zbk TPar rfl (by decide) rfl (.tmp 5) (.tmp 6) rfl rfl rfl HRW.out HSRC.out (zdV l) (by intro u hu;simp only [parCells,List.mem_flatMap] at hu;obtain ⟨p,_,hp⟩:=hu;simp at hp;rcases hp with rfl|rfl <;> rfl) (by unfold maxLen;omega) (by omega) (by simp) ?_;intro v' w2 hown hg hn;have HO:=Lib.hid hown;have HG:Hid ((w.alloc (.cells #[] 97)).grownBy w2 (some w.heap.size)):=Lib.hid hg;clear hown hg hn)
   go_ret
   have hown:=HO.out
   rw [Nat.zero_add,List.nil_append] at hown
   have hBB:Below w.heap.size w w2:=hB.grown HG.out (by simp) (fun k e=>by
    have e2:w.heap.size=k:=by simpa using e
    omega)
   exact ⟨_,rfl,zeL hown (fun _ e=>e) hll HSM.out,hBB,fun k e=>hown.lt k e⟩
end Go.Proofs.YtpobmoegmdhbpaaGreatDoor
/- Walks of package anf:normalize. -/
namespace Go.Proofs.YtpobmoegmdhbpaaGreatDoor
open Go.RowKit
theorem zdY (l:List Par) (k:Nat) (h:k < l.length):parsEnv (l.take (k+1))=(parsEnv (l.take k)).put (at' l k).name (at' l k):=by
 rw [List.take_add_one,List.getElem?_eq_getElem h,parsEnv,parsEnv,List.foldl_append,zax h];rfl
theorem zce (l:List Par) (h:∀ j,j < l.length→(at' l j).name.size≤maxLen):∀ k,k≤l.length→SmallE (parsEnv (l.take k))
 | 0,_=>fun s p e=>by simp [parsEnv] at e
 | k+1,hk=>by rw [zdY l k (by omega)];exact (zce l h k (by omega)).put _ (h k (by omega))
def NmA (w:World) (f:Fn) (pa ka:Option Addr) (pc kc:Nat) (s5:Value) (wx:World):Prop:=
 ∃ bo pv,s5=.pointer (some ⟨bo,0,none⟩)∧Below w.heap.size w wx∧w.heap.size+1 < bo∧wx.heap[bo]?=some (.cells #[.string f.name,pv,.bool f.list,.slice none 0 0,.slice none 0 0,.string ⟨#[]⟩] 44 (0,0))∧
   ParsAt (fun k=>pv.ownBlock=some k) wx pv f.params∧(∀ k,pv.ownBlock=some k→w.heap.size+1 < k∧k≠bo∧k < wx.heap.size)∧(∃ a c,pv=.slice a f.params.length c)∧
   wx.heap[w.heap.size]?=some (.cells #[.string f.name,.slice pa f.params.length pc,.bool f.list,.int .u8 f.body.kind,.int .i64 f.body.num,.string f.body.name,.slice ka f.body.kids.length kc] 94 (0,0))∧
   wx.heap[w.heap.size+1]?=some (.cells #[.string ⟨#[]⟩,.slice none 0 0,.bool false,.slice none 0 0,.slice none 0 0,.string ⟨#[]⟩] 44 (0,0))
theorem nmA1 {w W w1:World} {f:Fn} {pa ka av:Option Addr} {pc kc cv:Nat} (hA:Below w.heap.size w W) (hWs:W.heap.size=w.heap.size+1+1) (n0:W.heap[w.heap.size]?=some (.cells #[.string f.name,.slice pa f.params.length pc,.bool f.list,.int .u8 f.body.kind,.int .i64 f.body.num,.string f.body.name,.slice ka f.body.kids.length kc] 94 (0,0))) (n1:W.heap[w.heap.size+1]?=some (.cells #[.string ⟨#[]⟩,.slice none 0 0,.bool false,.slice none 0 0,.slice none 0 0,.string ⟨#[]⟩] 44 (0,0))) (hb1:Below W.heap.size W w1)
 (hpv:ParsAt (fun k=>(Value.slice av f.params.length cv).ownBlock=some k) w1 (.slice av f.params.length cv) f.params) (hpk:∀ k,(Value.slice av f.params.length cv).ownBlock=some k→W.heap.size≤k∧k < w1.heap.size):
 NmA w f pa ka pc kc (.pointer (some ⟨w1.heap.size,0,none⟩)) (w1.alloc (.cells #[.string f.name,.slice av f.params.length cv,.bool f.list,.slice none 0 0,.slice none 0 0,.string ⟨#[]⟩] 44 (0,0))):=by
 have hB:Below w1.heap.size w1 (w1.alloc (.cells #[.string f.name,.slice av f.params.length cv,.bool f.list,.slice none 0 0,.slice none 0 0,.string ⟨#[]⟩] 44 (0,0))):=(Below.refl _ _).alloc (Nat.le_refl _) _
 have hz:=hb1.size
 have hz2:=hB.size
 have hbW:Below W.heap.size W (w1.alloc (.cells #[.string f.name,.slice av f.params.length cv,.bool f.list,.slice none 0 0,.slice none 0 0,.string ⟨#[]⟩] 44 (0,0))):=hb1.trans (hB.mono hz)
 refine ⟨_,_,rfl,hA.trans (hbW.mono hA.size),by omega,heap_alloc_new w1 _,hpv.stays ⟨hB.size,fun b hb a=>⟨hB.block b hb,a⟩⟩,fun k e=>?_,⟨_,_,rfl⟩,(hbW.block _ (by omega)).trans n0,(hbW.block _ (by omega)).trans n1⟩
 have:=hpk k e
 exact ⟨by omega,by omega,by omega⟩
theorem nmA2 {w W w1:World} {f:Fn} {pa ka av:Option Addr} {pc kc cv:Nat} (hA:Below w.heap.size w W) (hWs:W.heap.size=w.heap.size+1+1) (n0:W.heap[w.heap.size]?=some (.cells #[.string f.name,.slice pa f.params.length pc,.bool f.list,.int .u8 f.body.kind,.int .i64 f.body.num,.string f.body.name,.slice ka f.body.kids.length kc] 94 (0,0))) (n1:W.heap[w.heap.size+1]?=some (.cells #[.string ⟨#[]⟩,.slice none 0 0,.bool false,.slice none 0 0,.slice none 0 0,.string ⟨#[]⟩] 44 (0,0))) (hb1:Below W.heap.size W w1)
 (hpv:ParsAt (fun k=>(Value.slice av f.params.length cv).ownBlock=some k) w1 (.slice av f.params.length cv) f.params) (hpk:∀ k,(Value.slice av f.params.length cv).ownBlock=some k→W.heap.size < k∧k < w1.heap.size) (hzb:w1.heap[W.heap.size]?=some (.cells #[.string ⟨#[]⟩,.slice none 0 0,.bool false,.slice none 0 0,.slice none 0 0,.string ⟨#[]⟩] 44 (0,0))):
 NmA w f pa ka pc kc (.pointer (some ⟨W.heap.size,0,none⟩)) ((((((w1.setCell ⟨W.heap.size,0,none⟩ (.string f.name)).setCell ⟨W.heap.size,1,none⟩ (.slice av f.params.length cv)).setCell ⟨W.heap.size,2,none⟩ (.bool f.list)).setCell ⟨W.heap.size,3,none⟩ (.slice none 0 0)).setCell ⟨W.heap.size,4,none⟩ (.slice none 0 0)).setCell ⟨W.heap.size,5,none⟩ (.string ⟨#[]⟩)):=by
 have hK:Keeps w1 ((((((w1.setCell ⟨W.heap.size,0,none⟩ (.string f.name)).setCell ⟨W.heap.size,1,none⟩ (.slice av f.params.length cv)).setCell ⟨W.heap.size,2,none⟩ (.bool f.list)).setCell ⟨W.heap.size,3,none⟩ (.slice none 0 0)).setCell ⟨W.heap.size,4,none⟩ (.slice none 0 0)).setCell ⟨W.heap.size,5,none⟩ (.string ⟨#[]⟩)) (fun k=>k=W.heap.size):=(((((zaf w1 W.heap.size 0 (.string f.name)).same (zaf _ W.heap.size 1 (.slice av f.params.length cv))).same (zaf _ W.heap.size 2 (.bool f.list))).same (zaf _ W.heap.size 3 (.slice none 0 0))).same (zaf _ W.heap.size 4 (.slice none 0 0))).same (zaf _ W.heap.size 5 (.string ⟨#[]⟩))
 have hz:=hb1.size
 have h6:=heap_setCell_same _ W.heap.size 5 _ _ (.string ⟨#[]⟩) (heap_setCell_same _ W.heap.size 4 _ _ (.slice none 0 0) (heap_setCell_same _ W.heap.size 3 _ _ (.slice none 0 0) (heap_setCell_same _ W.heap.size 2 _ _ (.bool f.list) (heap_setCell_same _ W.heap.size 1 _ _ (.slice av f.params.length cv) (heap_setCell_same w1 W.heap.size 0 _ _ (.string f.name) hzb)))))
 simp only [List.setIfInBounds_toArray,List.set_cons_zero,List.set_cons_succ] at h6
 have hlt:W.heap.size < w1.heap.size:=by rw [Array.getElem?_eq_some_iff] at hzb;exact hzb.1
 have hbW:Below W.heap.size W ((((((w1.setCell ⟨W.heap.size,0,none⟩ (.string f.name)).setCell ⟨W.heap.size,1,none⟩ (.slice av f.params.length cv)).setCell ⟨W.heap.size,2,none⟩ (.bool f.list)).setCell ⟨W.heap.size,3,none⟩ (.slice none 0 0)).setCell ⟨W.heap.size,4,none⟩ (.slice none 0 0)).setCell ⟨W.heap.size,5,none⟩ (.string ⟨#[]⟩)):=hb1.trans (hK.below (fun k e=>by omega) hz)
 refine ⟨_,_,rfl,hA.trans (hbW.mono hA.size),by omega,h6,hpv.stays (hK.stays (fun k a _ e=>by have:=(hpk k a).1;omega)),fun k e=>?_,⟨_,_,rfl⟩,(hbW.block _ (by omega)).trans n0,(hbW.block _ (by omega)).trans n1⟩
 have:=hpk k e
 have:=hK.size
 exact ⟨by omega,by omega,by omega⟩
def TabK (k:Nat):Prop:=Tryz.prog.globalNamed "internal/strconv.uint64pow10"=some k
def NewA (A:Nat→Prop) (w:World) (k:Nat):Prop:=A k∨w.heap.size≤k∨TabK k
theorem zmA {w wr:World} {A:Nat→Prop} {bo bm bV N:Nat} {lib:List Fn} {env:Env} {c0 pv c2 c5 lv:Value} (hl:FnsAt A w lv lib) (hbl:Below w.heap.size w wr) (hbo:wr.heap[bo]?=some (.cells #[c0,pv,c2,.slice none 0 0,.slice none 0 0,c5] 44 (0,0))) (hvis:VisB wr bV bo bm lv)
 (hm:SMapLe Tryz.prog 9 wr bm (fun s=>(env s).map parV) N) (ht:Tab w) (d1:w.heap.size≤bo) (d2:w.heap.size≤bm) (d4:bV≠bo) (d5:bV≠bm) (d6:bo≠bm) (hpk:∀ k,pv.ownBlock=some k→k≠bo∧k≠bm∧k < wr.heap.size):
 St ⟨bV,bo,bm,c0,pv,c2,c5,lv,lib⟩ bo 4 (fun k=>(A k∧k < w.heap.size)∨k=bV∨pv.ownBlock=some k∨TabK k) wr (.slice none 0 0) (.slice none 0 0) (.slice none 0 0) [] [] env N:=by
 have hnone:∀ k,(Value.slice none 0 0).ownBlock≠some k:=fun k e=>by simp [Value.ownBlock] at e
 exact {
  out:=⟨hbo,World.ownsRow_nil _ _ _ _,hnone _⟩
  vis:=hvis
  lib:=hl.stays ⟨hbl.size,fun b hb a=>⟨hbl.block b hb,.inl ⟨a,hb⟩⟩⟩
  map:=hm
  ptr:=.inl ⟨rfl,rfl,rfl⟩
  row:=BdsOwn.nil _
  tab:=ht.below hbl
  tabA:=fun g e=>.inr (.inr (.inr e))
  visA:=.inr (.inl rfl)
  alt:=fun k a=>by
   rcases a with a|a|a|a
   · exact Nat.lt_of_lt_of_le a.2 hbl.size
   · subst a;exact hvis.lt
   · exact (hpk k a).2.2
   · exact Nat.lt_of_lt_of_le (ht.lt k a) hbl.size
  mutA:=fun k m a=>by
   have:k=bo∨k=bm:=by
    rcases m with e|e|e|e|e
    · exact .inl e
    · exact .inr e
    · exact .inl e
    · exact absurd e (hnone k)
    · exact absurd e (hnone k)
   rcases a with a|a|a|a
   · omega
   · omega
   · have:=hpk k a;omega
   · have:=ht.lt k a;omega
  bobm:=d6
  pbbm:=d6
  tvbm:=hnone _
  tvpb:=hnone _
  bvbo:=hnone _
  bvbm:=hnone _
  bvpb:=hnone _
  sep:=fun k e _=>hnone k e }
theorem zfS (lv:Value) (lib:List Fn) (f:Fn) (pa ka:Option Addr) (pc kc:Nat) (A:Nat→Prop) (w:World) (hl:FnsAt A w lv lib) (hp:ParsAt A w (.slice pa f.params.length pc) f.params) (hb:NdAt A w (.agg #[.int .u8 f.body.kind,.int .i64 f.body.num,.string f.body.name,.slice ka f.body.kids.length kc]) f.body)
 (hname:f.name.size≤maxLen) (hform:formedN f.body=true) (hkn:knownN lib f.body=true) (hsz:sizeN f.body≤20000) (hpl:f.params.length≤1000) (ht:Tab w):
 Calls Tryz.prog 55 #[lv,.agg #[.string f.name,.slice pa f.params.length pc,.bool f.list,.int .u8 f.body.kind,.int .i64 f.body.num,.string f.body.name,.slice ka f.body.kids.length kc]] w fun e w'=>
  ∃ pv tv bv,e=.returned (.agg #[.string f.name,pv,.bool f.list,tv,bv,.string (normF lib f).result])∧ParsAt (NewA A w) w' pv f.params∧ParsAt (NewA A w) w' tv (normF lib f).temps∧BdsAt (NewA A w) w' bv (normF lib f).body∧Below w.heap.size w w':=by
 obtain ⟨_,la,lc,rfl⟩:=hl.form
 have hA:Below w.heap.size w ((w.alloc (.cells #[.string f.name,.slice pa f.params.length pc,.bool f.list,.int .u8 f.body.kind,.int .i64 f.body.num,.string f.body.name,.slice ka f.body.kids.length kc] 94)).alloc (.cells #[.string ⟨#[]⟩,.slice none 0 0,.bool false,.slice none 0 0,.slice none 0 0,.string ⟨#[]⟩] 44)):=((Below.refl _ _).alloc (Nat.le_refl _) _).alloc (by simp) _
 have n0:=zlz w (.cells #[.string f.name,.slice pa f.params.length pc,.bool f.list,.int .u8 f.body.kind,.int .i64 f.body.num,.string f.body.name,.slice ka f.body.kids.length kc] 94) (.cells #[.string ⟨#[]⟩,.slice none 0 0,.bool false,.slice none 0 0,.slice none 0 0,.string ⟨#[]⟩] 44)
 have n1:=zaw w (.cells #[.string f.name,.slice pa f.params.length pc,.bool f.list,.int .u8 f.body.kind,.int .i64 f.body.num,.string f.body.name,.slice ka f.body.kids.length kc] 94) (.cells #[.string ⟨#[]⟩,.slice none 0 0,.bool false,.slice none 0 0,.slice none 0 0,.string ⟨#[]⟩] 44)
 have hWs:((w.alloc (.cells #[.string f.name,.slice pa f.params.length pc,.bool f.list,.int .u8 f.body.kind,.int .i64 f.body.num,.string f.body.name,.slice ka f.body.kids.length kc] 94)).alloc (.cells #[.string ⟨#[]⟩,.slice none 0 0,.bool false,.slice none 0 0,.slice none 0 0,.string ⟨#[]⟩] 44)).heap.size=w.heap.size+1+1:=by simp
 have c0:=zae n0 0 rfl
 have c1:=zae n0 1 rfl
 have c2:=zae n0 2 rfl
 have N0:=Lib.hid n0
 have N1:=Lib.hid n1
 have HWS:=Lib.hid hWs
 have HL:=Lib.hid hl
 have HP:=Lib.hid hp
 have HB:=Lib.hid hb
 have HF:=Lib.hid hform
 have HKN:=Lib.hid hkn
 have HT:=Lib.hid ht
 clear n0 n1 hWs hl hp hb hform hkn ht
 go_enter Tryz.func55,Tryz.ntmps55
 go_wp2
 generalize ((w.alloc (.cells #[.string f.name,.slice pa f.params.length pc,.bool f.list,.int .u8 f.body.kind,.int .i64 f.body.num,.string f.body.name,.slice ka f.body.kids.length kc] 94)).alloc (.cells #[.string ⟨#[]⟩,.slice none 0 0,.bool false,.slice none 0 0,.slice none 0 0,.string ⟨#[]⟩] 44))=W at *
 go_cut [5] (fun s5 wx=>NmA w f pa ka pc kc s5 wx)
 case first=>
  have hD:Below W.heap.size W W.drew:=zal (Below.refl _ _) 1
  have hZ:Below W.heap.size W (W.alloc (.cells #[.string ⟨#[]⟩,.slice none 0 0,.bool false,.slice none 0 0,.slice none 0 0,.string ⟨#[]⟩] 44)).drew:=zal ((Below.refl _ _).alloc (Nat.le_refl _) _) 1
  have hlw:w.heap.size < W.heap.size:=by have:=HWS.out;omega
  have HZS:Hid (W.heap.size < (W.alloc (.cells #[.string ⟨#[]⟩,.slice none 0 0,.bool false,.slice none 0 0,.slice none 0 0,.string ⟨#[]⟩] 44)).drew.heap.size):=Lib.hid (by simp [World.drew])
  have HSA:Hid (∀ w1,Below W.heap.size W w1→w1.cell? ⟨w.heap.size,0,none⟩=some (.string f.name)∧w1.cell? ⟨w.heap.size,1,none⟩=some (.slice pa f.params.length pc)∧w1.cell? ⟨w.heap.size,2,none⟩=some (.bool f.list)):=Lib.hid (fun w1 hb1=>⟨(hb1.cell (p:=⟨w.heap.size,0,none⟩) hlw).trans c0,(hb1.cell (p:=⟨w.heap.size,1,none⟩) hlw).trans c1,(hb1.cell (p:=⟨w.heap.size,2,none⟩) hlw).trans c2⟩)
  have HCL:Hid (∀ w1,Below W.heap.size W w1→Calls Tryz.prog 101 #[.slice pa f.params.length pc] w1 _):=Lib.hid (fun w1 hb1=>ziY _ f.params A w1 (HP.out.stays (Stays.of_below (hA.trans (hb1.mono hA.size)))) (by omega))
  obtain ⟨e0,e1,e2⟩:=HSA.out (W.alloc (.cells #[.string ⟨#[]⟩,.slice none 0 0,.bool false,.slice none 0 0,.slice none 0 0,.string ⟨#[]⟩] 44)) ((Below.refl _ _).alloc (Nat.le_refl _) _)
  go_region_law (first
   | (go_simp;go_at_call 101;refine (HCL.out _ hD).mono ?_;rintro e w1 ⟨pv,rfl,hpv,hb1',hpk⟩;obtain ⟨_,av,cv,rfl⟩:=hpv.form;have hb1:=hD.trans (hb1'.mono hD.size);have hA1:Below w1.heap.size w1 (w1.alloc (.cells #[.string ⟨#[]⟩,.slice none 0 0,.bool false,.slice none 0 0,.slice none 0 0,.string ⟨#[]⟩] 44)):=(Below.refl _ _).alloc (Nat.le_refl _) _;obtain ⟨d0,d1,d2⟩:=HSA.out w1 hb1;obtain ⟨d3,d4,d5⟩:=HSA.out _ (hb1.trans (hA1.mono hb1.size));have HPV:=Lib.hid hpv;clear hpv)
   | (go_simp;go_at_call 101;refine (HCL.out _ hZ).mono ?_;rintro e w1 ⟨pv,rfl,hpv,hb1',hpk⟩;obtain ⟨_,av,cv,rfl⟩:=hpv.form;have hb1:=hZ.trans (hb1'.mono hZ.size);have hA1:Below w1.heap.size w1 (w1.alloc (.cells #[.string ⟨#[]⟩,.slice none 0 0,.bool false,.slice none 0 0,.slice none 0 0,.string ⟨#[]⟩] 44)):=(Below.refl _ _).alloc (Nat.le_refl _) _;obtain ⟨d0,d1,d2⟩:=HSA.out w1 hb1;obtain ⟨d3,d4,d5⟩:=HSA.out _ (hb1.trans (hA1.mono hb1.size));have hzb:=(hb1'.block W.heap.size HZS.out).trans (heap_alloc_new W (.cells #[.string ⟨#[]⟩,.slice none 0 0,.bool false,.slice none 0 0,.slice none 0 0,.string ⟨#[]⟩] 44));have z0:w1.cell? ⟨W.heap.size,0,none⟩=some (.string ⟨#[]⟩):=zae hzb 0 rfl;have z1:w1.cell? ⟨W.heap.size,1,none⟩=some (.slice none 0 0):=zae hzb 1 rfl;have z2:w1.cell? ⟨W.heap.size,2,none⟩=some (.bool false):=zae hzb 2 rfl;have z3:w1.cell? ⟨W.heap.size,3,none⟩=some (.slice none 0 0):=zae hzb 3 rfl;have z4:w1.cell? ⟨W.heap.size,4,none⟩=some (.slice none 0 0):=zae hzb 4 rfl;have z5:w1.cell? ⟨W.heap.size,5,none⟩=some (.string ⟨#[]⟩):=zae hzb 5 rfl;have hfz:=unfrozen hzb;have HZB:=Lib.hid hzb;have HPV:=Lib.hid hpv;clear hzb hpv))
  all_goals
   clear d0 d1 d2 d3 d4 d5 e0 e1 e2 c0 c1 c2
   go_wp2
   go_meet
   first
    | with_reducible exact nmA1 hA HWS.out N0.out N1.out hb1 HPV.out (fun k e=>⟨Nat.le_trans hD.size (hpk k e).1,(hpk k e).2⟩)
    | with_reducible exact nmA2 hA HWS.out N0.out N1.out hb1 HPV.out (fun k e=>⟨Nat.lt_of_lt_of_le HZS.out (hpk k e).1,(hpk k e).2⟩) HZB.out
 case rest=>
  obtain ⟨bo,pv,rfl,hBx,hbo,hblk,hpv,hpk,⟨pva,pvc,rfl⟩,m0,m1⟩:=hcut
  have hmf:∀ (fn:Go.Fn) (first cap:Array Value) (w:World),(Instr.makeFunc fn first cap).run Tryz.prog w=.ok (.func fn first cap) w:=fun _ _ _ _=>rfl
  have hmm:=@run_makeMap Tryz.prog
  have q1:wc.cell? ⟨w.heap.size,1,none⟩=some (.slice pa f.params.length pc):=zae m0 1 rfl
  have hlw:w.heap.size < wc.heap.size:=by rw [Array.getElem?_eq_some_iff] at m0;exact m0.1
  have hlbo:bo < wc.heap.size:=by rw [Array.getElem?_eq_some_iff] at hblk;exact hblk.1
  have HM0:=Lib.hid m0
  have HM1:=Lib.hid m1
  have HBLK:=Lib.hid hblk
  have HPV:=Lib.hid hpv
  have HPK:=Lib.hid hpk
  clear m0 m1 hblk hpv hpk c0 c1 c2
  have hW3:Below wc.heap.size wc ((wc.alloc (.map #[] 0)).alloc (.cells #[.slice la lib.length lc,.map (some wc.heap.size),.func (.func 102) #[] #[.pointer (some ⟨bo,0,none⟩)],.func (.func 104) #[] #[.pointer (some ⟨bo,0,none⟩)]] 174)):=((Below.refl _ _).alloc (Nat.le_refl _) _).alloc (by simp) _
  have HVI:Hid (VisB ((wc.alloc (.map #[] 0)).alloc (.cells #[.slice la lib.length lc,.map (some wc.heap.size),.func (.func 102) #[] #[.pointer (some ⟨bo,0,none⟩)],.func (.func 104) #[] #[.pointer (some ⟨bo,0,none⟩)]] 174)) (wc.heap.size+1) bo wc.heap.size (.slice la lib.length lc)):=Lib.hid (zaw wc _ _)
  have HMP:Hid (SMapLe Tryz.prog 9 ((wc.alloc (.map #[] 0)).alloc (.cells #[.slice la lib.length lc,.map (some wc.heap.size),.func (.func 102) #[] #[.pointer (some ⟨bo,0,none⟩)],.func (.func 104) #[] #[.pointer (some ⟨bo,0,none⟩)]] 174)) wc.heap.size (fun s=>(parsEnv (f.params.take 0) s).map parV) 0):=Lib.hid ((SMapLe.made Tryz.prog 9 wc).below ((Below.refl _ _).alloc (Nat.le_refl _) _))
  have hW3s:wc.heap.size+1 < ((wc.alloc (.map #[] 0)).alloc (.cells #[.slice la lib.length lc,.map (some wc.heap.size),.func (.func 102) #[] #[.pointer (some ⟨bo,0,none⟩)],.func (.func 104) #[] #[.pointer (some ⟨bo,0,none⟩)]] 174)).heap.size:=by simp
  go_wp2
  clear hmm
  generalize ((wc.alloc (.map #[] 0)).alloc (.cells #[.slice la lib.length lc,.map (some wc.heap.size),.func (.func 102) #[] #[.pointer (some ⟨bo,0,none⟩)],.func (.func 104) #[] #[.pointer (some ⟨bo,0,none⟩)]] 174))=W3 at *
  go_loopw [28] (fun i wr=>∃ k:Nat,i=.int .i64 k∧k≤f.params.length∧Keeps W3 wr (fun j=>j=wc.heap.size)∧SMapLe Tryz.prog 9 wr wc.heap.size (fun s=>(parsEnv (f.params.take k) s).map parV) k) (fun i _=>f.params.length - (intOf i).toNat)
  case atStart=>exact ⟨0,rfl,Nat.zero_le _,Keeps.refl _ _,HMP.out⟩
  case round=>
   obtain ⟨k,rfl,hk1,hkp,hm⟩:=hrel
   have hzk:=hkp.size
   have hbl:Below w.heap.size w wr:=hBx.trans ((hW3.mono hBx.size).trans (hkp.below (fun j e=>by omega) (by omega)))
   have hvb:wr.heap[wc.heap.size+1]?=_:=(hkp.block (wc.heap.size+1) hW3s (by omega)).trans HVI.out
   by_cases hlt:k < f.params.length
   · obtain ⟨b,off,cap',he,hb,_,_,c0,c1,hs⟩:=(HP.out.stays (Stays.of_below hbl)).at hlt
     simp only [Value.slice.injEq] at he
     obtain ⟨rfl,-,rfl⟩:=he
     have hmA:=hm.below ((Below.refl _ _).alloc (Nat.le_refl _) (.cells #[.string (at' f.params k).name,.bool (at' f.params k).list] 97))
     have HPE:=Lib.hid (zdY f.params k hlt)
     have v1:(wr.alloc (.cells #[.string (at' f.params k).name,.bool (at' f.params k).list] 97)).cell? ⟨wc.heap.size+1,1,none⟩=some (.map (some wc.heap.size)):=(((Below.refl _ _).alloc (Nat.le_refl _) _).cell (p:=⟨wc.heap.size+1,1,none⟩) (by simp;omega)).trans (zae hvb 1 rfl)
     have HKP:=Lib.hid (hkp.alloc (.cells #[.string (at' f.params k).name,.bool (at' f.params k).list] 97))
     clear hm hvb
     go_wp2_with (refine zeJ MP rfl (.tmp 33) (.tmp 35) _ (.inr rfl) rfl rfl rfl hmA hs (by unfold maxLen;omega) ?_;intro w3 hm3 hg3;have hm4:=hm3.ext (zkk (parsEnv (f.params.take k)) (at' f.params k).name (at' f.params k));have hkp3:=HKP.out.same (Keeps.of_grown hg3 (fun j e=>.inl (by simpa using e.symm))))
     go_roundw
     case rel=>exact ⟨k+1,by go_num,by omega,hkp3,by rw [HPE.out];exact hm4⟩
     case measure=>simp [intOf];omega
   · obtain rfl:k=f.params.length:=by omega
     rw [List.take_length] at hm
     have hblkr:wr.heap[bo]?=_:=(hkp.block bo (by have:=hW3.size;omega) (by omega)).trans ((hW3.block bo hlbo).trans HBLK.out)
     have hm0r:wr.heap[w.heap.size]?=_:=(hkp.block w.heap.size (by have:=hW3.size;omega) (by omega)).trans ((hW3.block w.heap.size hlw).trans HM0.out)
     have hl1:w.heap.size+1 < wc.heap.size:=by have e:=HM1.out;rw [Array.getElem?_eq_some_iff] at e;exact e.1
     have hm1r:wr.heap[w.heap.size+1]?=some (.cells #[.string ⟨#[]⟩,.slice none 0 0,.bool false,.slice none 0 0,.slice none 0 0,.string ⟨#[]⟩] 44 (0,0)):=(hkp.block (w.heap.size+1) (by have:=hW3.size;omega) (by omega)).trans ((hW3.block (w.heap.size+1) hl1).trans HM1.out)
     have hpvr:ParsAt (fun k=>(Value.slice pva f.params.length pvc).ownBlock=some k) wr (.slice pva f.params.length pvc) f.params:=HPV.out.stays ⟨by have:=hW3.size;omega,fun b hb a=>⟨(hkp.block b (by have:=hW3.size;omega) (by omega)).trans (hW3.block b hb),a⟩⟩
     have hS:=zmA HL.out hbl hblkr hvb hm HT.out (by omega) (by omega) (by omega) (by omega) (by omega) (fun k e=>by have:=HPK.out k e;exact ⟨this.2.1,by omega,by omega⟩)
     have hLr:Locs ⟨wc.heap.size+1,bo,wc.heap.size,.string f.name,.slice pva f.params.length pvc,.bool f.list,.string ⟨#[]⟩,.slice la lib.length lc,lib⟩ bo (fun k=>(A k∧k < w.heap.size)∨k=wc.heap.size+1∨(Value.slice pva f.params.length pvc).ownBlock=some k∨TabK k) (.slice none 0 0) (.slice none 0 0) wr [(w.heap.size+1,(.cells #[.string ⟨#[]⟩,.slice none 0 0,.bool false,.slice none 0 0,.slice none 0 0,.string ⟨#[]⟩] 44 (0,0)))]:=fun p hp=>by
      simp only [List.mem_singleton] at hp
      subst hp
      refine ⟨hm1r,fun a=>?_,fun m=>?_⟩
      · rcases a with a|a|a|a
        · simp only at a;omega
        · simp only at a;omega
        · have:=HPK.out _ a;simp only at this;omega
        · have:=HT.out.lt _ a;simp only at this;omega
      · rcases m with e|e|e|e|e
        · simp only at e;omega
        · simp only at e;omega
        · simp only at e;omega
        · simp [Value.ownBlock] at e
        · simp [Value.ownBlock] at e
     have hnd:=HB.out.stays (A':=fun k=>(A k∧k < w.heap.size)∨k=wc.heap.size+1∨(Value.slice pva f.params.length pvc).ownBlock=some k∨TabK k) ⟨hbl.size,fun b hb a=>⟨hbl.block b hb,.inl ⟨a,hb⟩⟩⟩
     have hpar:∀ j,j < f.params.length→(at' f.params j).name.size≤maxLen:=fun j hj=>by obtain ⟨_,_,_,_,_,_,_,_,_,h⟩:=HP.out.at hj;exact h
     have hse:=zce f.params hpar f.params.length (Nat.le_refl _)
     rw [List.take_length] at hse
     have HX:=Lib.hid (zeP (sizeN f.body) _ f.body _ bo 4 _ wr _ _ _ [] [] (parsEnv f.params) _ (Nat.le_refl _) HF.out HKN.out hnd hS hse (fun j=>by simp [at'];exact Nat.zero_le _) (by simp;omega) (by simp;omega) (by omega))
     have hxs:=zaA lib f.body (parsEnv f.params) [] hse (fun j=>by simp [at'];exact Nat.zero_le _) (by simp;omega)
     have hxl:=zap lib f.body (parsEnv f.params) []
     have HNF:Hid (normF lib f=⟨f.name,f.params,f.list,(exprN lib f.body (parsEnv f.params) []).ts,(exprN lib f.body (parsEnv f.params) []).bs,(exprN lib f.body (parsEnv f.params) []).par.name⟩):=Lib.hid rfl
     have b3:wr.cell? ⟨w.heap.size,3,none⟩=some (.int .u8 f.body.kind):=zae hm0r 3 rfl
     have b4:wr.cell? ⟨w.heap.size,4,none⟩=some (.int .i64 f.body.num):=zae hm0r 4 rfl
     have b5:wr.cell? ⟨w.heap.size,5,none⟩=some (.string f.body.name):=zae hm0r 5 rfl
     have b6:wr.cell? ⟨w.heap.size,6,none⟩=some (.slice ka f.body.kids.length kc):=zae hm0r 6 rfl
     have HS:=Lib.hid hS
     have HLR:=Lib.hid hLr
     have HPVR:=Lib.hid hpvr
     have hfd:=zdH
     clear hblkr hm0r hm1r hpvr hS hLr hnd hpar hvb hm hlt
     have hlt:¬ (f.params.length:Int) < (f.params.length:Int):=by omega
     go_wp2_with fail
     refine HX.out.mono ?_
     rintro e w5 ⟨rfl,A5,tv5,bv5,c45,hS5,hT5⟩
     generalize exprN lib f.body (parsEnv f.params) []=X at *
     rw [List.nil_append] at hS5
     obtain ⟨ta,tc,rfl⟩:=zaG (VSt.out hS5).own
     have hbo5:w5.heap[bo]?=_:=(VSt.out hS5).blk
     obtain rfl:c45=bv5:=by
      rcases VSt.ptr hS5 with ⟨_,_,e⟩|⟨e,_⟩
      · exact e
      · exact absurd rfl e
     obtain ⟨xs5,hrow5,hcs5⟩:=VSt.row hS5
     obtain ⟨ba,bc,rfl⟩:=zaG hrow5
     have hL5:=HLR.out.step hT5
     have hr5:w5.heap[w.heap.size+1]?=some (.cells #[.string ⟨#[]⟩,.slice none 0 0,.bool false,.slice none 0 0,.slice none 0 0,.string ⟨#[]⟩] 44 (0,0)):=hL5.blk (List.mem_cons_self ..)
     have hbo6:=heap_setCell_same w5 bo 5 _ _ (.string X.par.name) hbo5
     simp only [List.setIfInBounds_toArray,List.set_cons_zero,List.set_cons_succ] at hbo6
     have hr6:(w5.setCell ⟨bo,5,none⟩ (.string X.par.name)).heap[w.heap.size+1]?=some (.cells #[.string ⟨#[]⟩,.slice none 0 0,.bool false,.slice none 0 0,.slice none 0 0,.string ⟨#[]⟩] 44 (0,0)):=(heap_setCell_other w5 ⟨bo,5,none⟩ (w.heap.size+1) _ (by simp only;omega)).trans hr5
     have z5:w5.cell? ⟨bo,5,none⟩=some (.string ⟨#[]⟩):=zae hbo5 5 rfl
     have fz5:=unfrozen hbo5 5
     have o0:w5.cell? ⟨bo,0,none⟩=some (.string f.name):=zae hbo5 0 rfl
     have o1:w5.cell? ⟨bo,1,none⟩=some (.slice pva f.params.length pvc):=zae hbo5 1 rfl
     have o2:w5.cell? ⟨bo,2,none⟩=some (.bool f.list):=zae hbo5 2 rfl
     have o3:w5.cell? ⟨bo,3,none⟩=some (.slice ta X.ts.length tc):=zae hbo5 3 rfl
     have o4:w5.cell? ⟨bo,4,none⟩=some (.slice ba X.bs.length bc):=zae hbo5 4 rfl
     have y0:w5.cell? ⟨w.heap.size+1,0,none⟩=some (.string ⟨#[]⟩):=zae hr5 0 rfl
     have y1:w5.cell? ⟨w.heap.size+1,1,none⟩=some (.slice none 0 0):=zae hr5 1 rfl
     have y2:w5.cell? ⟨w.heap.size+1,2,none⟩=some (.bool false):=zae hr5 2 rfl
     have y3:w5.cell? ⟨w.heap.size+1,3,none⟩=some (.slice none 0 0):=zae hr5 3 rfl
     have y4:w5.cell? ⟨w.heap.size+1,4,none⟩=some (.slice none 0 0):=zae hr5 4 rfl
     have y5:w5.cell? ⟨w.heap.size+1,5,none⟩=some (.string ⟨#[]⟩):=zae hr5 5 rfl
     have fy:=unfrozen hr5
     have HS5:=Lib.hid hS5
     have HT5:=Lib.hid hT5
     have HL5:=Lib.hid hL5
     have HR6:=Lib.hid hr6
     have hne:w.heap.size+1≠bo:=by omega
     clear hS5 hT5 hL5 hr5 hr6 hbo5 hbo6 hrow5 hcs5 HX b3 b4 b5 b6
     go_wp2
     have hK7:Keeps w5 (((((((w5.setCell ⟨bo,5,none⟩ (.string X.par.name)).setCell ⟨w.heap.size+1,0,none⟩ (.string f.name)).setCell ⟨w.heap.size+1,1,none⟩ (.slice pva f.params.length pvc)).setCell ⟨w.heap.size+1,2,none⟩ (.bool f.list)).setCell ⟨w.heap.size+1,3,none⟩ (.slice ta X.ts.length tc)).setCell ⟨w.heap.size+1,4,none⟩ (.slice ba X.bs.length bc)).setCell ⟨w.heap.size+1,5,none⟩ (.string X.par.name)) (fun k=>k=bo∨k=w.heap.size+1):=((((((((zaf w5 bo 5 (.string X.par.name)).mono (T:=fun k=>k=bo∨k=w.heap.size+1) (fun k e=>.inl e)).same ((zaf _ (w.heap.size+1) 0 (.string f.name)).mono (fun k e=>.inr e))).same ((zaf _ (w.heap.size+1) 1 (.slice pva f.params.length pvc)).mono (fun k e=>.inr e))).same ((zaf _ (w.heap.size+1) 2 (.bool f.list)).mono (fun k e=>.inr e))).same ((zaf _ (w.heap.size+1) 3 (.slice ta X.ts.length tc)).mono (fun k e=>.inr e))).same ((zaf _ (w.heap.size+1) 4 (.slice ba X.bs.length bc)).mono (fun k e=>.inr e))).same ((zaf _ (w.heap.size+1) 5 (.string X.par.name)).mono (fun k e=>.inr e)))
     have h7:=heap_setCell_same _ (w.heap.size+1) 5 _ _ (.string X.par.name) (heap_setCell_same _ (w.heap.size+1) 4 _ _ (.slice ba X.bs.length bc) (heap_setCell_same _ (w.heap.size+1) 3 _ _ (.slice ta X.ts.length tc) (heap_setCell_same _ (w.heap.size+1) 2 _ _ (.bool f.list) (heap_setCell_same _ (w.heap.size+1) 1 _ _ (.slice pva f.params.length pvc) (heap_setCell_same _ (w.heap.size+1) 0 _ _ (.string f.name) HR6.out)))))
     simp only [List.setIfInBounds_toArray,List.set_cons_zero,List.set_cons_succ] at h7
     have hA5n:∀ k,A5 k→¬ (k=bo∨k=w.heap.size+1):=by
      rintro k a (e|e)
      · exact VSt.mutA HS5.out k (.inl e) a
      · subst e;exact (HL5.out _ (List.mem_cons_self ..)).2.1 a
     have htn:∀ k,(Value.slice ta X.ts.length tc).ownBlock=some k→¬ (k=bo∨k=w.heap.size+1):=by
      rintro k e (e2|e2)
      · subst e2;exact (VSt.out HS5.out).ne e
      · subst e2;exact (HL5.out _ (List.mem_cons_self ..)).2.2 (.inr (.inr (.inr (.inl e))))
     have hbn:∀ k,(Value.slice ba X.bs.length bc).ownBlock=some k→¬ (k=bo∨k=w.heap.size+1):=by
      rintro k e (e2|e2)
      · subst e2;exact VSt.bvbo HS5.out e
      · subst e2;exact (HL5.out _ (List.mem_cons_self ..)).2.2 (.inr (.inr (.inr (.inr e))))
     have hB5:Below w.heap.size w w5:=hbl.trans (HT5.out.keeps.below (fun k m=>by
      rcases m with e|e|e|e|e
      · simp only at e;omega
      · simp only at e;omega
      · omega
      · simp [Value.ownBlock] at e
      · simp [Value.ownBlock] at e) hbl.size)
     have hNA:∀ k,A5 k→NewA A w k:=fun k a=>by
      rcases HT5.out.new k a with (a|a|a|a)|a
      · exact .inl a.1
      · exact .inr (.inl (by omega))
      · exact .inr (.inl (by have:=HPK.out k a;omega))
      · exact .inr (.inr a)
      · exact .inr (.inl (Nat.le_trans hbl.size a))
     have hp7:ParsAt (NewA A w) (((((((w5.setCell ⟨bo,5,none⟩ (.string X.par.name)).setCell ⟨w.heap.size+1,0,none⟩ (.string f.name)).setCell ⟨w.heap.size+1,1,none⟩ (.slice pva f.params.length pvc)).setCell ⟨w.heap.size+1,2,none⟩ (.bool f.list)).setCell ⟨w.heap.size+1,3,none⟩ (.slice ta X.ts.length tc)).setCell ⟨w.heap.size+1,4,none⟩ (.slice ba X.bs.length bc)).setCell ⟨w.heap.size+1,5,none⟩ (.string X.par.name)) (.slice pva f.params.length pvc) f.params:=by
      have h1:=(HPVR.out.stays (A':=fun k=>(A k∧k < w.heap.size)∨k=wc.heap.size+1∨(Value.slice pva f.params.length pvc).ownBlock=some k∨TabK k) ⟨Nat.le_refl _,fun b _ a=>⟨rfl,.inr (.inr (.inl a))⟩⟩).stays (HS.out.stays HT5.out)
      exact h1.stays ⟨hK7.size,fun b hb a=>⟨hK7.block b hb (hA5n b a),hNA b a⟩⟩
     have ht7:ParsAt (NewA A w) (((((((w5.setCell ⟨bo,5,none⟩ (.string X.par.name)).setCell ⟨w.heap.size+1,0,none⟩ (.string f.name)).setCell ⟨w.heap.size+1,1,none⟩ (.slice pva f.params.length pvc)).setCell ⟨w.heap.size+1,2,none⟩ (.bool f.list)).setCell ⟨w.heap.size+1,3,none⟩ (.slice ta X.ts.length tc)).setCell ⟨w.heap.size+1,4,none⟩ (.slice ba X.bs.length bc)).setCell ⟨w.heap.size+1,5,none⟩ (.string X.par.name)) (.slice ta X.ts.length tc) X.ts:=zeL (zaD (VSt.out HS5.out).own hK7 htn) (fun k e=>.inr (.inl (by rcases HT5.out.ntv k e with e|e;simp [Value.ownBlock] at e;exact Nat.le_trans hbl.size e))) (by unfold maxLen;simp only [List.length_nil] at hxl;omega) hxs.2.2
     have hb7:BdsAt (NewA A w) (((((((w5.setCell ⟨bo,5,none⟩ (.string X.par.name)).setCell ⟨w.heap.size+1,0,none⟩ (.string f.name)).setCell ⟨w.heap.size+1,1,none⟩ (.slice pva f.params.length pvc)).setCell ⟨w.heap.size+1,2,none⟩ (.bool f.list)).setCell ⟨w.heap.size+1,3,none⟩ (.slice ta X.ts.length tc)).setCell ⟨w.heap.size+1,4,none⟩ (.slice ba X.bs.length bc)).setCell ⟨w.heap.size+1,5,none⟩ (.string X.par.name)) (.slice ba X.bs.length bc) X.bs:=((VSt.row HS5.out).keeps hK7 hA5n hbn).shut hNA (fun k e=>.inr (.inl (by rcases HT5.out.nbv k e with e|e;simp [Value.ownBlock] at e;exact Nat.le_trans hbl.size e))) (by unfold maxLen;omega)
     (try simp only [Exit.inBlock,Exit.then])
     refine bodyPost_ret (results_cell_row (P:=Tryz.prog) rfl _ _ (w.heap.size+1) _ _ _ _ rfl h7 Tryz.underlying44 rfl (by kernel_rfl)) rfl ?_
     rw [HNF.out]
     exact ⟨_,_,_,rfl,hp7,ht7,hb7,hB5.trans (hK7.below (fun k e=>by omega) hB5.size)⟩
end Go.Proofs.YtpobmoegmdhbpaaGreatDoor
/- Walks of package anf:Normalize. -/
namespace Go.Proofs.YtpobmoegmdhbpaaGreatDoor
open Go.RowKit
theorem TAFn:RowT Tryz.prog 25 44 (.agg #[.string ByteArray.empty,.slice none 0 0,.bool false,.slice none 0 0,.slice none 0 0,.string ByteArray.empty]) 6 112:=⟨Tryz.underlying25,by kernel_rfl⟩
structure AFnCells (A:Nat→Prop) (w:World) (c:Nat→Value) (g:AFn):Prop where
 c0:c 0=.string g.name
 c1:ParsAt A w (c 1) g.params
 c2:c 2=.bool g.list
 c3:ParsAt A w (c 3) g.temps
 c4:BdsAt A w (c 4) g.body
 c5:c 5=.string g.result
 s0:g.name.size≤maxLen
 s5:g.result.size≤maxLen
theorem AFnCells.stays {A A':Nat→Prop} {w w':World} (hs:Stays A A' w w') {c:Nat→Value} {g:AFn} (h:AFnCells A w c g):AFnCells A' w' c g:=⟨h.c0,h.c1.stays hs,h.c2,h.c3.stays hs,h.c4.stays hs,h.c5,h.s0,h.s5⟩
theorem AFnCells.congr {A:Nat→Prop} {w:World} {c d:Nat→Value} {g:AFn} (h:AFnCells A w c g) (e:∀ i,i < 6→d i=c i):AFnCells A w d g:=
 ⟨(e 0 (by omega)).trans h.c0,by rw [e 1 (by omega)];exact h.c1,(e 2 (by omega)).trans h.c2,by rw [e 3 (by omega)];exact h.c3,by rw [e 4 (by omega)];exact h.c4,(e 5 (by omega)).trans h.c5,h.s0,h.s5⟩
def AFnsAt (A:Nat→Prop) (w:World) (v:Value) (l:List AFn):Prop:=∃ cs,RowAt A w 6 v l.length cs∧∀ j,j < l.length→AFnCells A w (cs j) (at' l j)
theorem AFnsAt.form {A:Nat→Prop} {w:World} {v:Value} {l:List AFn} (h:AFnsAt A w v l):l.length≤maxLen∧∃ a c,v=.slice a l.length c:=by
 obtain ⟨cs,h,_⟩:=h;exact ⟨h.1,h.form⟩
def AFnsOwn (base:Nat) (w:World) (v:Value) (l:List AFn):Prop:=∃ xs,w.ownsRow base 44 6 v l.length xs∧∀ j,j < l.length→AFnCells (fun k=>v.ownBlock≠some k) w (fun i=>vat xs (j * 6+i)) (at' l j)
theorem AFnsOwn.nil (base:Nat) (w:World):AFnsOwn base w (.slice none 0 0) []:=⟨[],World.ownsRow_nil _ _ _ _,fun j hj=>by simp at hj⟩
theorem AFnsOwn.shut {base:Nat} {w:World} {v:Value} {l:List AFn} (h:AFnsOwn base w v l) (hl:l.length≤maxLen):AFnsAt Any w v l:=by
 obtain ⟨xs,hx,hf⟩:=h
 refine ⟨fun j i=>vat xs (j * 6+i),⟨hl,?_⟩,fun j hj=>(hf j hj).stays ⟨Nat.le_refl _,fun _ _ _=>⟨rfl,trivial⟩⟩⟩
 obtain ⟨h0,⟨rfl,h1⟩|⟨g,cap,cur,rfl,hg,hh,hn,hm,hc,ht⟩⟩:=hx
 · exact ⟨none,0,by rw [h1],by omega,fun _=>rfl,fun h=>by omega⟩
 · refine ⟨_,cap,rfl,hn,nofun,fun hp=>⟨g,0,rfl,by rw [Array.getElem?_eq_some_iff] at hh;exact hh.1,trivial,fun j hj i hi=>?_⟩⟩
   have hlt:j * 6+i < xs.length:=by omega
   have e:(0:Nat)+j * 6+i=j * 6+i:=by omega
   rw [e]
   simp only [World.cell?,hh,vat,List.getD_eq_getElem?_getD]
   have hx2:xs[j * 6+i]?=cur[j * 6+i]?:=by rw [← ht,List.getElem?_take,if_pos (by omega)];simp
   rw [← hx2,List.getElem?_eq_getElem hlt];rfl
theorem zjb {α:Type} [Inhabited α] {l:List α} {b:α} {j:Nat} (h:j < l.length):at' (l ++ [b]) j=at' l j:=by simp [at',List.getD_eq_getElem?_getD,List.getElem?_append_left h]
theorem zjK {α:Type} [Inhabited α] {l:List α} {b:α}:at' (l ++ [b]) l.length=b:=by simp [at']
theorem AFnsOwn.snoc {base:Nat} {w w2 w3:World} {v v':Value} {l:List AFn} {g:AFn} {xs:List Value} {v0 v1 v2 v3 v4 v5:Value} {D:Nat→Prop} (hf:∀ j,j < l.length→AFnCells (fun k=>v.ownBlock≠some k) w (fun i=>vat xs (j * 6+i)) (at' l j)) (hx:xs.length=l.length * 6)
 (hown:w3.ownsRow base 44 6 v' (l.length+1) (xs ++ [v0,v1,v2,v3,v4,v5])) (hg:AFnCells D w2 (fun i=>vat [v0,v1,v2,v3,v4,v5] i) g)
 (h1:Stays (fun k=>v.ownBlock≠some k) (fun k=>v'.ownBlock≠some k) w w3) (h2:Stays D (fun k=>v'.ownBlock≠some k) w2 w3):AFnsOwn base w3 v' (l ++ [g]):=by
 refine ⟨_,by rw [List.length_append];exact hown,fun j hj=>?_⟩
 by_cases hjl:j < l.length
 · rw [zjb hjl]
   refine ((hf j hjl).stays h1).congr fun i hi=>?_
   simp only [vat,List.getD_eq_getElem?_getD]
   rw [List.getElem?_append_left (by omega)]
 · obtain rfl:j=l.length:=by simp at hj;omega
   rw [zjK]
   refine (hg.stays h2).congr fun i hi=>?_
   simp only [vat,List.getD_eq_getElem?_getD]
   rw [List.getElem?_append_right (by omega),show l.length * 6+i - xs.length=i by omega]
theorem zlL (lib:List Fn) (k:Nat) (h:k < lib.length):(normL lib).take (k+1)=(normL lib).take k ++ [normF lib (at' lib k)]:=by
 rw [normL,List.take_add_one,List.getElem?_map,List.getElem?_eq_getElem h,zax h];rfl
theorem src6 (w:World) (g:Nat) (hg:g=w.heap.size) (v0 v1 v2 v3 v4 v5:Value) (e:TypeId):∀ j u,[v0,v1,v2,v3,v4,v5][j]?=some u→(w.alloc (.cells #[v0,v1,v2,v3,v4,v5] e)).cell? ((⟨g,0,none⟩:Addr).add j)=some u:=by
 intro j u hj
 subst hg
 have e0:(⟨w.heap.size,0,none⟩:Addr).add j=⟨w.heap.size,j,none⟩:=by
  simp only [Addr.add];split
  · subst_vars;rfl
  · simp
 rw [e0]
 exact zae (heap_alloc_new w _) j (by simpa using hj)
theorem zjV {lib:List Fn} {f:Fn} (h:sizeN f.body≤2000) (hp:∀ j,j < f.params.length→(at' f.params j).name.size≤maxLen):(normF lib f).result.size≤maxLen:=by
 have hse:=zce f.params hp f.params.length (Nat.le_refl _)
 rw [List.take_length] at hse
 exact (zaA lib f.body (parsEnv f.params) [] hse (fun j=>by simp [at'];exact Nat.zero_le _) (by simp;omega)).1
def NormPost (lib:List Fn) (w:World) (e:Ending) (w':World):Prop:=
 ((validE lib).2≠0→e=.returned (.tuple #[.slice none 0 0,.int .i64 (validE lib).2]))∧((validE lib).2=0→∃ v,e=.returned (.tuple #[v,.int .i64 0])∧AFnsAt Any w' v (normL lib))∧Below w.heap.size w w'
theorem zcN (lv:Value) (lib:List Fn) (A:Nat→Prop) (w:World) (hl:FnsAt A w lv lib) (hmod:Modest lib) (ht:Tab w):
 Calls Tryz.prog 32 #[lv] w (NormPost lib w):=by
 obtain ⟨hll,la,lc,rfl⟩:=hl.form
 unfold maxLen at hll
 have hold:FnsAt (fun k=>k < w.heap.size) w (.slice la lib.length lc) lib:=hl.stays ⟨Nat.le_refl _,fun b hb _=>⟨rfl,hb⟩⟩
 have HL:=Lib.hid hold
 have HV:=Lib.hid (zlk _ lib A w hl hmod)
 have HT:=Lib.hid ht
 clear hl hold ht
 by_cases hv:(validE lib).2=0
 · have hv0:((validE lib).2 != 0)=false:=by simp [hv]
   have HOK:Hid (∀ i,i < lib.length→FnOk lib i):=Lib.hid (fun i h=>zaR hv h)
   have HVE:=Lib.hid hv
   have hlen:lib.length≤30:=by
    rcases Nat.lt_or_ge 30 lib.length with h|h
    · have:=(zaR hv (i:=30) h).lt;omega
    · exact h
   clear hv
   go_enter Tryz.func32,Tryz.ntmps32
   go_wp2_with (go_at_call 54;refine HV.out.mono ?_;rintro e w1 ⟨rfl,hb1⟩)
   go_loopw [19,6] (fun i v wr=>∃ k:Nat,i=.int .i64 k∧k≤lib.length∧Below w.heap.size w wr∧AFnsOwn w.heap.size wr v ((normL lib).take k)) (fun i _ _=>lib.length - (intOf i).toNat)
   case atStart=>exact ⟨0,rfl,Nat.zero_le _,hb1,AFnsOwn.nil _ _⟩
   case round=>
    obtain ⟨k,rfl,hk,hbl,xs,hrow,hcs⟩:=hrel
    have hlk:((normL lib).take k).length=k:=by rw [List.length_take,normL,List.length_map];omega
    rw [hlk] at hrow
    obtain ⟨va,vc,rfl⟩:=zaG hrow
    have HCS:=Lib.hid hcs
    have HROW:=Lib.hid hrow
    have HLK:=Lib.hid hlk
    clear hcs hrow hlk
    by_cases hlt:k < lib.length
    · obtain ⟨b,off,cap',pa,pc,ka,kc,he,hb,_,_,c0,c1,c2,c3,c4,c5,c6,hsn,hpar,hnd⟩:=(HL.out.stays (Stays.of_below hbl)).at hlt
      simp only [Value.slice.injEq] at he
      obtain ⟨rfl,-,rfl⟩:=he
      have hA1:Below wr.heap.size wr (wr.alloc (.cells #[.string (at' lib k).name,.slice pa (at' lib k).params.length pc,.bool (at' lib k).list,.int .u8 (at' lib k).body.kind,.int .i64 (at' lib k).body.num,.string (at' lib k).body.name,.slice ka (at' lib k).body.kids.length kc] 94)):=(Below.refl _ _).alloc (Nat.le_refl _) _
      have hB1:Below w.heap.size w (wr.alloc (.cells #[.string (at' lib k).name,.slice pa (at' lib k).params.length pc,.bool (at' lib k).list,.int .u8 (at' lib k).body.kind,.int .i64 (at' lib k).body.num,.string (at' lib k).body.name,.slice ka (at' lib k).body.kids.length kc] 94)):=hbl.trans (hA1.mono hbl.size)
      have hok:=HOK.out k hlt
      have HNO:=Lib.hid (zfS _ lib (at' lib k) pa ka pc kc (fun k=>k < w.heap.size) _ (HL.out.stays (Stays.of_below hB1)) (hpar.stays (Stays.of_below hA1)) (hnd.stays (Stays.of_below hA1)) hsn hok.form (zeI lib _ _ hok.check) (by have:=hok.size;omega) (by have:=zfQ hok.pars;omega) (HT.out.below hB1))
      have HRS:Hid ((normF lib (at' lib k)).result.size≤maxLen):=Lib.hid (zjV hok.size (fun j hj=>by obtain ⟨_,_,_,_,_,_,_,_,_,h⟩:=hpar.at hj;exact h))
      have HNF:Hid ((normF lib (at' lib k)).name=(at' lib k).name∧(normF lib (at' lib k)).params=(at' lib k).params∧(normF lib (at' lib k)).list=(at' lib k).list):=Lib.hid ⟨rfl,rfl,rfl⟩
      clear hpar hnd hok
      go_wp2_with fail
      refine HNO.out.mono ?_
      rintro e w2 ⟨pv,tv,bv,rfl,hpv,htv,hbv,hb2⟩
      generalize hG:normF lib (at' lib k)=G at *
      have HG:=Lib.hid hG
      clear hG HNO
      obtain ⟨_,a1,e1,rfl⟩:=hpv.form
      obtain ⟨_,a3,e3,rfl⟩:=htv.form
      obtain ⟨_,a4,e4,rfl⟩:=hbv.form
      have HPV:=Lib.hid hpv
      have HTV:=Lib.hid htv
      have HBV:=Lib.hid hbv
      have hB2:Below w.heap.size w w2:=hB1.trans (hb2.mono hB1.size)
      have hAL:Below w2.heap.size w2 (w2.alloc (.cells #[.string (at' lib k).name,.slice a1 (at' lib k).params.length e1,.bool (at' lib k).list,.slice a3 G.temps.length e3,.slice a4 G.body.length e4,.string G.result] 44)):=(Below.refl _ _).alloc (Nat.le_refl _) _
      have hW2:Below wr.heap.size wr (w2.alloc (.cells #[.string (at' lib k).name,.slice a1 (at' lib k).params.length e1,.bool (at' lib k).list,.slice a3 G.temps.length e3,.slice a4 G.body.length e4,.string G.result] 44)):=hA1.trans ((hb2.mono hA1.size).trans (hAL.mono (Nat.le_trans hA1.size hb2.size)))
      have HRW:=Lib.hid (zaM HROW.out hW2)
      have HSRC:=Lib.hid (src6 w2 w2.heap.size rfl (.string (at' lib k).name) (.slice a1 (at' lib k).params.length e1) (.bool (at' lib k).list) (.slice a3 G.temps.length e3) (.slice a4 G.body.length e4) (.string G.result) 44)
      clear hpv htv hbv
      go_wp2_with (at_builtin;refine zbk TAFn rfl (by decide) rfl (.tmp 23) (.tmp 27) rfl rfl rfl HRW.out (.inr ⟨⟨w2.heap.size,0,none⟩,1,rfl,HSRC.out⟩) rfl (by simp [Value.oneCell']) (by unfold maxLen;omega) (by omega) (by have:=hB2.size;have:=hAL.size;omega) ?_;intro v' w3 hown hg hn;have HO:=Lib.hid hown;have HGR:Hid (World.grownBy _ w3 (Value.slice va k vc).ownBlock):=Lib.hid hg;have HN:Hid (NewOr _ (.slice va k vc) v'):=Lib.hid hn;obtain ⟨a5,c5',rfl⟩:=zaG hown;clear hown hg hn)
      obtain ⟨f0,f1,f2⟩:=HNF.out
      have hgen:∀ b,b < w2.heap.size→(Value.slice va k vc).ownBlock≠some b→w3.heap[b]?=w2.heap[b]?∧(Value.slice a5 (k+1) c5').ownBlock≠some b:=fun b hb hne=>by
       refine ⟨(HGR.out.block b (Nat.lt_of_lt_of_le hb hAL.size) (fun e=>hne e.symm)).trans (hAL.block b hb),fun e=>?_⟩
       rcases HN.out b e with e|e
       · exact hne e
       · have:=hAL.size;omega
      have hst1:Stays (fun j=>(Value.slice va k vc).ownBlock≠some j) (fun j=>(Value.slice a5 (k+1) c5').ownBlock≠some j) wr w3:=by
       refine ⟨Nat.le_trans hW2.size HGR.out.size,fun b hb hne=>?_⟩
       have hb':b < w2.heap.size:=Nat.lt_of_lt_of_le hb (Nat.le_trans hA1.size hb2.size)
       obtain ⟨g1,g2⟩:=hgen b hb' hne
       exact ⟨g1.trans ((hb2.block b (Nat.lt_of_lt_of_le hb hA1.size)).trans (hA1.block b hb)),g2⟩
      have hst2:Stays (NewA (fun k=>k < w.heap.size) (wr.alloc (.cells #[.string (at' lib k).name,.slice pa (at' lib k).params.length pc,.bool (at' lib k).list,.int .u8 (at' lib k).body.kind,.int .i64 (at' lib k).body.num,.string (at' lib k).body.name,.slice ka (at' lib k).body.kids.length kc] 94))) (fun j=>(Value.slice a5 (k+1) c5').ownBlock≠some j) w2 w3:=by
       refine ⟨Nat.le_trans hAL.size HGR.out.size,fun b hb hd=>hgen b hb (fun e=>?_)⟩
       have hr:=HROW.out.lt b e
       rcases hd with hd|hd|hd
       · omega
       · have:=hA1.size;omega
       · have:=HT.out.lt b hd;omega
      have hcell:AFnCells (NewA (fun k=>k < w.heap.size) (wr.alloc (.cells #[.string (at' lib k).name,.slice pa (at' lib k).params.length pc,.bool (at' lib k).list,.int .u8 (at' lib k).body.kind,.int .i64 (at' lib k).body.num,.string (at' lib k).body.name,.slice ka (at' lib k).body.kids.length kc] 94))) w2 (fun i=>vat [.string (at' lib k).name,.slice a1 (at' lib k).params.length e1,.bool (at' lib k).list,.slice a3 G.temps.length e3,.slice a4 G.body.length e4,.string G.result] i) G:=
       ⟨by rw [f0];rfl,by rw [f1];exact HPV.out,by rw [f2];rfl,HTV.out,HBV.out,rfl,by rw [f0];exact hsn,HRS.out⟩
      have hown:=HO.out
      have hsn2:=AFnsOwn.snoc (base:=w.heap.size) (l:=(normL lib).take k) (g:=G) HCS.out (by rw [HLK.out];exact HROW.out.1) (by rw [HLK.out];exact hown) hcell hst1 hst2
      rw [← HG.out,← zlL lib k hlt] at hsn2
      refine ⟨⟨k+1,by go_num,by omega,?_,hsn2⟩,by simp [intOf];omega⟩
      exact (hbl.trans (hW2.mono hbl.size)).grown HGR.out (Nat.le_trans hbl.size hW2.size) (fun j e=>(HROW.out.lt j e).1)
    · obtain rfl:k=lib.length:=by omega
      have hN:AFnsAt Any wr (.slice va lib.length vc) (normL lib):=by
       have h1:AFnsOwn w.heap.size wr (.slice va lib.length vc) ((normL lib).take lib.length):=⟨xs,by rw [HLK.out];exact HROW.out,HCS.out⟩
       rw [List.take_of_length_le (by simp [normL])] at h1
       exact h1.shut (by unfold maxLen;simp [normL];omega)
      have HN:=Lib.hid hN
      have hlt':¬ (lib.length:Int) < (lib.length:Int):=by omega
      clear hN
      go_wp2
      go_ret2
      exact ⟨fun h=>absurd HVE.out h,fun _=>⟨_,rfl,HN.out⟩,hbl⟩
 · have hv0:((validE lib).2 != 0)=true:=by simpa using hv
   have HVE:=Lib.hid hv
   clear hv
   go_enter Tryz.func32,Tryz.ntmps32
   go_wp2_with (go_at_call 54;refine HV.out.mono ?_;rintro e w1 ⟨rfl,hb1⟩)
   go_ret2
   exact ⟨fun _=>rfl,fun h=>absurd h HVE.out,hb1⟩
end Go.Proofs.YtpobmoegmdhbpaaGreatDoor
