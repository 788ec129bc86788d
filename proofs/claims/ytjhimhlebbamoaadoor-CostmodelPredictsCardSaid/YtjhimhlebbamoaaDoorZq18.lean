/- Contracts and plain lemmas (FcmD, FcmE, FcmF, PVis, FcmG): no statement of the seat is proved here. -/
import Derived.Test.YtjhimhlebbamoaaDoorZq17
import Derived.Test.YtjhimhlebbamoaaDoorZq06
import Derived.Test.YtjhimhlebbamoaaDoorZq13
import Derived.Test.YtjhimhlebbamoaaDoorZq07
/- Walks of package keepgen:Garbage. -/
set_option linter.unusedSimpArgs false
set_option linter.unusedVariables false
set_option linter.unusedSectionVars false
set_option maxRecDepth 100000
set_option maxHeartbeats 6400000
namespace Go.Proofs.YtjhimhlebbamoaaDoor
open Go.RowKit
def AFnV (A:Nat→Prop) (w:World) (g:AFn) (pa ta ba:Option Addr) (pc tc bc:Nat):Prop:=
 ParsAt A w (.slice pa g.params.length pc) g.params∧ParsAt A w (.slice ta g.temps.length tc) g.temps∧BdsAt A w (.slice ba g.body.length bc) g.body
abbrev afnV (g:AFn) (pa ta ba:Option Addr) (pc tc bc:Nat):Value:=.agg #[.string g.name,.slice pa g.params.length pc,.bool g.list,.slice ta g.temps.length tc,.slice ba g.body.length bc,.string g.result]
theorem AFnV.stays {A A':Nat→Prop} {w w':World} {g:AFn} {pa ta ba:Option Addr} {pc tc bc:Nat} (h:AFnV A w g pa ta ba pc tc bc) (hs:Stays A A' w w'):AFnV A' w' g pa ta ba pc tc bc:=⟨h.1.stays hs,h.2.1.stays hs,h.2.2.stays hs⟩
def GbPost (n:Nat) (w:World) (e:Ending) (w':World):Prop:=∃ a b:Int,e=.returned (.tuple #[.int .i64 a,.int .i64 b])∧a+b=n∧0≤a∧0≤b∧Below w.heap.size w w'
theorem garbage_any (g:AFn) (pa ta ba:Option Addr) (pc tc bc:Nat) (A:Nat→Prop) (w:World) (hg:AFnV A w g pa ta ba pc tc bc):
 Calls Tryd.prog 44 #[afnV g pa ta ba pc tc bc] w (GbPost g.temps.length w):=by
 have hB:Below w.heap.size w (w.alloc (.cells #[.string g.name,.slice pa g.params.length pc,.bool g.list,.slice ta g.temps.length tc,.slice ba g.body.length bc,.string g.result] 82)):=bel_alloc (Below.refl _ _)
 have HB:=Lib.hid hB
 have HT:=Lib.hid (hg.2.1.stays (Stays.of_below hB))
 have hl:=hg.2.1.form.1
 unfold maxLen at hl
 clear hg hB
 go_enter Tryd.func44,Tryd.ntmps44
 go_wp2
 generalize (w.alloc (.cells #[.string g.name,.slice pa g.params.length pc,.bool g.list,.slice ta g.temps.length tc,.slice ba g.body.length bc,.string g.result] 82))=W at *
 go_loopw [2,3,9] (fun a b i wr=>∃ (k:Nat) (x y:Int),k≤g.temps.length∧i=.int .i64 k∧a=.int .i64 x∧b=.int .i64 y∧x+y=k∧0≤x∧0≤y∧Below W.heap.size W wr) (fun _ _ i _=>g.temps.length - (intOf i).toNat)
 case atStart=>exact ⟨0,0,0,Nat.zero_le _,rfl,rfl,rfl,rfl,Int.le_refl _,Int.le_refl _,Below.refl _ _⟩
 case round=>
  obtain ⟨k,x,y,hk,rfl,rfl,rfl,hxy,hx,hy,hbl⟩:=hrel
  have HBL:=Lib.hid hbl
  by_cases hlt:k < g.temps.length
  · obtain ⟨b',off',cap',he,hb',_,_,p0,p1,hs⟩:=(HT.out.stays (Stays.of_below hbl)).at hlt
    simp only [Value.slice.injEq] at he
    obtain ⟨rfl,-,rfl⟩:=he
    clear hbl
    have hwx:IntKind.i64.wrap (x+1)=x+1:=by rw [IntKind.wrap_i64];omega
    have hwy:IntKind.i64.wrap (y+1)=y+1:=by rw [IntKind.wrap_i64];omega
    cases hp:(at' g.temps k).list with
    | true=>
      rw [hp] at p1
      clear hp
      go_wp2
      go_roundw
      case rel=>exact ⟨k+1,x,y+1,by omega,by go_num,rfl,rfl,by omega,hx,by omega,bel_alloc HBL.out⟩
      case measure=>simp [intOf];omega
    | false=>
      rw [hp] at p1
      clear hp
      go_wp2
      go_roundw
      case rel=>exact ⟨k+1,x+1,y,by omega,by go_num,rfl,rfl,by omega,by omega,hy,bel_alloc HBL.out⟩
      case measure=>simp [intOf];omega
  · obtain rfl:k=g.temps.length:=by omega
    have hlt':¬ (g.temps.length:Int) < (g.temps.length:Int):=by omega
    go_wp2
    (try simp only [Exit.inBlock,Exit.then])
    refine bodyPost_ret (results_tmp2 rfl _ _ _) rfl ?_
    exact ⟨x,y,rfl,hxy,hx,hy,HB.out.trans (HBL.out.mono HB.out.size)⟩
end Go.Proofs.YtjhimhlebbamoaaDoor
/- Walks of package costmodel:pushed. -/
namespace Go.Proofs.YtjhimhlebbamoaaDoor
open Go.RowKit
theorem sumI_le {B:Int}:∀ l:List Int,(∀ x ∈ l,x≤B)→sumI l≤l.length * B
 | [],_=>by simp [sumI]
 | x :: r,h=>by
   have h1:=h x (List.mem_cons_self ..)
   have h2:=sumI_le r (fun y hy=>h y (List.mem_cons_of_mem _ hy))
   rw [sumI,List.length_cons]
   push_cast
   rw [Int.add_mul,Int.one_mul];omega
theorem take_map_sum (l:List Par) (v:VEnv) {k:Nat} (hk:k < l.length):sumI ((l.take (k+1)).map (tempN v))=sumI ((l.take k).map (tempN v))+tempN v (at' l k):=by
 rw [List.map_take,List.map_take,sumI_take _ _ (by simpa using hk),at_map _ hk]
theorem pushed_any (lib:List Fn) (g:AFn) (pa ta ba:Option Addr) (pc tc bc:Nat) (t:Tr) (f0 r1:Int) (aa ra ka:Option Addr) (ca rn rc kc:Nat) (r0:Bool) (A:Nat→Prop) (w:World) (vals':VEnv) (hg:AFnV A w g pa ta ba pc tc bc) (hargs:RowsAt VlE A w (.slice aa t.args.length ca) t.args) (hcalls:RowsAt TrE A w (.slice ka t.calls.length kc) t.calls)
 (hgb:GoodBs lib g.body) (hsz:sizeBs g.body≤20000) (htl:g.temps.length≤10000) (hal:t.args.length=g.params.length) (hpl:g.params.length≤100) (hex:execBs apI g.body (bindPars g.params t.args) t.calls=some (vals',[])) (hav:∀ a ∈ t.args,VLen a) (hcv:∀ c ∈ t.calls,c.res.l.length≤1000):
 Calls Tryd.prog 32 #[afnV g pa ta ba pc tc bc,.agg #[.int .i64 f0,.slice aa t.args.length ca,.bool r0,.int .i64 r1,.slice ra rn rc,.slice ka t.calls.length kc]] w fun e w'=>e=.returned (.int .i64 (pushedN g t))∧Below w.heap.size w w':=by
 have hB0:Below w.heap.size w ((((w.alloc (.cells #[.string g.name,.slice pa g.params.length pc,.bool g.list,.slice ta g.temps.length tc,.slice ba g.body.length bc,.string g.result] 82)).alloc (.cells #[.int .i64 f0,.slice aa t.args.length ca,.bool r0,.int .i64 r1,.slice ra rn rc,.slice ka t.calls.length kc] 43)).alloc (.map #[] 0)).alloc (.cells #[.map (some (w.heap.size+1+1))] 109)):=bel_alloc (bel_alloc (bel_alloc (bel_alloc (Below.refl _ _))))
 have hA0:Stays A (fun j=>A j∧j < w.heap.size) w ((((w.alloc (.cells #[.string g.name,.slice pa g.params.length pc,.bool g.list,.slice ta g.temps.length tc,.slice ba g.body.length bc,.string g.result] 82)).alloc (.cells #[.int .i64 f0,.slice aa t.args.length ca,.bool r0,.int .i64 r1,.slice ra rn rc,.slice ka t.calls.length kc] 43)).alloc (.map #[] 0)).alloc (.cells #[.map (some (w.heap.size+1+1))] 109)):=⟨hB0.size,fun b hb a=>⟨hB0.block b hb,a,hb⟩⟩
 have HB0:=Lib.hid hB0
 have HG:=Lib.hid (hg.stays hA0)
 have HAR:=Lib.hid (hargs.stays hA0)
 have HCA:=Lib.hid (hcalls.stays hA0)
 have HAL:=Lib.hid hal
 have HEX:=Lib.hid hex
 have HAV:=Lib.hid hav
 have HCV:=Lib.hid hcv
 have HGB:=Lib.hid hgb
 have HF:Hid (((((w.alloc (.cells #[.string g.name,.slice pa g.params.length pc,.bool g.list,.slice ta g.temps.length tc,.slice ba g.body.length bc,.string g.result] 82)).alloc (.cells #[.int .i64 f0,.slice aa t.args.length ca,.bool r0,.int .i64 r1,.slice ra rn rc,.slice ka t.calls.length kc] 43)).alloc (.map #[] 0)).alloc (.cells #[.map (some (w.heap.size+1+1))] 109)).heap[w.heap.size]?=some (.cells #[.string g.name,.slice pa g.params.length pc,.bool g.list,.slice ta g.temps.length tc,.slice ba g.body.length bc,.string g.result] 82 (0,0))):=Lib.hid (blk_alloc (blk_alloc (blk_alloc (blk_new rfl))))
 have HTB:Hid (((((w.alloc (.cells #[.string g.name,.slice pa g.params.length pc,.bool g.list,.slice ta g.temps.length tc,.slice ba g.body.length bc,.string g.result] 82)).alloc (.cells #[.int .i64 f0,.slice aa t.args.length ca,.bool r0,.int .i64 r1,.slice ra rn rc,.slice ka t.calls.length kc] 43)).alloc (.map #[] 0)).alloc (.cells #[.map (some (w.heap.size+1+1))] 109)).heap[w.heap.size+1]?=some (.cells #[.int .i64 f0,.slice aa t.args.length ca,.bool r0,.int .i64 r1,.slice ra rn rc,.slice ka t.calls.length kc] 43 (0,0))):=Lib.hid (blk_alloc (blk_alloc (blk_new (by simp))))
 have HVB:Hid (((((w.alloc (.cells #[.string g.name,.slice pa g.params.length pc,.bool g.list,.slice ta g.temps.length tc,.slice ba g.body.length bc,.string g.result] 82)).alloc (.cells #[.int .i64 f0,.slice aa t.args.length ca,.bool r0,.int .i64 r1,.slice ra rn rc,.slice ka t.calls.length kc] 43)).alloc (.map #[] 0)).alloc (.cells #[.map (some (w.heap.size+1+1))] 109)).heap[w.heap.size+1+1+1]?=some (.cells #[.map (some (w.heap.size+1+1))] 109 (0,0))):=Lib.hid (blk_new (by simp))
 have HSZ:Hid (((((w.alloc (.cells #[.string g.name,.slice pa g.params.length pc,.bool g.list,.slice ta g.temps.length tc,.slice ba g.body.length bc,.string g.result] 82)).alloc (.cells #[.int .i64 f0,.slice aa t.args.length ca,.bool r0,.int .i64 r1,.slice ra rn rc,.slice ka t.calls.length kc] 43)).alloc (.map #[] 0)).alloc (.cells #[.map (some (w.heap.size+1+1))] 109)).heap.size=w.heap.size+4):=Lib.hid (by simp)
 have HPL:Hid (PLoop (fun j=>A j∧j < w.heap.size) ((((w.alloc (.cells #[.string g.name,.slice pa g.params.length pc,.bool g.list,.slice ta g.temps.length tc,.slice ba g.body.length bc,.string g.result] 82)).alloc (.cells #[.int .i64 f0,.slice aa t.args.length ca,.bool r0,.int .i64 r1,.slice ra rn rc,.slice ka t.calls.length kc] 43)).alloc (.map #[] 0)).alloc (.cells #[.map (some (w.heap.size+1+1))] 109)) (w.heap.size+1+1) g.params t.args 0 ((((w.alloc (.cells #[.string g.name,.slice pa g.params.length pc,.bool g.list,.slice ta g.temps.length tc,.slice ba g.body.length bc,.string g.result] 82)).alloc (.cells #[.int .i64 f0,.slice aa t.args.length ca,.bool r0,.int .i64 r1,.slice ra rn rc,.slice ka t.calls.length kc] 43)).alloc (.map #[] 0)).alloc (.cells #[.map (some (w.heap.size+1+1))] 109))):=Lib.hid ⟨Nat.zero_le _,Keeps.refl _ _,fun _=>none,(by
  have h:=SMapLe.made Tryd.prog 9 ((w.alloc (.cells #[.string g.name,.slice pa g.params.length pc,.bool g.list,.slice ta g.temps.length tc,.slice ba g.body.length bc,.string g.result] 82)).alloc (.cells #[.int .i64 f0,.slice aa t.args.length ca,.bool r0,.int .i64 r1,.slice ra rn rc,.slice ka t.calls.length kc] 43))
  have h2:=h.below (bel_alloc (x:=.cells #[.map (some (w.heap.size+1+1))] 109) (Below.refl _ _))
  simpa using h2),fun s=>⟨nofun,fun _=>rfl⟩⟩
 have hmm:=@run_makeMap Tryd.prog
 clear hB0 hA0 hg hargs hcalls hal hex hav hcv hgb
 go_enter Tryd.func32,Tryd.ntmps32
 go_wp2
 clear hmm
 generalize ((((w.alloc (.cells #[.string g.name,.slice pa g.params.length pc,.bool g.list,.slice ta g.temps.length tc,.slice ba g.body.length bc,.string g.result] 82)).alloc (.cells #[.int .i64 f0,.slice aa t.args.length ca,.bool r0,.int .i64 r1,.slice ra rn rc,.slice ka t.calls.length kc] 43)).alloc (.map #[] 0)).alloc (.cells #[.map (some (w.heap.size+1+1))] 109))=W at *
 go_loopw [19] (fun i wr=>∃ k:Nat,i=.int .i64 k∧PLoop (fun j=>A j∧j < w.heap.size) W (w.heap.size+1+1) g.params t.args k wr) (fun i _=>g.params.length - (intOf i).toNat)
 case atStart=>exact ⟨0,rfl,HPL.out⟩
 case round=>
  clear HPL
  obtain ⟨k,rfl,hk,hkp,m,hm,hen⟩:=hrel
  have hws:=HSZ.out
  have hkA:∀ j,A j∧j < w.heap.size→j < W.heap.size∧j≠w.heap.size+1+1:=fun j a=>by have:=a.2;omega
  have hzk:=hkp.size
  by_cases hlt:k < g.params.length
  · obtain ⟨b',off',cap',he,hb',_,_,p0,p1,hs⟩:=(HG.out.1.stays (hkp.stays (fun j a _=>(hkA j a).2))).at hlt
    simp only [Value.slice.injEq] at he
    obtain ⟨rfl,-,rfl⟩:=he
    have hbx:Below wr.heap.size wr (wr.alloc (.cells #[.string (at' g.params k).name,.bool (at' g.params k).list] 101)):=bel_alloc (Below.refl _ _)
    obtain ⟨b2,off2,cap2,va,vc,he,_,_,_,q0,q1,q2,hvn,hvr⟩:=vls_at ((HAR.out.stays (hkp.stays (fun j a _=>(hkA j a).2))).stays (Stays.of_below hbx)) (j:=k) (by have:=HAL.out;omega)
    simp only [Value.slice.injEq] at he
    obtain ⟨rfl,-,rfl⟩:=he
    have d1:=cell_blk (blk_below hbx ((hkp.block (w.heap.size+1) (by omega) (by omega)).trans HTB.out)) 1 rfl
    have d2:=cell_blk (blk_below hbx ((hkp.block (w.heap.size+1+1+1) (by omega) (by omega)).trans HVB.out)) 0 rfl
    have d3:(wr.alloc (.cells #[.string (at' g.params k).name,.bool (at' g.params k).list] 101)).cell? ⟨wr.heap.size,0,none⟩=some (.string (at' g.params k).name):=cell_blk (at_new0 wr _) 0 rfl
    obtain ⟨w6,hrun,hm6,hg6⟩:=(hm.below (bel_drew hbx)).store MVm hs (.agg #[.bool (at' t.args k).list,.int .i64 (at' t.args k).n,.slice va (at' t.args k).l.length vc]) (by unfold maxLen;omega)
    have HN:=Lib.hid (ploop_next HAL.out hlt hkp hen hkA (bel_drew hbx) (show VlAt (fun j=>A j∧j < w.heap.size) (wr.alloc (.cells #[.string (at' g.params k).name,.bool (at' g.params k).list] 101)).drew _ (at' t.args k) from ⟨va,vc,rfl,hvn,hvr⟩) hm6 hg6 (by omega))
    have i1:(k:Int) < (t.args.length:Int):=by have:=HAL.out;omega
    have i1n:k < t.args.length:=by have:=HAL.out;omega
    have i2:(0:Int)≤(k:Int):=by omega
    clear hm6 hg6 hvr hm hen hkp hbx hws hzk
    go_wp2
    go_region
    all_goals
     go_wp2
     exact ⟨⟨k+1,by go_num,HN.out⟩,by simp [intOf];omega⟩
  · obtain rfl:k=g.params.length:=by omega
    have hlt':¬ (g.params.length:Int) < (g.params.length:Int):=by omega
    have hen2:EnvOf (fun j=>A j∧j < w.heap.size) wr m (bindPars g.params t.args):=by
     have h:=hen
     rw [List.take_length,← HAL.out,List.take_length] at h
     exact h
    have hb10:Below wr.heap.size wr ((wr.alloc (.cells #[.slice ka t.calls.length kc] 41)).alloc (.cells #[.func (.func 42) #[] #[.pointer (some ⟨w.heap.size+1+1+1,0,none⟩),.pointer (some ⟨wr.heap.size+1,0,none⟩),.pointer (some ⟨wr.heap.size,0,none⟩)]] 110)):=bel_alloc (bel_alloc (Below.refl _ _))
    have hst0:Stays (fun j=>A j∧j < w.heap.size) (fun j=>A j∧j < w.heap.size) W ((wr.alloc (.cells #[.slice ka t.calls.length kc] 41)).alloc (.cells #[.func (.func 42) #[] #[.pointer (some ⟨w.heap.size+1+1+1,0,none⟩),.pointer (some ⟨wr.heap.size+1,0,none⟩),.pointer (some ⟨wr.heap.size,0,none⟩)]] 110)):=⟨Nat.le_trans hzk hb10.size,fun b hb a=>⟨(hb10.block b (by omega)).trans (hkp.block b hb (hkA b a).2),a⟩⟩
    have hF:=(hkp.block w.heap.size (by omega) (by omega)).trans HF.out
    have hT:=(hkp.block (w.heap.size+1) (by omega) (by omega)).trans HTB.out
    have hV:=(hkp.block (w.heap.size+1+1+1) (by omega) (by omega)).trans HVB.out
    have hst:ExSt (fun j=>A j∧j < w.heap.size) ((wr.alloc (.cells #[.slice ka t.calls.length kc] 41)).alloc (.cells #[.func (.func 42) #[] #[.pointer (some ⟨w.heap.size+1+1+1,0,none⟩),.pointer (some ⟨wr.heap.size+1,0,none⟩),.pointer (some ⟨wr.heap.size,0,none⟩)]] 110)) (w.heap.size+1+1+1) (wr.heap.size+1) wr.heap.size (w.heap.size+1+1) g.params.length (bindPars g.params t.args) t.calls:={
     v:=blk_below hb10 hV
     x:=at_new wr _ _
     k:=⟨ka,kc,at_old wr _ _,HCA.out.stays hst0⟩
     env:=⟨m,hm.below hb10,fun s=>⟨fun v e=>((hen2 s).1 v e).stays (Stays.of_below hb10),(hen2 s).2⟩⟩
     alt:=fun j a=>by have:=a.2;have:=hb10.size;omega
     nV:=fun a=>by have:=a.2;omega
     nX:=fun a=>by have:=a.2;omega
     nK:=fun a=>by have:=a.2;omega
     nM:=fun a=>by have:=a.2;omega
     mV:=by omega
     mX:=by omega
     mK:=by omega
     KV:=by omega
     KX:=by omega }
    have HCC:=Lib.hid (exec_any (sizeBs g.body+1) lib g.body ba bc _ ((wr.alloc (.cells #[.slice ka t.calls.length kc] 41)).alloc (.cells #[.func (.func 42) #[] #[.pointer (some ⟨w.heap.size+1+1+1,0,none⟩),.pointer (some ⟨wr.heap.size+1,0,none⟩),.pointer (some ⟨wr.heap.size,0,none⟩)]] 110)) _ _ _ _ _ 1000 (bindPars g.params t.args) t.calls vals' [] (by omega) (by omega) HEX.out (fun s=>bindPars_len _ _ HAV.out s) (by omega) (by omega) HCV.out HGB.out (HG.out.2.2.stays hst0) hst)
    have HG10:=Lib.hid (HG.out.stays hst0)
    have HF10:=Lib.hid (blk_below hb10 hF)
    have HZ10:Hid (w.heap.size+4≤wr.heap.size∧Below w.heap.size w wr∧wr.heap.size+2≤((wr.alloc (.cells #[.slice ka t.calls.length kc] 41)).alloc (.cells #[.func (.func 42) #[] #[.pointer (some ⟨w.heap.size+1+1+1,0,none⟩),.pointer (some ⟨wr.heap.size+1,0,none⟩),.pointer (some ⟨wr.heap.size,0,none⟩)]] 110)).heap.size):=Lib.hid ⟨by omega,HB0.out.trans (hkp.below (B:=w.heap.size) (fun j e=>by omega) (by omega)),by simp⟩
    have HBT:=Lib.hid hb10
    obtain ⟨t0,t1,t2,t3,t4,t5⟩:=cells6 hT
    obtain ⟨e0,e1,e2,e3,e4,e5⟩:=cells6 HF10.out
    have HXV:=Lib.hid (show w.heap.size+1+1+1 < wr.heap.size from by omega)
    clear hst hst0 hb10 hen hen2 hm hkp hzk hws hF hT hV hkA
    go_wp2_with fail
    (with_reducible refine HCC.out.mono ?_)
    rintro e w11 ⟨A',rfl,hs11,hk11,hu11,hn11⟩
    have HS11:=Lib.hid hs11
    have hzw:=HZ10.out.2.2
    have hf11:=(hk11.block w.heap.size (by have:=HZ10.out.1;omega) (by have:=HZ10.out.1;omega)).trans HF10.out
    have HF11:=Lib.hid hf11
    have HG11:=Lib.hid (HG10.out.stays (show Stays _ A' ((wr.alloc (.cells #[.slice ka t.calls.length kc] 41)).alloc (.cells #[.func (.func 42) #[] #[.pointer (some ⟨w.heap.size+1+1+1,0,none⟩),.pointer (some ⟨wr.heap.size+1,0,none⟩),.pointer (some ⟨wr.heap.size,0,none⟩)]] 110)) w11 from ⟨hk11.size,fun b hb a=>⟨hk11.block b hb (fun e=>by have:=a.2;have:=HZ10.out.1;omega),hu11 b a⟩⟩))
    have HB11:Hid (Below w.heap.size w w11):=Lib.hid ((HZ10.out.2.1.trans (HBT.out.mono HZ10.out.2.1.size)).trans (hk11.below (B:=w.heap.size) (fun j e=>by have:=HZ10.out.1;omega) (by have:=HZ10.out.1;omega)))
    have HGC:=Lib.hid (garbage_any g pa ta ba pc tc bc A' w11 HG11.out)
    have HVL:Hid (LenE vals' 21000):=Lib.hid ((execBs_len apI (K:=1000) g.body _ t.calls vals' [] 1000 HEX.out (fun s=>bindPars_len _ _ HAV.out s) (by omega) HCV.out).1.mono (by omega))
    obtain ⟨j0,j1,j2,j3,j4,j5⟩:=cells6 hf11
    clear hs11 hf11 hk11 hu11 hn11 e0 e1 e2 e3 e4 e5 t0 t1 t2 t3 t4 t5 HCC hzw
    go_wp2_with fail
    (with_reducible refine HGC.out.mono ?_)
    rintro e w12 ⟨x,y,rfl,hxy,hx,hy,hb12⟩
    have HB12:=Lib.hid hb12
    have hwxy:IntKind.i64.wrap (x+y)=x+y:=by rw [IntKind.wrap_i64];omega
    have hf12:=blk_below hb12 HF11.out
    have HT12:=Lib.hid (HG11.out.2.1.stays (Stays.of_below hb12))
    have HS12:=Lib.hid (HS11.out.below hb12)
    obtain ⟨j0,j1,j2,j3,j4,j5⟩:=cells6 hf12
    clear hf12 hb12 HGC
    go_wp2
    have HXY:Hid (x+y=g.temps.length):=Lib.hid hxy
    go_loopw [12,51] (fun s i wq=>∃ k:Nat,k≤g.temps.length∧i=.int .i64 k∧s=.int .i64 (g.temps.length+sumI ((g.temps.take k).map (tempN vals')))∧Below w12.heap.size w12 wq) (fun _ i _=>g.temps.length - (intOf i).toNat)
    case atStart=>exact ⟨0,Nat.zero_le _,rfl,by simp [sumI],Below.refl _ _⟩
    case round=>
     obtain ⟨k,hk,rfl,rfl,hbl⟩:=hrel
     have HBL:=Lib.hid hbl
     by_cases hlt:k < g.temps.length
     · obtain ⟨b',off',cap',he,hb',_,_,p0,p1,hs⟩:=(HT12.out.stays (Stays.of_below hbl)).at hlt
       simp only [Value.slice.injEq] at he
       obtain ⟨rfl,-,rfl⟩:=he
       have hbx:Below wr.heap.size wr (wr.alloc (.cells #[.string (at' g.temps k).name,.bool (at' g.temps k).list] 101)):=bel_alloc (Below.refl _ _)
       have hb2:Below w12.heap.size w12 (wr.alloc (.cells #[.string (at' g.temps k).name,.bool (at' g.temps k).list] 101)):=bel_alloc hbl
       have hs13:=HS12.out.below hb2
       have v0:=cell_blk hs13.v 0 rfl
       obtain ⟨m2,a2,c2,hm2,hg2,hv2⟩:=hs13.env.find (at' g.temps k).name
       have HM2:=Lib.hid hm2
       have HG2:=Lib.hid hg2
       have HTS:=Lib.hid (take_map_sum g.temps vals' hlt)
       have hle:=sumI_le (B:=21000) ((g.temps.take k).map (tempN vals')) (fun z hz=>by
        obtain ⟨p,_,rfl⟩:=List.mem_map.1 hz
        unfold tempN
        split
        · have:=HVL.out p.name;omega
        · omega)
       have hge:=sumI_nonneg ((g.temps.take k).map (tempN vals')) (fun z hz=>by
        obtain ⟨p,_,rfl⟩:=List.mem_map.1 hz
        exact tempN_nonneg _ _)
       have hlk:((g.temps.take k).map (tempN vals')).length≤10000:=by simp;omega
       have hlv:=HVL.out (at' g.temps k).name
       generalize sumI ((g.temps.take k).map (tempN vals'))=S at *
       have hS:S≤210000000:=Int.le_trans hle (by have:(((g.temps.take k).map (tempN vals')).length:Int)≤10000:=by omega
                                                 omega)
       have hwS:IntKind.i64.wrap ((g.temps.length:Int)+S+((vals' (at' g.temps k).name).l.length:Int))=(g.temps.length:Int)+S+((vals' (at' g.temps k).name).l.length:Int):=by rw [IntKind.wrap_i64];omega
       have fl2:=field_vl2
       have HB2:=Lib.hid hb2
       clear hbl hbx hs13 hm2 hg2 hv2 hle hge hlk hlv hS hb2
       cases hp:(at' g.temps k).list with
       | true=>
         rw [hp] at p1
         have HP:=Lib.hid hp
         rw [hp] at v0 HM2 HB2
         clear hp
         go_wp2_with (refine wpl_find MVm rfl (.tmp 58) (.tmp 60) false rfl rfl rfl (by exact HM2.out) hs (by exact HG2.out) ?_)
         go_roundw
         case rel=>exact ⟨k+1,by omega,by go_num,by rw [HTS.out,tempN,if_pos HP.out];congr 1;omega,HB2.out⟩
         case measure=>simp [intOf];omega
       | false=>
         rw [hp] at p1
         have HP:=Lib.hid hp
         rw [hp] at v0 HB2
         clear hp
         go_wp2
         go_roundw
         case rel=>exact ⟨k+1,by omega,by go_num,by rw [HTS.out,tempN,if_neg (by rw [HP.out];simp)];congr 1;omega,HB2.out⟩
         case measure=>simp [intOf];omega
     · obtain rfl:k=g.temps.length:=by omega
       have hlt2:¬ (g.temps.length:Int) < (g.temps.length:Int):=by omega
       have HV2:Hid (pushedN g t=g.temps.length+sumI (g.temps.map (tempN vals'))):=Lib.hid (by unfold pushedN valsN;rw [HEX.out];rfl)
       rw [List.take_length] at *
       clear hbl
       go_wp2
       go_ret
       rw [HV2.out]
       exact ⟨rfl,HB11.out.trans ((HB12.out.trans (HBL.out.mono HB12.out.size)).mono HB11.out.size)⟩
end Go.Proofs.YtjhimhlebbamoaaDoor
/- The state of costmodel.Predict's visit:the counters and what stays. No function of the program is walked here. -/
namespace Go.Proofs.YtjhimhlebbamoaaDoor
open Go.RowKit
def CntAt (w:World) (P:Nat) (l:List Int):Prop:=w.heap[P]?=some (.cells (l.map (Value.int .i64)).toArray 3 (0,0))
theorem CntAt.cell {w:World} {P:Nat} {l:List Int} (h:CntAt w P l) {i:Nat} (hi:i < l.length):w.cell? ⟨P,i,none⟩=some (.int .i64 (at' l i)):=
 cell_blk h i (by simp [at_eq hi,hi])
theorem CntAt.set {w:World} {P:Nat} {l:List Int} (h:CntAt w P l) (i:Nat) (x:Int):CntAt (w.setCell ⟨P,i,none⟩ (.int .i64 x)) P (l.set i x):=by
 have:=heap_setCell_same w P i _ _ (.int .i64 x) h
 unfold CntAt
 rw [this]
 congr 2
 simp [List.map_set]
structure ViC where
 c:Nat
 p:Nat
 q:Nat
 nb:Nat
 kb:Nat
 lb:Nat
 vb:Nat
 na:Option Addr
 nc:Nat
 ka:Option Addr
 kc:Nat
 la:Option Addr
 lc:Nat
 lib:List Fn
 kept:List ByteArray
 ok:(validE lib).2=0
abbrev ViC.fv (C:ViC):Value:=.func (.func 31) #[] #[.pointer (some ⟨C.c,0,none⟩),.pointer (some ⟨C.nb,0,none⟩),.pointer (some ⟨C.kb,0,none⟩),.pointer (some ⟨C.lb,0,none⟩),.pointer (some ⟨C.vb,0,none⟩)]
structure ViSt (C:ViC) (A:Nat→Prop) (w:World) (s:Cnt):Prop where
 c:w.heap[C.c]?=some (.cells #[.slice (some ⟨C.p,0,none⟩) C.lib.length C.lib.length,.slice (some ⟨C.q,0,none⟩) C.lib.length C.lib.length,.int .i64 0] 29 (0,0))
 p:CntAt w C.p s.calls
 q:CntAt w C.q s.kept
 n:w.heap[C.nb]?=some (.cells #[.slice C.na C.lib.length C.nc] 33 (0,0))
 k:w.heap[C.kb]?=some (.cells #[.slice C.ka C.kept.length C.kc] 23 (0,0))
 l:w.heap[C.lb]?=some (.cells #[.slice C.la C.lib.length C.lc] 22 (0,0))
 v:w.heap[C.vb]?=some (.cells #[C.fv] 78 (0,0))
 norm:AFnsAt A w (.slice C.na C.lib.length C.nc) (normL C.lib)
 kept:StrsAt A w (.slice C.ka C.kept.length C.kc) C.kept
 lib:FnsAt A w (.slice C.la C.lib.length C.lc) C.lib
 len:s.Len C.lib.length
 alt:∀ j,A j→j < w.heap.size
 ap:¬ A C.p
 aq:¬ A C.q
 pq:C.p≠C.q
 other:∀ j,j=C.c∨j=C.nb∨j=C.kb∨j=C.lb∨j=C.vb→j≠C.p∧j≠C.q
theorem ViSt.keeps {C:ViC} {A:Nat→Prop} {w w':World} {s s':Cnt} (h:ViSt C A w s) (hk:Keeps w w' (fun j=>j=C.p∨j=C.q)) (hp:CntAt w' C.p s'.calls) (hq:CntAt w' C.q s'.kept) (hl:s'.Len C.lib.length):ViSt C A w' s':=by
 have hst:Stays A A w w':=hk.stays (fun j a _ e=>by
  rcases e with e|e
  · exact h.ap (e ▸ a)
  · exact h.aq (e ▸ a))
 have ho:∀ {j:Nat} {o:Obj},w.heap[j]?=some o→(j=C.c∨j=C.nb∨j=C.kb∨j=C.lb∨j=C.vb)→w'.heap[j]?=some o:=fun {j o} hj hc=>(hk.block j (blk_lt hj) (fun e=>by
  have:=h.other j hc
  rcases e with e|e
  · exact this.1 e
  · exact this.2 e)).trans hj
 exact { h with
  c:=ho h.c (.inl rfl)
  p:=hp
  q:=hq
  n:=ho h.n (.inr (.inl rfl))
  k:=ho h.k (.inr (.inr (.inl rfl)))
  l:=ho h.l (.inr (.inr (.inr (.inl rfl))))
  v:=ho h.v (.inr (.inr (.inr (.inr rfl))))
  norm:=h.norm.stays hst
  kept:=h.kept.stays hst
  lib:=h.lib.stays hst
  len:=hl
  alt:=fun j a=>Nat.lt_of_lt_of_le (h.alt j a) hk.size }
theorem ViSt.below {C:ViC} {A:Nat→Prop} {w w':World} {s:Cnt} (h:ViSt C A w s) (hb:Below w.heap.size w w'):ViSt C A w' s:=
 h.keeps (Keeps.of_below _ hb) (blk_below hb h.p) (blk_below hb h.q) h.len
theorem ViSt.hitP {C:ViC} {A:Nat→Prop} {w:World} {s:Cnt} (h:ViSt C A w s) {f:Nat} (n:Int):ViSt C A (w.setCell ⟨C.p,f,none⟩ (.int .i64 (at' s.calls f+n))) (hit s false f n):=
 h.keeps ((keeps_set w C.p f _).mono (fun j e=>.inl e)) (h.p.set f _) (blk_set h.q (fun e=>h.pq e.symm)) (hit_len h.len false f n)
theorem ViSt.hitQ {C:ViC} {A:Nat→Prop} {w:World} {s:Cnt} (h:ViSt C A w s) {f:Nat} (n:Int):ViSt C A (w.setCell ⟨C.q,f,none⟩ (.int .i64 (at' s.kept f+n))) (hit s true f n):=
 h.keeps ((keeps_set w C.q f _).mono (fun j e=>.inr e)) (blk_set h.p h.pq) (h.q.set f _) (hit_len h.len true f n)
def TrV (A:Nat→Prop) (w:World) (t:Tr) (aa a3 a5:Option Addr) (k1 k3 k5:Nat):Prop:=
 RowsAt VlE A w (.slice aa t.args.length k1) t.args∧RowsAt TrE A w (.slice a5 t.calls.length k5) t.calls∧In64 t.f
abbrev trV (t:Tr) (aa a3 a5:Option Addr) (k1 k3 k5:Nat):Value:=.agg #[.int .i64 t.f,.slice aa t.args.length k1,.bool t.res.list,.int .i64 t.res.n,.slice a3 t.res.l.length k3,.slice a5 t.calls.length k5]
theorem TrV.stays {A A':Nat→Prop} {w w':World} {t:Tr} {aa a3 a5:Option Addr} {k1 k3 k5:Nat} (h:TrV A w t aa a3 a5 k1 k3 k5) (hs:Stays A A' w w'):TrV A' w' t aa a3 a5 k1 k3 k5:=⟨h.1.stays hs,h.2.1.stays hs,h.2.2⟩
theorem trs_at {A:Nat→Prop} {w:World} {v:Value} {l:List Tr} (h:RowsAt TrE A w v l) {j:Nat} (hj:j < l.length):
 ∃ b off cap aa a3 a5 k1 k3 k5,v=.slice (some ⟨b,off,none⟩) l.length cap∧b < w.heap.size∧w.cell? ⟨b,off+j * 6,none⟩=some (.int .i64 (at' l j).f)∧w.cell? ⟨b,off+j * 6+1,none⟩=some (.slice aa (at' l j).args.length k1)∧w.cell? ⟨b,off+j * 6+2,none⟩=some (.bool (at' l j).res.list)∧
   w.cell? ⟨b,off+j * 6+3,none⟩=some (.int .i64 (at' l j).res.n)∧w.cell? ⟨b,off+j * 6+4,none⟩=some (.slice a3 (at' l j).res.l.length k3)∧w.cell? ⟨b,off+j * 6+5,none⟩=some (.slice a5 (at' l j).calls.length k5)∧TrV A w (at' l j) aa a3 a5 k1 k3 k5:=by
 obtain ⟨b,off,cap,cs,he,hb,_,_,hcl,hC⟩:=h.at hj
 have hC':TrC A w cs (at' l j):=hC
 obtain ⟨_,aa,k1,h1⟩:=hC'.c1.form
 obtain ⟨_,a3,k3,h3⟩:=hC'.c2.c2.form
 obtain ⟨_,a5,k5,h5⟩:=hC'.c5.form
 have g0:=hcl 0 (by decide)
 have g1:=hcl 1 (by decide)
 have g2:=hcl 2 (by decide)
 have g3:=hcl 3 (by decide)
 have g4:=hcl 4 (by decide)
 have g5:=hcl 5 (by decide)
 rw [hC'.c0] at g0
 rw [h1] at g1
 rw [show cs 2=_ from hC'.c2.c0] at g2
 rw [show cs 3=_ from hC'.c2.c1] at g3
 rw [show cs 4=_ from h3] at g4
 rw [h5] at g5
 exact ⟨b,off,cap,aa,a3,a5,k1,k3,k5,he,hb,g0,g1,g2,g3,g4,g5,by rw [← h1];exact hC'.c1,by rw [← h5];exact trs_rows.1 hC'.c5,hC'.ok⟩
end Go.Proofs.YtjhimhlebbamoaaDoor
/- Predict's visit,in plain Lean:the bounds,and the children one by one. No program in sight. -/
namespace Go.Proofs.YtjhimhlebbamoaaDoor
theorem visL_snoc (pu:Tr→Int) (K:Int→Bool) (t:Tr):∀ (l:List Tr) (n:Int) (s:Cnt),visL pu K (l ++ [t]) n s=((visL pu K l n s).1+(if K t.f then (visT pu K t (K t.f) n (visL pu K l n s).2).1 else 0),(visT pu K t (K t.f) n (visL pu K l n s).2).2)
 | [],n,s=>by simp [visL]
 | u :: l,n,s=>by
   rw [List.cons_append,visL,visL_snoc pu K t l,visL]
   simp only [Int.add_assoc]
theorem visL_take (pu:Tr→Int) (K:Int→Bool) (l:List Tr) {k:Nat} (hk:k < l.length) (n:Int) (s:Cnt):visL pu K (l.take (k+1)) n s=((visL pu K (l.take k) n s).1+(if K (at' l k).f then (visT pu K (at' l k) (K (at' l k).f) n (visL pu K (l.take k) n s).2).1 else 0),(visT pu K (at' l k) (K (at' l k).f) n (visL pu K (l.take k) n s).2).2):=by
 rw [List.take_succ_eq_append_getElem hk,← at_eq hk,visL_snoc]
theorem wL_append (K:Int→Bool):∀ l m:List Tr,wL K (l ++ m)=wL K l+wL K m
 | [],m=>by rw [List.nil_append,wL];omega
 | t :: l,m=>by rw [List.cons_append,wL,wL,wL_append K l m];omega
theorem wL_take (K:Int→Bool) (l:List Tr) {k:Nat} (hk:k < l.length):wL K (l.take k)+wT K (at' l k) (K (at' l k).f)≤wL K l:=by
 have e:l=l.take k ++ (at' l k :: l.drop (k+1)):=by
  rw [at_eq hk,← List.drop_eq_getElem_cons hk,List.take_append_drop]
 have h:wL K l=wL K (l.take k)+(wT K (at' l k) (K (at' l k).f)+wL K (l.drop (k+1))):=by
  conv=>lhs;rw [e]
  rw [wL_append,wL]
 have:=wL_pos K (l.drop (k+1))
 omega
theorem at_le_sum {l:List Int} (h:∀ i,0≤at' l i) (i:Nat):at' l i≤sumI l:=by
 have key:∀ (l:List Int),(∀ x ∈ l,0≤x)→∀ i,at' l i≤sumI l:=by
  intro l
  induction l with
  | nil=>intro _ i;simp [at',sumI,default]
  | cons x r ih=>
    intro h i
    have h1:=h x (List.mem_cons_self ..)
    have h2:=sumI_nonneg r (fun y hy=>h y (List.mem_cons_of_mem _ hy))
    cases i with
    | zero=>show x≤_;rw [sumI];omega
    | succ i=>
      have h3:=ih (fun y hy=>h y (List.mem_cons_of_mem _ hy)) i
      rw [sumI]
      show at' r i≤_
      omega
 refine key l (fun x hx=>?_) i
 obtain ⟨j,hj,rfl⟩:=List.getElem_of_mem hx
 have:=h j
 rwa [at_eq hj] at this
theorem TrLens.mem:∀ {l:List Tr},TrLens l→∀ t ∈ l,TrLen t
 | [],_,t,ht=>by simp at ht
 | c :: l,h,t,ht=>by
   rw [TrLens] at h
   rcases List.mem_cons.1 ht with rfl|ht
   · exact h.1
   · exact h.2.mem t ht
theorem trlen_res {t:Tr} (h:TrLen t):t.res.l.length≤1000:=by
 cases t with
 | mk f args res cs=>rw [TrLen] at h;exact h.2.1
theorem pu_le {lib:List Fn} (hv:(validE lib).2=0) {t:Tr} (ht:TrOk apI lib t) (hl:TrLen t):0≤puN lib t∧puN lib t≤100000000:=by
 refine ⟨pushedN_nonneg _ _,?_⟩
 obtain ⟨f,args,res,cs⟩:=t
 rw [TrOk] at ht
 rw [TrLen] at hl
 obtain ⟨⟨h0,h1,h2,vals',hx⟩,h4⟩:=ht
 obtain ⟨g1,g2,g3⟩:=norm_good hv h1
 have hsz:=(valid_ok hv h1).size
 have hle:=(execBs_len apI (K:=1000) _ _ _ _ _ 1000 hx (fun s=>bindPars_len _ _ hl.1 s) (by omega) (fun c hc=>trlen_res (hl.2.2.mem c hc))).1
 show pushedN (normF lib (fnAt lib f)) (.mk f args res cs)≤_
 have e:valsN (normF lib (fnAt lib f)) (.mk f args res cs)=vals':=by
  unfold valsN
  show ((execBs apI (normF lib (fnAt lib f)).body (bindPars (fnAt lib f).params args) cs).getD (noEnv,[])).1=vals'
  rw [hx];rfl
 unfold pushedN
 rw [e]
 have key:∀ l:List Int,(∀ x ∈ l,x≤13000)→sumI l≤l.length * 13000:=by
  intro l
  induction l with
  | nil=>intro _;simp [sumI]
  | cons x r ih=>
    intro h
    have h1:=h x (List.mem_cons_self ..)
    have h2:=ih (fun y hy=>h y (List.mem_cons_of_mem _ hy))
    rw [sumI,List.length_cons]
    push_cast
    omega
 have hk:=key ((normF lib (fnAt lib f)).temps.map (tempN vals')) (fun x hx=>by
  obtain ⟨p,_,rfl⟩:=List.mem_map.1 hx
  unfold tempN
  split
  · have:=hle p.name
    unfold fnAt at this
    omega
  · omega)
 rw [List.length_map] at hk
 have h3:(normF lib (fnAt lib f)).temps.length≤2 * sizeN (fnAt lib f).body:=g3
 have h5:sizeN (fnAt lib f).body≤2000:=hsz
 omega
mutual
theorem gT_le {lib:List Fn} (hv:(validE lib).2=0) (K:Int→Bool):∀ (t:Tr) (keeps:Bool),TrOk apI lib t→TrLen t→0≤gT (puN lib) K t keeps∧gT (puN lib) K t keeps≤100000000 * stepsT t
 | .mk f args res cs,keeps,ht,hl=>by
   have hp:=pu_le hv ht hl
   rw [TrOk] at ht
   rw [TrLen] at hl
   have h:=gL_le hv K cs ht.2 hl.2.2
   rw [gT,stepsT]
   split <;> omega
theorem gL_le {lib:List Fn} (hv:(validE lib).2=0) (K:Int→Bool):∀ l:List Tr,TrOks apI lib l→TrLens l→0≤gL (puN lib) K l∧gL (puN lib) K l≤100000000 * stepsL l
 | [],_,_=>by rw [gL,stepsL];omega
 | t :: r,ht,hl=>by
   rw [TrOks] at ht
   rw [TrLens] at hl
   have h1:=gT_le hv K t (K t.f) ht.1 hl.1
   have h2:=gL_le hv K r ht.2 hl.2
   rw [gL,stepsL]
   split <;> omega
end
theorem TrOks.take {ap:Ap} {lib:List Fn} {l:List Tr} (h:TrOks ap lib l) (k:Nat):TrOks ap lib (l.take k):=by
 induction l generalizing k with
 | nil=>simpa using h
 | cons t r ih=>
   cases k with
   | zero=>exact TrOks.nil _ _
   | succ k=>rw [TrOks] at h;rw [List.take_succ_cons,TrOks];exact ⟨h.1,ih h.2 k⟩
theorem TrLens.take {l:List Tr} (h:TrLens l) (k:Nat):TrLens (l.take k):=by
 induction l generalizing k with
 | nil=>simpa using h
 | cons t r ih=>
   cases k with
   | zero=>exact TrLens.nil
   | succ k=>rw [TrLens] at h;rw [List.take_succ_cons,TrLens];exact ⟨h.1,ih h.2 k⟩
theorem stepsT_pos (t:Tr):1≤stepsT t:=by
 cases t with
 | mk f a r cs=>rw [stepsT];have:=Int.le_trans (by omega:(0:Int)≤cs.length) (len_steps cs);omega
theorem stepsL_take:∀ (l:List Tr) (k:Nat),stepsL (l.take k)≤stepsL l
 | [],k=>by simp
 | t :: r,0=>by rw [List.take_zero,stepsL];exact Int.le_trans (by omega) (len_steps (t :: r))
 | t :: r,k+1=>by rw [List.take_succ_cons,stepsL,stepsL];have:=stepsL_take r k;omega
theorem steps_at:∀ (l:List Tr) (k:Nat),k < l.length→stepsT (at' l k)≤stepsL l
 | [],k,h=>by simp at h
 | t :: r,0,_=>by rw [stepsL];show stepsT t≤_;have:=Int.le_trans (by omega:(0:Int)≤r.length) (len_steps r);omega
 | t :: r,k+1,h=>by rw [stepsL];have:=steps_at r k (by simpa using h);have:=stepsT_pos t;show stepsT (at' r k)≤_;omega
theorem vi_child {lib:List Fn} (hv:(validE lib).2=0) {K:Int→Bool} {fi:Nat} {args:List Vl} {res:Vl} {cs:List Tr} {keeps:Bool} {n n':Int} {s:Cnt} (hok:TrOk apI lib (.mk (fi:Int) args res cs)) (htl:TrLen (.mk (fi:Int) args res cs)) (hL:s.Len lib.length) (hn:0≤n∧n≤1152921504606846976) (hev:keeps=true→n % 2=0) (hnn:(∀ i,0≤at' s.calls i)∧(∀ i,0≤at' s.kept i))
 (hbd:s.total+n * wT K (.mk (fi:Int) args res cs) keeps≤1152921504606846976) (hn':n'=if keeps then n else n * 2) {k:Nat} (hk:k < cs.length):
 (0≤n'∧n'≤1152921504606846976)∧n' % 2=0∧(∀ i,0≤at' (visL (puN lib) K (cs.take k) n' (hit s keeps fi n)).2.calls i)∧(∀ i,0≤at' (visL (puN lib) K (cs.take k) n' (hit s keeps fi n)).2.kept i)∧(visL (puN lib) K (cs.take k) n' (hit s keeps fi n)).2.total+n' * wT K (at' cs k) (K (at' cs k).f)≤1152921504606846976∧
 TrOk apI lib (at' cs k)∧TrLen (at' cs k)∧stepsT (at' cs k) < stepsT (.mk (fi:Int) args res cs):=by
 have hok0:=hok
 rw [TrOk] at hok
 rw [TrLen] at htl
 obtain ⟨⟨h0,h1,_⟩,hoks⟩:=hok
 have hfi:(fi:Int).toNat < lib.length:=h1
 have hev':n' % 2=0:=by
  rw [hn'];cases keeps
  · simp only [Bool.false_eq_true,if_false];omega
  · simp only [if_true];exact hev rfl
 have hn0:0≤n':=by rw [hn'];cases keeps <;> simp <;> omega
 have hT:=hit_total hL keeps n hfi
 have hHL:=hit_len hL keeps (fi:Int) n
 have hnoks:=hoks.take k
 have hVT:=visL_total (puN lib) K (cs.take k) n' (hit s keeps fi n) hnoks hHL
 have hR:=visL_root (puN lib) K (cs.take k) n' (hit s keeps fi n) hnoks hHL hn0 hev'
 have hG:=hit_grows hL keeps hfi hn.1
 have hw:=wL_take K cs hk
 have hp:=wT_pos K (at' cs k) (K (at' cs k).f)
 have hwl:=wL_pos K (cs.take k)
 have hmul:n * wT K (.mk (fi:Int) args res cs) keeps=n+n' * wL K cs:=by
  rw [wT,hn']
  cases keeps
  · simp only [Bool.false_eq_true,if_false];rw [Int.mul_add,Int.mul_one,Int.mul_assoc]
  · simp only [if_true];rw [Int.one_mul,Int.mul_add,Int.mul_one]
 have hm1:n' * (wL K (cs.take k)+wT K (at' cs k) (K (at' cs k).f))≤n' * wL K cs:=Int.mul_le_mul_of_nonneg_left hw hn0
 rw [Int.mul_add] at hm1
 have hm2:n'≤n' * wT K (at' cs k) (K (at' cs k).f):=by
  have:=Int.mul_le_mul_of_nonneg_left hp hn0
  simpa using this
 have hm3:0≤n' * wL K (cs.take k):=Int.mul_nonneg hn0 hwl
 have hs0:0≤s.total:=by
  have a:=sumI_nonneg s.calls (fun x hx=>by obtain ⟨j,hj,rfl⟩:=List.getElem_of_mem hx;have:=hnn.1 j;rwa [at_eq hj] at this)
  have b:=sumI_nonneg s.kept (fun x hx=>by obtain ⟨j,hj,rfl⟩:=List.getElem_of_mem hx;have:=hnn.2 j;rwa [at_eq hj] at this)
  show 0≤sumI s.calls+sumI s.kept
  omega
 refine ⟨⟨hn0,by omega⟩,hev',fun i=>?_,fun i=>?_,?_,hoks.mem _ (at_mem hk),htl.2.2.mem _ (at_mem hk),?_⟩
 · have:=hR.grows.c i;have:=hG.c i;have:=hnn.1 i;omega
 · have:=hR.grows.k i;have:=hG.k i;have:=hnn.2 i;omega
 · rw [hVT.1,hT];omega
 · rw [stepsT];have:=steps_at cs k hk;omega
theorem vi_sum {lib:List Fn} (hv:(validE lib).2=0) (K:Int→Bool) {fi:Nat} {args:List Vl} {res:Vl} {cs:List Tr} (hok:TrOk apI lib (.mk (fi:Int) args res cs)) (htl:TrLen (.mk (fi:Int) args res cs)) (hst:stepsT (.mk (fi:Int) args res cs)≤100000) (n':Int) (s1:Cnt) (k:Nat):
 0≤(visL (puN lib) K (cs.take k) n' s1).1∧(visL (puN lib) K (cs.take k) n' s1).1≤10000000000000:=by
 rw [TrOk] at hok
 rw [TrLen] at htl
 rw [stepsT] at hst
 rw [visL_g]
 have h:=gL_le hv K (cs.take k) (hok.2.take k) (htl.2.2.take k)
 have h2:=stepsL_take cs k
 omega
end Go.Proofs.YtjhimhlebbamoaaDoor
/- Walks of package costmodel:Predict's visit. -/
namespace Go.Proofs.YtjhimhlebbamoaaDoor
open Go.RowKit
theorem inK_inB (lib:List Fn) (kept:List ByteArray) (f:Int):inK lib kept f=inB kept (fnAt lib f).name:=by
 unfold inK inB
 congr 1
 funext x
 by_cases h:(fnAt lib f).name=x
 · simp [h]
 · rw [decide_eq_false h,decide_eq_false (fun e=>h e.symm)]
theorem afn_at {A:Nat→Prop} {w:World} {v:Value} {l:List AFn} (h:AFnsAt A w v l) {j:Nat} (hj:j < l.length):
 ∃ b off cap pa pc ta tc ba bc,v=.slice (some ⟨b,off,none⟩) l.length cap∧b < w.heap.size∧l.length≤cap∧w.cell? ⟨b,off+j * 6,none⟩=some (.string (at' l j).name)∧w.cell? ⟨b,off+j * 6+1,none⟩=some (.slice pa (at' l j).params.length pc)∧w.cell? ⟨b,off+j * 6+2,none⟩=some (.bool (at' l j).list)∧
   w.cell? ⟨b,off+j * 6+3,none⟩=some (.slice ta (at' l j).temps.length tc)∧w.cell? ⟨b,off+j * 6+4,none⟩=some (.slice ba (at' l j).body.length bc)∧w.cell? ⟨b,off+j * 6+5,none⟩=some (.string (at' l j).result)∧
   ParsAt A w (.slice pa (at' l j).params.length pc) (at' l j).params∧ParsAt A w (.slice ta (at' l j).temps.length tc) (at' l j).temps∧BdsAt A w (.slice ba (at' l j).body.length bc) (at' l j).body∧(at' l j).name.size≤maxLen∧(at' l j).result.size≤maxLen:=by
 obtain ⟨cs,h,hf⟩:=h
 obtain ⟨b,off,cap,rfl,h1,h2,h3,h4⟩:=h.at hj
 have e:=hf j hj
 obtain ⟨_,pa,pc,f1⟩:=e.c1.form
 obtain ⟨_,ta,tc,f3⟩:=e.c3.form
 obtain ⟨_,ba,bc,f4⟩:=e.c4.form
 have g1:=h4 1 (by omega)
 have g3:=h4 3 (by omega)
 have g4:=h4 4 (by omega)
 have e1:=e.c1
 have e3:=e.c3
 have e4:=e.c4
 rw [f1] at g1 e1
 rw [f3] at g3 e3
 rw [f4] at g4 e4
 exact ⟨b,off,cap,pa,pc,ta,tc,ba,bc,rfl,h1,h2,by rw [← e.c0];exact h4 0 (by omega),g1,by rw [← e.c2];exact h4 2 (by omega),g3,g4,by rw [← e.c5];exact h4 5 (by omega),e1,e3,e4,e.s0,e.s5⟩
theorem trok_f {lib:List Fn} {t:Tr} (h:TrOk apI lib t):0≤t.f∧t.f.toNat < lib.length:=by
 cases t with
 | mk f a r cs=>rw [TrOk] at h;exact ⟨h.1.1,h.1.2.1⟩
def ViPost (C:ViC) (A:Nat→Prop) (w:World) (r:Int × Cnt) (e:Ending) (w':World):Prop:=e=.returned (.int .i64 r.1)∧ViSt C A w' r.2∧Keeps w w' (fun j=>j=C.p∨j=C.q)
def XVi (m:Nat):Prop:=∀ (C:ViC) (A:Nat→Prop) (w:World) (s:Cnt) (t:Tr) (aa a3 a5:Option Addr) (k1 k3 k5:Nat) (keeps:Bool) (n:Int),stepsT t < m→stepsT t≤100000→TrOk apI C.lib t→TrLen t→0≤n∧n≤1152921504606846976→(keeps=true→n % 2=0)→(∀ i,0≤at' s.calls i)∧(∀ i,0≤at' s.kept i)→s.total+n * wT (inK C.lib C.kept) t keeps≤1152921504606846976→
 TrV A w t aa a3 a5 k1 k3 k5→ViSt C A w s→
 Calls Tryd.prog 31 #[trV t aa a3 a5 k1 k3 k5,.bool keeps,.int .i64 n,.pointer (some ⟨C.c,0,none⟩),.pointer (some ⟨C.nb,0,none⟩),.pointer (some ⟨C.kb,0,none⟩),.pointer (some ⟨C.lb,0,none⟩),.pointer (some ⟨C.vb,0,none⟩)] w (ViPost C A w (visT (puN C.lib) (inK C.lib C.kept) t keeps n s))
def CutV (C:ViC) (A:Nat→Prop) (w:World) (s:Cnt) (fi:Nat) (keeps:Bool) (n g0:Int) (o:Obj) (n2 s12:Value) (wx:World):Prop:=
 n2=.int .i64 (if keeps then n else n * 2)∧s12=.int .i64 g0∧ViSt C A wx (hit s keeps fi n)∧Keeps w wx (fun j=>j=C.p∨j=C.q)∧wx.heap[w.heap.size]?=some o
theorem cutv_p {C:ViC} {A:Nat→Prop} {w w1:World} {s:Cnt} {fi:Nat} {n:Int} {o:Obj} (h:ViSt C A w1 s) (hb:Below w.heap.size w w1) (ho:w1.heap[w.heap.size]?=some o) (hne:w.heap.size≠C.p):CutV C A w s fi false n 0 o (.int .i64 (n * 2)) (.int .i64 0) (w1.setCell ⟨C.p,fi,none⟩ (.int .i64 (at' s.calls fi+n))):=
 ⟨rfl,rfl,h.hitP n,(Keeps.of_below _ hb).same ((keeps_set w1 C.p fi _).mono (fun j e=>.inl e)),blk_set ho hne⟩
theorem cutv_q {C:ViC} {A:Nat→Prop} {w w1 w5:World} {s:Cnt} {fi:Nat} {n g:Int} {o:Obj} (h:ViSt C A w1 s) (hb:Below w.heap.size w w1) (ho:w1.heap[w.heap.size]?=some o) (hne:w.heap.size≠C.q) (h5:Below w1.heap.size (w1.setCell ⟨C.q,fi,none⟩ (.int .i64 (at' s.kept fi+n))) w5):CutV C A w s fi true n g o (.int .i64 n) (.int .i64 g) w5:=by
 have hk:=(Keeps.of_below (fun j=>j=C.p∨j=C.q) hb).same ((keeps_set w1 C.q fi (.int .i64 (at' s.kept fi+n))).mono (fun j e=>.inr e))
 have hs:(w1.setCell ⟨C.q,fi,none⟩ (.int .i64 (at' s.kept fi+n))).heap.size=w1.heap.size:=by simp
 have h5':Below (w1.setCell ⟨C.q,fi,none⟩ (.int .i64 (at' s.kept fi+n))).heap.size (w1.setCell ⟨C.q,fi,none⟩ (.int .i64 (at' s.kept fi+n))) w5:=by rw [hs];exact h5
 exact ⟨rfl,rfl,(h.hitQ n).below h5',hk.same (Keeps.of_below _ h5'),blk_below h5' (blk_set ho hne)⟩
theorem visit_step (m:Nat) (ih:XVi m):XVi (m+1):=by
 intro C A w s t aa a3 a5 k1 k3 k5 keeps n hm hst1 htk htl hn hev hnn hbd htv hvs
 obtain ⟨f,args,res,cs⟩:=t
 have HTK:=Lib.hid htk
 have HTL:=Lib.hid htl
 have HPU:=Lib.hid (pu_le C.ok htk htl)
 have HGT:=Lib.hid (gT_le C.ok (inK C.lib C.kept) _ keeps htk htl)
 have htk2:=htk
 have htl2:=htl
 rw [TrOk] at htk2
 rw [TrLen] at htl2
 obtain ⟨⟨hf0,hf1,hal,vals',hex⟩,hoks⟩:=htk2
 obtain ⟨fi,rfl⟩:=Int.eq_ofNat_of_zero_le hf0
 have hfi:fi < C.lib.length:=by simpa using hf1
 have HAL:=Lib.hid hal
 have HEX:=Lib.hid hex
 have HOKS:=Lib.hid hoks
 have HTL2:=Lib.hid htl2
 clear hal hex hoks htl2 hf1
 have IH:=Lib.hid ih
 have HNN:=Lib.hid hnn
 have hwt:=wT_pos (inK C.lib C.kept) (.mk (fi:Int) args res cs) keeps
 have hmul:n≤n * wT (inK C.lib C.kept) (.mk (fi:Int) args res cs) keeps:=by
  have:=Int.mul_le_mul_of_nonneg_left hwt hn.1
  simpa using this
 have HBD:=Lib.hid hbd
 have hsum0:0≤sumI s.calls:=sumI_nonneg _ (fun x hx=>by obtain ⟨j,hj,rfl⟩:=List.getElem_of_mem hx;have:=hnn.1 j;rwa [at_eq hj] at this)
 have hsum1:0≤sumI s.kept:=sumI_nonneg _ (fun x hx=>by obtain ⟨j,hj,rfl⟩:=List.getElem_of_mem hx;have:=hnn.2 j;rwa [at_eq hj] at this)
 have htot:s.total=sumI s.calls+sumI s.kept:=rfl
 have hcb:=at_le_sum hnn.1 fi
 have hkb:=at_le_sum hnn.2 fi
 have hc0:=hnn.1 fi
 have hk0:=hnn.2 fi
 have hwC:IntKind.i64.wrap (at' s.calls fi+n)=at' s.calls fi+n:=by rw [IntKind.wrap_i64];omega
 have hwK:IntKind.i64.wrap (at' s.kept fi+n)=at' s.kept fi+n:=by rw [IntKind.wrap_i64];omega
 have hw2:IntKind.i64.wrap (n * 2)=n * 2:=by rw [IntKind.wrap_i64];omega
 have hB:Below w.heap.size w (w.alloc (.cells #[.int .i64 (fi:Int),.slice aa args.length k1,.bool res.list,.int .i64 res.n,.slice a3 res.l.length k3,.slice a5 cs.length k5] 43)):=bel_alloc (Below.refl _ _)
 have HB:=Lib.hid hB
 have HTV0:=Lib.hid htv
 have HLEN:=Lib.hid hvs.len
 have hvs1:=hvs.below hB
 have HVS1:=Lib.hid hvs1
 have HTV:=Lib.hid (htv.stays (Stays.of_below hB))
 have HBOX:=Lib.hid (at_new0 w (.cells #[.int .i64 (fi:Int),.slice aa args.length k1,.bool res.list,.int .i64 res.n,.slice a3 res.l.length k3,.slice a5 cs.length k5] 43))
 obtain ⟨b0,b1,b2,b3,b4,b5⟩:=cells6 HBOX.out
 obtain ⟨c0,c1,c2⟩:=cells3 hvs1.c
 have p0:=hvs1.p.cell (i:=fi) (by rw [hvs1.len.1];exact hfi)
 have q0:=hvs1.q.cell (i:=fi) (by rw [hvs1.len.2];exact hfi)
 have pf:=unfrozen hvs1.p
 have qf:=unfrozen hvs1.q
 have i0:(0:Int)≤(fi:Int):=by omega
 have i1:(fi:Int) < (C.lib.length:Int):=by omega
 have i1n:fi < C.lib.length:=hfi
 have HEV:=Lib.hid hev
 have HST:=Lib.hid (And.intro hst1 hm)
 have HHIT:=Lib.hid (And.intro (fun h:keeps=false=>hvs1.hitP (f:=fi) n) (fun h:keeps=true=>hvs1.hitQ (f:=fi) n))
 have HNE:=Lib.hid (show w.heap.size≠C.p∧w.heap.size≠C.q from ⟨fun e=>by have:=blk_lt hvs.p;omega,fun e=>by have:=blk_lt hvs.q;omega⟩)
 clear ih hnn hbd hsum0 hsum1 htot hcb hkb hc0 hk0 hmul hwt hvs hvs1 htv htk htl hB hev hst1 hm
 change Calls Tryd.prog 31 #[.agg #[.int .i64 (fi:Int),.slice aa args.length k1,.bool res.list,.int .i64 res.n,.slice a3 res.l.length k3,.slice a5 cs.length k5],.bool keeps,.int .i64 n,.pointer (some ⟨C.c,0,none⟩),.pointer (some ⟨C.nb,0,none⟩),.pointer (some ⟨C.kb,0,none⟩),.pointer (some ⟨C.lb,0,none⟩),.pointer (some ⟨C.vb,0,none⟩)] w _
 go_enter Tryd.func31,Tryd.ntmps31
 go_upto_if 17 with fail
 go_cut [2,12] from 17 to 44 (fun n2 s12 wx=>CutV C A w s fi keeps n (if keeps then puN C.lib (.mk (fi:Int) args res cs) else 0) (.cells #[.int .i64 (fi:Int),.slice aa args.length k1,.bool res.list,.int .i64 res.n,.slice a3 res.l.length k3,.slice a5 cs.length k5] 43 (0,0)) n2 s12 wx)
 case first=>
  cases keeps
  · go_wp2
    go_meet
    exact cutv_p HVS1.out HB.out HBOX.out HNE.out.1
  · have hv2:=HHIT.out.2 rfl
    have hNl:(normL C.lib).length=C.lib.length:=by simp [normL]
    have hNe:at' (normL C.lib) fi=normF C.lib (at' C.lib fi):=at_map _ hfi
    have hnorm:=hv2.norm
    rw [← hNl] at hnorm
    obtain ⟨nb,noff,ncap,pa,pc,ta,tc,ba,bc,he,hnb,hncap,y0,y1,y2,y3,y4,y5,hpar,htmp,hbod,hs0,hs5⟩:=afn_at hnorm (j:=fi) (by rw [hNl];exact hfi)
    rw [hNe] at y0 y1 y2 y3 y4 y5 hpar htmp hbod hs0 hs5
    obtain ⟨g1,g2,g3⟩:=norm_good C.ok hfi
    have hsz:=(valid_ok C.ok hfi).size
    have nc:=cell_blk hv2.n 0 rfl
    rw [← hNl] at nc
    have he2:=he
    simp only [Value.slice.injEq] at he2
    rw [he] at nc
    have HP:Hid (∀ w1,Below ((w.alloc (.cells #[.int .i64 (fi:Int),.slice aa args.length k1,.bool res.list,.int .i64 res.n,.slice a3 res.l.length k3,.slice a5 cs.length k5] 43)).setCell ⟨C.q,fi,none⟩ (.int .i64 (at' s.kept fi+n))).heap.size ((w.alloc (.cells #[.int .i64 (fi:Int),.slice aa args.length k1,.bool res.list,.int .i64 res.n,.slice a3 res.l.length k3,.slice a5 cs.length k5] 43)).setCell ⟨C.q,fi,none⟩ (.int .i64 (at' s.kept fi+n))) w1→Calls Tryd.prog 32 #[afnV (normF C.lib (at' C.lib fi)) pa ta ba pc tc bc,.agg #[.int .i64 (fi:Int),.slice aa args.length k1,.bool res.list,.int .i64 res.n,.slice a3 res.l.length k3,.slice a5 cs.length k5]] w1 fun e w'=>e=.returned (.int .i64 (pushedN (normF C.lib (at' C.lib fi)) (.mk (fi:Int) args res cs)))∧Below w1.heap.size w1 w'):=Lib.hid (fun w1 h1=>
     pushed_any C.lib (normF C.lib (at' C.lib fi)) pa ta ba pc tc bc (.mk (fi:Int) args res cs) fi res.n aa a3 a5 k1 res.l.length k3 k5 res.list A w1 vals' ⟨hpar.stays (Stays.of_below h1),htmp.stays (Stays.of_below h1),hbod.stays (Stays.of_below h1)⟩
      ((HTV.out.1.stays ((keeps_set (w.alloc (.cells #[.int .i64 (fi:Int),.slice aa args.length k1,.bool res.list,.int .i64 res.n,.slice a3 res.l.length k3,.slice a5 cs.length k5] 43)) C.q fi (.int .i64 (at' s.kept fi+n))).stays (fun j a _ e=>HVS1.out.aq (e ▸ a)))).stays (Stays.of_below h1)) ((HTV.out.2.1.stays ((keeps_set (w.alloc (.cells #[.int .i64 (fi:Int),.slice aa args.length k1,.bool res.list,.int .i64 res.n,.slice a3 res.l.length k3,.slice a5 cs.length k5] 43)) C.q fi (.int .i64 (at' s.kept fi+n))).stays (fun j a _ e=>HVS1.out.aq (e ▸ a)))).stays (Stays.of_below h1))
      g1.body (by omega) (by omega) (by exact HAL.out) (by have:=g1.plen;omega) (by exact HEX.out) HTL2.out.1 (fun c hc=>trlen_res (HTL2.out.2.2.mem c hc)))
    have hbx2:=blk_set (o:=fi) (x:=.int .i64 (at' s.kept fi+n)) HBOX.out HNE.out.2
    obtain ⟨d0,d1,d2,d3,d4,d5⟩:=cells6 hbx2
    have HCQ:Hid (∀ w5,Below (w.alloc (.cells #[.int .i64 (fi:Int),.slice aa args.length k1,.bool res.list,.int .i64 res.n,.slice a3 res.l.length k3,.slice a5 cs.length k5] 43)).heap.size ((w.alloc (.cells #[.int .i64 (fi:Int),.slice aa args.length k1,.bool res.list,.int .i64 res.n,.slice a3 res.l.length k3,.slice a5 cs.length k5] 43)).setCell ⟨C.q,fi,none⟩ (.int .i64 (at' s.kept fi+n))) w5→CutV C A w s fi true n (pushedN (normF C.lib (at' C.lib fi)) (.mk (fi:Int) args res cs)) (.cells #[.int .i64 (fi:Int),.slice aa args.length k1,.bool res.list,.int .i64 res.n,.slice a3 res.l.length k3,.slice a5 cs.length k5] 43 (0,0)) (.int .i64 n) (.int .i64 (pushedN (normF C.lib (at' C.lib fi)) (.mk (fi:Int) args res cs))) w5):=Lib.hid (fun w5 h5=>cutv_q HVS1.out HB.out HBOX.out HNE.out.2 h5)
    have HS2:Hid (((w.alloc (.cells #[.int .i64 (fi:Int),.slice aa args.length k1,.bool res.list,.int .i64 res.n,.slice a3 res.l.length k3,.slice a5 cs.length k5] 43)).setCell ⟨C.q,fi,none⟩ (.int .i64 (at' s.kept fi+n))).heap.size=(w.alloc (.cells #[.int .i64 (fi:Int),.slice aa args.length k1,.bool res.list,.int .i64 res.n,.slice a3 res.l.length k3,.slice a5 cs.length k5] 43)).heap.size):=Lib.hid (by simp)
    have j1:(fi:Int) < ((normL C.lib).length:Int):=by rw [hNl];exact i1
    have j1n:fi < (normL C.lib).length:=by rw [hNl];exact hfi
    clear hv2 hNl hNe hnorm hpar htmp hbod hbx2 g1 g2 g3 hsz he he2
    go_upto_region 4 with fail
    generalize ((w.alloc (.cells #[.int .i64 (fi:Int),.slice aa args.length k1,.bool res.list,.int .i64 res.n,.slice a3 res.l.length k3,.slice a5 cs.length k5] 43)).setCell ⟨C.q,fi,none⟩ (.int .i64 (at' s.kept fi+n)))=w2 at *
    go_region_law (first
     | ((try go_simp);(try go_at_call 32);(with_reducible refine (HP.out _ (by (repeat (with_reducible first|exact Below.refl _ _|refine bel_drew ?_|refine bel_alloc ?_|(apply bel_step;focus assumption))))).mono ?_);rintro e w5 ⟨rfl,hb5⟩;have hb25:Below w2.heap.size w2 w5:=(by (repeat (with_reducible first|exact Below.refl _ _|refine bel_drew ?_|refine bel_alloc ?_|(apply bel_step;focus assumption))));have HB5:=Lib.hid hb25;clear hb5 hb25)
     )
    all_goals
     go_wp2
     go_meet
     exact HCQ.out _ (by rw [← HS2.out];exact HB5.out)
 case rest=>
  clear b0 b1 b2 b3 b4 b5 c0 c1 c2 p0 q0 pf qf
  obtain ⟨rfl,rfl,hs,hk,hbox⟩:=hcut
  obtain ⟨n',hn'⟩:∃ n':Int,n'=if keeps then n else n * 2:=⟨_,rfl⟩
  obtain ⟨g0,hg0⟩:∃ g0:Int,g0=if keeps then puN C.lib (.mk (fi:Int) args res cs) else 0:=⟨_,rfl⟩
  have hg0b:0≤g0∧g0≤100000000:=by have:=HPU.out;rw [hg0];cases keeps <;> simp <;> omega
  rw [← hn',← hg0]
  have HN':=Lib.hid hn'
  have HG0:=Lib.hid hg0
  have HS:=Lib.hid hs
  have HKC:=Lib.hid hk
  have HTC:=Lib.hid (HTV0.out.stays (hk.stays (fun j a _ e=>by
   rcases e with e|e
   · exact HVS1.out.ap (e ▸ a)
   · exact HVS1.out.aq (e ▸ a))))
  obtain ⟨b0,b1,b2,b3,b4,b5⟩:=cells6 hbox
  have hcl:cs.length≤100000:=by
   have h1:=HST.out.1
   have h2:=len_steps cs
   rw [stepsT] at h1
   omega
  clear hn' hg0 hs hk hbox HHIT
  go_wp2
  go_loopw [12,48] (fun a i wr=>∃ k:Nat,k≤cs.length∧i=.int .i64 k∧a=.int .i64 (g0+(visL (puN C.lib) (inK C.lib C.kept) (cs.take k) n' (hit s keeps fi n)).1)∧ViSt C A wr (visL (puN C.lib) (inK C.lib C.kept) (cs.take k) n' (hit s keeps fi n)).2∧Keeps wc wr (fun j=>j=C.p∨j=C.q)) (fun _ i _=>cs.length - (intOf i).toNat)
  case atStart=>exact ⟨0,Nat.zero_le _,rfl,by simp [visL],by simpa [visL] using HS.out,Keeps.refl _ _⟩
  case round=>
   obtain ⟨k,hkk,rfl,rfl,hsk,hkp⟩:=hrel
   have HSK:=Lib.hid hsk
   have HKP:=Lib.hid hkp
   by_cases hlt:k < cs.length
   · obtain ⟨e1,e2,e3,e4,e5,e6,e7,e8⟩:=vi_child C.ok (K:=inK C.lib C.kept) HTK.out HTL.out HLEN.out hn HEV.out HNN.out HBD.out HN'.out hlt
     have hsum:=vi_sum C.ok (inK C.lib C.kept) HTK.out HTL.out HST.out.1 n' (hit s keeps fi n) k
     have hsum2:=vi_sum C.ok (inK C.lib C.kept) HTK.out HTL.out HST.out.1 n' (hit s keeps fi n) (k+1)
     have HTK2:=Lib.hid (visL_take (puN C.lib) (inK C.lib C.kept) cs hlt n' (hit s keeps fi n))
     have hinB:inK C.lib C.kept (at' cs k).f=inB C.kept (at' C.lib (at' cs k).f.toNat).name:=inK_inB _ _ _
     obtain ⟨b,off,cap,ca,c3,c5,l1,l3,l5,he,hb,y0,y1,y2,y3,y4,y5,htc⟩:=trs_at ((show RowsAt TrE A wc (.slice a5 cs.length k5) cs from HTC.out.2.1).stays (hkp.stays (fun j a _ e=>by
      rcases e with e|e
      · exact HVS1.out.ap (e ▸ a)
      · exact HVS1.out.aq (e ▸ a)))) hlt
     simp only [Value.slice.injEq] at he
     obtain ⟨rfl,-,rfl⟩:=he
     obtain ⟨hcf0,hcf1⟩:=trok_f e6
     have hB2:Below wr.heap.size wr (wr.alloc (.cells #[.int .i64 (at' cs k).f,.slice ca (at' cs k).args.length l1,.bool (at' cs k).res.list,.int .i64 (at' cs k).res.n,.slice c3 (at' cs k).res.l.length l3,.slice c5 (at' cs k).calls.length l5] 43)):=bel_alloc (Below.refl _ _)
     have HB2:=Lib.hid hB2
     obtain ⟨x0,x1,x2,x3,x4,x5⟩:=cells6 (at_new0 wr (.cells #[.int .i64 (at' cs k).f,.slice ca (at' cs k).args.length l1,.bool (at' cs k).res.list,.int .i64 (at' cs k).res.n,.slice c3 (at' cs k).res.l.length l3,.slice c5 (at' cs k).calls.length l5] 43))
     have hsb:=hsk.below hB2
     have d1:=cell_blk hsb.k 0 rfl
     have d2:=cell_blk hsb.l 0 rfl
     have d3:=cell_blk hsb.v 0 rfl
     obtain ⟨lb,loff,lcap,_,_,_,_,hel,hlb,_,_,z0,_,_,_,_,_,_,_,_,_⟩:=hsb.lib.at hcf1
     rw [hel] at d2
     have i0:(0:Int)≤(at' cs k).f:=hcf0
     have i2:(at' cs k).f < (C.lib.length:Int):=by omega
     obtain ⟨kb,hkb⟩:∃ kb:Bool,kb=inB C.kept (at' C.lib (at' cs k).f.toNat).name:=⟨_,rfl⟩
     have HC:Hid (∀ w1,Below (wr.alloc (.cells #[.int .i64 (at' cs k).f,.slice ca (at' cs k).args.length l1,.bool (at' cs k).res.list,.int .i64 (at' cs k).res.n,.slice c3 (at' cs k).res.l.length l3,.slice c5 (at' cs k).calls.length l5] 43)).heap.size (wr.alloc (.cells #[.int .i64 (at' cs k).f,.slice ca (at' cs k).args.length l1,.bool (at' cs k).res.list,.int .i64 (at' cs k).res.n,.slice c3 (at' cs k).res.l.length l3,.slice c5 (at' cs k).calls.length l5] 43)) w1→Calls Tryd.prog 30 #[.slice C.ka C.kept.length C.kc,.string (at' C.lib (at' cs k).f.toNat).name] w1 fun e w'=>e=.returned (.bool kb)∧w1=w'):=Lib.hid (fun w1 h1=>by
      rw [hkb];exact containsS_any _ C.kept _ A w1 (hsb.kept.stays (Stays.of_below h1)))
     rw [hinB,← hkb] at e5
     rw [hinB,← hkb] at HTK2
     have HIH:Hid (∀ w1,Below (wr.alloc (.cells #[.int .i64 (at' cs k).f,.slice ca (at' cs k).args.length l1,.bool (at' cs k).res.list,.int .i64 (at' cs k).res.n,.slice c3 (at' cs k).res.l.length l3,.slice c5 (at' cs k).calls.length l5] 43)).heap.size (wr.alloc (.cells #[.int .i64 (at' cs k).f,.slice ca (at' cs k).args.length l1,.bool (at' cs k).res.list,.int .i64 (at' cs k).res.n,.slice c3 (at' cs k).res.l.length l3,.slice c5 (at' cs k).calls.length l5] 43)) w1→Calls Tryd.prog 31 #[.agg #[.int .i64 (at' cs k).f,.slice ca (at' cs k).args.length l1,.bool (at' cs k).res.list,.int .i64 (at' cs k).res.n,.slice c3 (at' cs k).res.l.length l3,.slice c5 (at' cs k).calls.length l5],.bool kb,.int .i64 n',.pointer (some ⟨C.c,0,none⟩),.pointer (some ⟨C.nb,0,none⟩),.pointer (some ⟨C.kb,0,none⟩),.pointer (some ⟨C.lb,0,none⟩),.pointer (some ⟨C.vb,0,none⟩)] w1 (ViPost C A w1 (visT (puN C.lib) (inK C.lib C.kept) (at' cs k) kb n' (visL (puN C.lib) (inK C.lib C.kept) (cs.take k) n' (hit s keeps fi n)).2))):=Lib.hid (fun w1 h1=>IH.out C A w1 _ (at' cs k) ca c3 c5 l1 l3 l5 kb n' (by have:=HST.out;omega) (by have:=HST.out;omega) e6 e7 e1 (fun _=>e2) ⟨e3,e4⟩ e5 (htc.stays (Stays.of_below (hB2.trans (h1.mono hB2.size)))) (hsb.below h1))
     have hgb:=gT_le C.ok (inK C.lib C.kept) (at' cs k) kb e6 e7
     rw [← visT_g (puN C.lib) (inK C.lib C.kept) (at' cs k) kb n' (visL (puN C.lib) (inK C.lib C.kept) (cs.take k) n' (hit s keeps fi n)).2] at hgb
     have hst2:=HST.out.1
     have H9:Hid (k+1≤cs.length):=Lib.hid hlt
     have H10:Hid (cs.length - (intOf (.int .i64 ((k:Int)+1))).toNat < cs.length - (intOf (.int .i64 (k:Int))).toNat):=Lib.hid (by simp only [intOf];omega)
     generalize hVV:(visL (puN C.lib) (inK C.lib C.kept) (cs.take k) n' (hit s keeps fi n))=VV at *
     generalize hTT:visT (puN C.lib) (inK C.lib C.kept) (at' cs k) kb n' VV.2=TT at *
     have hwr:IntKind.i64.wrap (g0+VV.1+TT.1)=g0+VV.1+TT.1:=by rw [IntKind.wrap_i64];omega
     clear hsum hsum2 hgb hst2 e1 e2 e3 e4 e5 e6 e7 e8 hsk hkp hsb hB2 htc hcf0 hcf1 hel hinB hVV hTT hkb
     go_wp2
     generalize (wr.alloc (.cells #[.int .i64 (at' cs k).f,.slice ca (at' cs k).args.length l1,.bool (at' cs k).res.list,.int .i64 (at' cs k).res.n,.slice c3 (at' cs k).res.l.length l3,.slice c5 (at' cs k).calls.length l5] 43))=wb at *
     go_region_law (first
      | ((try go_simp);(try go_at_call 30);(with_reducible refine (HC.out _ (by (repeat (with_reducible first|exact Below.refl _ _|refine bel_drew ?_|refine bel_alloc ?_|(apply bel_step;focus assumption))))).mono ?_);rintro e w5 ⟨rfl,rfl⟩)
      )
     all_goals
      go_wp2_with fail
      (with_reducible refine (HIH.out _ (by (repeat (with_reducible first|exact Below.refl _ _|refine bel_drew ?_|refine bel_alloc ?_|(apply bel_step;focus assumption))))).mono ?_)
      rintro e w5 ⟨rfl,hs5,hk5⟩
      have HS5:=Lib.hid hs5
      have HK5:=Lib.hid ((HKP.out.same (Keeps.of_below _ (HB2.out.trans (((by (repeat (with_reducible first|exact Below.refl _ _|refine bel_drew ?_|refine bel_alloc ?_|(apply bel_step;focus assumption)))):Below wb.heap.size wb _).mono HB2.out.size)))).same hk5)
      clear hs5 hk5
      cases kb with
      | true=>
        go_wp2
        exact ⟨⟨k+1,H9.out,by go_num,by rw [HTK2.out];simp [Int.add_assoc],by rw [HTK2.out];exact HS5.out,HK5.out⟩,H10.out⟩
      | false=>
        go_wp2
        exact ⟨⟨k+1,H9.out,by go_num,by rw [HTK2.out];simp,by rw [HTK2.out];exact HS5.out,HK5.out⟩,H10.out⟩
   · obtain rfl:k=cs.length:=by omega
     have hlt':¬ (cs.length:Int) < (cs.length:Int):=by omega
     have HVT:Hid (visT (puN C.lib) (inK C.lib C.kept) (.mk (fi:Int) args res cs) keeps n s=(g0+(visL (puN C.lib) (inK C.lib C.kept) cs n' (hit s keeps fi n)).1,(visL (puN C.lib) (inK C.lib C.kept) cs n' (hit s keeps fi n)).2)):=Lib.hid (by rw [visT,← HN'.out,← HG0.out])
     rw [List.take_length] at *
     clear hsk hkp
     go_wp2
     go_ret
     rw [HVT.out]
     exact ⟨rfl,HSK.out,HKC.out.same HKP.out⟩
theorem visit_any:∀ m:Nat,XVi m:=by
 intro m
 induction m with
 | zero=>intro C A w s t aa a3 a5 k1 k3 k5 keeps n hm;have:=stepsT_pos t;omega
 | succ m ih=>exact visit_step m ih
end Go.Proofs.YtjhimhlebbamoaaDoor
