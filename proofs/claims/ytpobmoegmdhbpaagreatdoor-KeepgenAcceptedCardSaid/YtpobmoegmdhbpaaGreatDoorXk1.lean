/- Contracts and plain lemmas (KgA, KiA): no statement of the seat is proved here. -/
import Derived.Test.YtpobmoegmdhbpaaGreatDoorXq27
set_option linter.unusedSimpArgs false
set_option linter.unusedVariables false
set_option linter.unusedSectionVars false
set_option maxRecDepth 100000
set_option maxHeartbeats 6400000
namespace Go.Proofs.YtpobmoegmdhbpaaGreatDoor
open Go.RowKit
theorem zdj (k:Int) (s:ByteArray) (ka:Option Addr) (n kc:Nat) (w:World):
 Calls Tryz.prog 61 #[.int .u8 k,.string s,.slice ka n kc] w fun e w'=>e=.returned (.agg #[.int .u8 k,.int .i64 0,.string s,.slice ka n kc])∧Below w.heap.size w w':=by
 go_enter Tryz.func61,Tryz.ntmps61
 go_wp2
 go_returns
 exact ⟨rfl,(Below.refl _ _).alloc (Nat.le_refl _) _⟩
theorem zdO (s:ByteArray) (w:World):
 Calls Tryz.prog 62 #[.string s] w fun e w'=>e=.returned (.agg #[.int .u8 2,.int .i64 0,.string s,.slice none 0 0])∧Below w.heap.size w w':=by
 go_enter Tryz.func62,Tryz.ntmps62
 go_wp2
 go_returns
 exact ⟨rfl,(Below.refl _ _).alloc (Nat.le_refl _) _⟩
theorem zmy (x:Int) (w:World):
 Calls Tryz.prog 109 #[.int .i64 x] w fun e w'=>e=.returned (.agg #[.int .u8 1,.int .i64 x,.string ⟨#[]⟩,.slice none 0 0])∧Below w.heap.size w w':=by
 go_enter Tryz.func109,Tryz.ntmps109
 go_wp2
 go_returns
 exact ⟨rfl,(Below.refl _ _).alloc (Nat.le_refl _) _⟩
theorem zco (ka:Option Addr) (n kc:Nat) (w:World):
 Calls Tryz.prog 65 #[.slice ka n kc] w fun e w'=>e=.returned (.agg #[.int .u8 57,.int .i64 0,.string ⟨#[]⟩,.slice ka n kc])∧Below w.heap.size w w':=by
 have hA:Below w.heap.size w (w.alloc (.cells #[.int .u8 0,.int .i64 0,.string ⟨#[]⟩,.slice none 0 0] 34)):=(Below.refl _ _).alloc (Nat.le_refl _) _
 have hn:=zah w (.cells #[.int .u8 0,.int .i64 0,.string ⟨#[]⟩,.slice none 0 0] 34)
 have HN:=Lib.hid (zdj 57 ⟨#[]⟩ ka n kc (w.alloc (.cells #[.int .u8 0,.int .i64 0,.string ⟨#[]⟩,.slice none 0 0] 34)))
 have HB:=Lib.hid hn
 clear hn
 go_enter Tryz.func65,Tryz.ntmps65
 go_wp2_with (go_at_call 61;refine HN.out.mono ?_;rintro e w1 ⟨rfl,hb⟩;have hr:=(hb.block w.heap.size (by simp)).trans HB.out;obtain ⟨r0,r1,r2,r3⟩:=cells4 hr;have f:=unfrozen hr;have HR:=Lib.hid hr;clear hr)
 (try simp only [Exit.inBlock,Exit.then])
 refine bodyPost_ret (results_cell_row (P:=Tryz.prog) rfl _ _ w.heap.size _ _ _ _ rfl (set4 HR.out _ _ _ _) Tryz.underlying34 rfl (by kernel_rfl)) rfl ?_
 exact ⟨rfl,(((((hA.trans (hb.mono hA.size)).setCell (Nat.le_refl _) _).setCell (Nat.le_refl _) _).setCell (Nat.le_refl _) _).setCell (Nat.le_refl _) _)⟩
theorem zlU (p:ByteArray) (av:Value) (args:List ByteArray) (A:Nat→Prop) (w:World) (ha:StrsAt A w av args) (hp:p.size≤maxLen) (hl:args.length≤200000):
 Calls Tryz.prog 60 #[.string p,av] w fun e w'=>∃ v,e=.returned v∧NdAt (fun k=>w.heap.size≤k) w' v (callN p args)∧Below w.heap.size w w':=by
 obtain ⟨_,aa,ac,rfl⟩:=ha.form
 have hA:Below w.heap.size w (w.alloc (.cells #[.int .u8 0,.int .i64 0,.string ⟨#[]⟩,.slice none 0 0] 34)):=(Below.refl _ _).alloc (Nat.le_refl _) _
 have hn:=zah w (.cells #[.int .u8 0,.int .i64 0,.string ⟨#[]⟩,.slice none 0 0] 34)
 have hws:w.heap.size < (w.alloc (.cells #[.int .u8 0,.int .i64 0,.string ⟨#[]⟩,.slice none 0 0] 34)).heap.size:=by simp
 have HA:=Lib.hid ha
 have HN:=Lib.hid hn
 clear ha hn
 go_enter Tryz.func60,Tryz.ntmps60
 go_wp2
 generalize (w.alloc (.cells #[.int .u8 0,.int .i64 0,.string ⟨#[]⟩,.slice none 0 0] 34))=W at *
 go_loopw [10,5] (fun i v wr=>∃ k:Nat,i=.int .i64 k∧k≤args.length∧Below W.heap.size W wr∧KidsOwn (fun j=>W.heap.size≤j) W.heap.size wr v ((args.take k).map vN)) (fun i _ _=>args.length - (intOf i).toNat)
 case atStart=>exact ⟨0,rfl,Nat.zero_le _,Below.refl _ _,KidsOwn.nil _ _ _⟩
 case round=>
  obtain ⟨k,rfl,hk,hbl,hown⟩:=hrel
  have hlk:((args.take k).map vN).length=k:=by simp;omega
  obtain ⟨va,vc,hv⟩:=hown.form
  rw [hlk] at hv
  subst hv
  have HOWN:=Lib.hid hown
  have HLK:=Lib.hid hlk
  clear hown hlk
  have hbw:Below w.heap.size w wr:=hA.trans (hbl.mono hA.size)
  by_cases hlt:k < args.length
  · obtain ⟨b,off,cap,he,hb,_,_,c0,hsz⟩:=(HA.out.stays (Stays.of_below hbw)).at hlt
    simp only [Value.slice.injEq] at he
    obtain ⟨rfl,-,rfl⟩:=he
    have HTK:Hid ((args.take (k+1)).map vN=(args.take k).map vN ++ [vN (at' args k)]):=Lib.hid (by rw [List.take_add_one,List.getElem?_eq_getElem hlt,zax hlt,List.map_append];rfl)
    go_wp2_with fail
    refine (zdO _ _).mono ?_
    rintro e w1 ⟨rfl,hb1⟩
    have hB1:Below W.heap.size W w1:=hbl.trans (hb1.mono hbl.size)
    have hBa:Below w1.heap.size w1 (w1.alloc (.cells #[.int .u8 2,.int .i64 0,.string (at' args k),.slice none 0 0] 34)):=(Below.refl _ _).alloc (Nat.le_refl _) _
    have HK1:=Lib.hid (zbi (A:=fun j=>j=w1.heap.size) (heap_alloc_new w1 (.cells #[.int .u8 2,.int .i64 0,.string (at' args k),.slice none 0 0] 34)) rfl (nd_v hsz))
    have HO1:=Lib.hid ((HOWN.out.below hb1).below hBa)
    have HD:Hid (∀ b,b < (w1.alloc (.cells #[.int .u8 2,.int .i64 0,.string (at' args k),.slice none 0 0] 34)).heap.size→b=w1.heap.size→W.heap.size≤b∧(Value.slice va k vc).ownBlock≠some b):=Lib.hid (fun b _ e=>⟨by have:=hbl.size;have:=hb1.size;omega,fun e2=>by have:=(HOWN.out.lt e2).2;have:=hb1.size;omega⟩)
    go_wp2_with (at_builtin;refine ziL rfl (.tmp 14) (.tmp 17) rfl rfl rfl HO1.out HK1.out HD.out (by rw [HLK.out];simp;omega) (by have:=hB1.size;have:=hBa.size;omega) ?_;intro a' c' w3 h3 hg3;have H3:=Lib.hid h3;have HG3:Hid (World.grownBy _ w3 (Value.slice va k vc).ownBlock):=Lib.hid hg3;clear h3 hg3)
    refine ⟨⟨k+1,by go_num,by omega,?_,by rw [HTK.out];have h3:=H3.out;rw [HLK.out] at h3;exact h3⟩,by simp [intOf];omega⟩
    exact (hB1.trans (hBa.mono hB1.size)).grown HG3.out (Nat.le_trans hB1.size hBa.size) (fun j e=>(HOWN.out.lt e).1)
  · obtain rfl:k=args.length:=by omega
    have hlt':¬ (args.length:Int) < (args.length:Int):=by omega
    have hK:KidsAt (fun j=>W.heap.size≤j) wr (.slice va args.length vc) (args.map vN):=by
     have h1:=HOWN.out
     rw [List.take_length] at h1
     exact h1.shut (fun _ a=>a) (fun j e=>(h1.lt e).1) (by unfold maxLen;simp;omega)
    have HK:=Lib.hid hK
    have HNO:=Lib.hid (zdj 50 p va args.length vc wr)
    have HRB:=Lib.hid ((hbl.block w.heap.size hws).trans HN.out)
    clear hK
    go_wp2_with (go_at_call 61;refine HNO.out.mono ?_;rintro e w4 ⟨rfl,hb4⟩;have hr:=(hb4.block w.heap.size (Nat.lt_of_lt_of_le hws hbl.size)).trans HRB.out;obtain ⟨r0,r1,r2,r3⟩:=cells4 hr;have f:=unfrozen hr;have HR:=Lib.hid hr;clear hr)
    (try simp only [Exit.inBlock,Exit.then])
    refine bodyPost_ret (results_cell_row (P:=Tryz.prog) rfl _ _ w.heap.size _ _ _ _ rfl (set4 HR.out _ _ _ _) Tryz.underlying34 rfl (by kernel_rfl)) rfl ?_
    have hB4:Below w.heap.size w w4:=hbw.trans (hb4.mono hbw.size)
    refine ⟨_,rfl,?_,((((hB4.setCell (Nat.le_refl _) _).setCell (Nat.le_refl _) _).setCell (Nat.le_refl _) _).setCell (Nat.le_refl _) _)⟩
    refine zam ?_ (by omega) hp
    have hK4:=(((zaf w4 w.heap.size 0 (.int .u8 50)).same (zaf _ w.heap.size 1 (.int .i64 0))).same (zaf _ w.heap.size 2 (.string p))).same (zaf _ w.heap.size 3 (.slice va args.length vc))
    exact (HK.out.stays (Stays.of_below hb4)).stays ⟨hK4.size,fun b hb a=>⟨hK4.block b hb (fun e=>by omega),by omega⟩⟩
theorem zgt (B:Nat) (p:ByteArray) (aa:Option Addr) (an ac:Nat) (args:List ByteArray) (w:World) {A:Nat→Prop} (hB:B≤w.heap.size) (ha:StrsAt A w (.slice aa an ac) args) (hp:p.size≤maxLen) (hl:args.length≤200000):
 Calls Tryz.prog 60 #[.string p,.slice aa an ac] w fun e w'=>∃ ka kn kc,e=.returned (.agg #[.int .u8 50,.int .i64 0,.string p,.slice ka kn kc])∧NdAt (Up B) w' (.agg #[.int .u8 50,.int .i64 0,.string p,.slice ka kn kc]) (callN p args)∧Below w.heap.size w w':=
 (zlU p _ args A w ha hp hl).mono fun e w' ⟨u,he,hk,hb⟩=>by
   obtain ⟨ka,kc,rfl⟩:=hk.form
   exact ⟨ka,_,kc,he,hk.stays ⟨Nat.le_refl _,fun b _ a=>⟨rfl,Nat.le_trans hB a⟩⟩,hb⟩
theorem zid (g:AFn) (pa ta ba:Option Addr) (pc tc bc:Nat) (w:World) (hs:g.result.size≤maxLen):
 Calls Tryz.prog 59 #[.agg #[.string g.name,.slice pa g.params.length pc,.bool g.list,.slice ta g.temps.length tc,.slice ba g.body.length bc,.string g.result]] w fun e w'=>∃ k ka kn kc,e=.returned (.agg #[.int .u8 k,.int .i64 0,.string (resultN g).name,.slice ka kn kc])∧NdAt (Up w.heap.size) w' (.agg #[.int .u8 k,.int .i64 0,.string (resultN g).name,.slice ka kn kc]) (resultN g)∧Below w.heap.size w w':=by
 have hA1:Below w.heap.size w (w.alloc (.cells #[.string g.name,.slice pa g.params.length pc,.bool g.list,.slice ta g.temps.length tc,.slice ba g.body.length bc,.string g.result] 44)):=(Below.refl _ _).alloc (Nat.le_refl _) _
 have hA:Below w.heap.size w ((w.alloc (.cells #[.string g.name,.slice pa g.params.length pc,.bool g.list,.slice ta g.temps.length tc,.slice ba g.body.length bc,.string g.result] 44)).alloc (.cells #[.int .u8 0,.int .i64 0,.string ⟨#[]⟩,.slice none 0 0] 34)):=hA1.alloc hA1.size _
 have HN:=Lib.hid (zaw w (.cells #[.string g.name,.slice pa g.params.length pc,.bool g.list,.slice ta g.temps.length tc,.slice ba g.body.length bc,.string g.result] 44) (.cells #[.int .u8 0,.int .i64 0,.string ⟨#[]⟩,.slice none 0 0] 34))
 have HX:=Lib.hid (zaI w (.cells #[.string g.name,.slice pa g.params.length pc,.bool g.list,.slice ta g.temps.length tc,.slice ba g.body.length bc,.string g.result] 44) (.cells #[.int .u8 0,.int .i64 0,.string ⟨#[]⟩,.slice none 0 0] 34))
 have hsz:((w.alloc (.cells #[.string g.name,.slice pa g.params.length pc,.bool g.list,.slice ta g.temps.length tc,.slice ba g.body.length bc,.string g.result] 44)).alloc (.cells #[.int .u8 0,.int .i64 0,.string ⟨#[]⟩,.slice none 0 0] 34)).heap.size=w.heap.size+1+1:=by simp
 have HSZ:=Lib.hid hsz
 clear hA1 hsz
 cases hl:g.list with
 | true=>
   have HR:Hid (resultN g=callN ⟨#[108,99,111,112,121]⟩ [g.result,⟨#[111,117,116]⟩]):=Lib.hid (by rw [resultN,hl];rfl)
   have HRN:Hid ((resultN g).name=⟨#[108,99,111,112,121]⟩):=Lib.hid (by rw [HR.out];rfl)
   rw [hl] at hA HN HX HSZ
   clear hl
   go_enter Tryz.func59,Tryz.ntmps59
   go_wp2_with fail
   generalize ((w.alloc (.cells #[.string g.name,.slice pa g.params.length pc,.bool true,.slice ta g.temps.length tc,.slice ba g.body.length bc,.string g.result] 44)).alloc (.cells #[.int .u8 0,.int .i64 0,.string ⟨#[]⟩,.slice none 0 0] 34))=W at *
   have HIV:=Lib.hid (zgt (w.heap.size+1+1) ⟨#[108,99,111,112,121]⟩ (some ⟨w.heap.size+1+1,0,none⟩) 2 2 [g.result,⟨#[111,117,116]⟩] (W.alloc (.cells #[.string g.result,.string ⟨#[111,117,116]⟩] 9)) (by rw [World.size_alloc,HSZ.out];omega) (ziz (A:=Any) (zaj HSZ.out.symm) trivial hs (by unfold maxLen;decide)) (by unfold maxLen;decide) (by simp))
   refine HIV.out.mono ?_
   rintro e w1 ⟨ka,kn,kc,rfl,hk1,hb1⟩
   have hr:=zad hb1 (zag HN.out)
   obtain ⟨r0,r1,r2,r3⟩:=cells4 hr
   have f:=unfrozen hr
   have HRB:=Lib.hid hr
   have HK1:=Lib.hid hk1
   clear hr hk1 HIV
   go_wp2
   (try simp only [Exit.inBlock,Exit.then])
   refine bodyPost_ret (results_cell_row (P:=Tryz.prog) rfl _ _ (w.heap.size+1) _ _ _ _ rfl (set4 HRB.out _ _ _ _) Tryz.underlying34 rfl (by kernel_rfl)) rfl ?_
   rw [HRN.out]
   have hAa:=zaa (x:=.cells #[.string g.result,.string ⟨#[111,117,116]⟩] 9) hA
   have hB1:Below w.heap.size w w1:=hAa.trans (hb1.mono hAa.size)
   have hK4:=(((zaf w1 (w.heap.size+1) 0 (.int .u8 50)).same (zaf _ (w.heap.size+1) 1 (.int .i64 0))).same (zaf _ (w.heap.size+1) 2 (.string ⟨#[108,99,111,112,121]⟩))).same (zaf _ (w.heap.size+1) 3 (.slice ka kn kc))
   refine ⟨_,_,_,_,rfl,?_,zaq hB1 (by omega)⟩
   rw [HR.out]
   exact HK1.out.stays ⟨hK4.size,fun b hb a=>⟨hK4.block b hb (fun e=>by have:w.heap.size+1+1≤b:=a;omega),by have:w.heap.size+1+1≤b:=a;unfold Up;omega⟩⟩
 | false=>
   have HR:Hid (resultN g=nodeN 42 ⟨#[]⟩ [vN ⟨#[111,117,116]⟩,vN g.result]):=Lib.hid (by rw [resultN,hl];rfl)
   have HRN:Hid ((resultN g).name=⟨#[]⟩):=Lib.hid (by rw [HR.out];rfl)
   rw [hl] at hA HN HX HSZ
   clear hl
   go_enter Tryz.func59,Tryz.ntmps59
   go_wp2
   generalize ((w.alloc (.cells #[.string g.name,.slice pa g.params.length pc,.bool false,.slice ta g.temps.length tc,.slice ba g.body.length bc,.string g.result] 44)).alloc (.cells #[.int .u8 0,.int .i64 0,.string ⟨#[]⟩,.slice none 0 0] 34))=W at *
   go_region_held3 (fun w1=>w1.cell? ⟨w.heap.size,0,none⟩=some (.string g.name)∧w1.cell? ⟨w.heap.size,1,none⟩=some (.slice pa g.params.length pc)∧w1.cell? ⟨w.heap.size,2,none⟩=some (.bool false)∧w1.cell? ⟨w.heap.size,3,none⟩=some (.slice ta g.temps.length tc)∧w1.cell? ⟨w.heap.size,4,none⟩=some (.slice ba g.body.length bc)∧w1.cell? ⟨w.heap.size,5,none⟩=some (.string g.result))
    ((refine cells6 (e:=44) ?_;(repeat (with_reducible first|exact HX.out|refine zai ?_|refine zag ?_|(apply zad;focus assumption)|(refine zaN ?_ (Nat.ne_of_lt (Nat.lt_succ_self _)))))))
    (first
    | (go_at_call 62;refine (zdO _ _).mono ?_;rintro e w3 ⟨rfl,hb3⟩)
    | (go_at_call 61;refine (zdj _ _ _ _ _ _).mono ?_;rintro e w4 ⟨rfl,hb4⟩;have hr:w4.heap[w.heap.size+1]?=some (.cells #[.int .u8 0,.int .i64 0,.string ⟨#[]⟩,.slice none 0 0] 34):=(by (repeat (with_reducible first|exact HN.out|refine zai ?_|refine zag ?_|(apply zad;focus assumption))));obtain ⟨r0,r1,r2,r3⟩:=cells4 hr;have f:=unfrozen hr;have HRB:=Lib.hid hr;clear hr))
   all_goals
    go_wp2
    (try simp only [Exit.inBlock,Exit.then])
    refine bodyPost_ret (results_cell_row (P:=Tryz.prog) rfl _ _ (w.heap.size+1) _ _ _ _ rfl (set4 HRB.out _ _ _ _) Tryz.underlying34 rfl (by kernel_rfl)) rfl ?_
    rw [HRN.out]
    have hB4:Below w.heap.size w w4:=by (repeat (with_reducible first|exact hA|refine zab ?_|refine zaa ?_|(apply zac;focus assumption)))
    have hW3:Below W.heap.size W w3:=by (repeat (with_reducible first|exact Below.refl _ _|refine zab ?_|refine zaa ?_|(apply zac;focus assumption)))
    have hz3:=hW3.size
    have hzz:=HSZ.out
    refine ⟨_,_,_,_,rfl,?_,zaq hB4 (by omega)⟩
    rw [HR.out]
    refine zam (zdg (zaN (g:=w.heap.size+1) (zad hb4 (heap_alloc_new w3 _)) ?_) ?_ (nd_v (by unfold maxLen;decide)) (nd_v hs)) (by omega) (Nat.zero_le _)
    · omega
    · unfold Up;omega
theorem zmB (ts:List Par) (pa:Option Addr) (pc:Nat) (v:Value) (n:Nd) (A:Nat→Prop) (w:World) (hp:ParsAt Any w (.slice pa ts.length pc) ts) (hv:NdAt A w v n) (hl:ts.length≤100000):
 Calls Tryz.prog 64 #[.slice pa ts.length pc,v] w fun e w'=>∃ u,e=.returned u∧NdAt (NewB A w) w' u (localsN ts n)∧Below w.heap.size w w':=by
 obtain ⟨hok,hlen,ka,kc,rfl,hk⟩:=hv.open
 have hA1:Below w.heap.size w (w.alloc (.cells #[.int .u8 n.kind,.int .i64 n.num,.string n.name,.slice ka n.kids.length kc] 34)):=(Below.refl _ _).alloc (Nat.le_refl _) _
 have hA:Below w.heap.size w ((w.alloc (.cells #[.int .u8 n.kind,.int .i64 n.num,.string n.name,.slice ka n.kids.length kc] 34)).alloc (.cells #[.int .u8 0,.int .i64 0,.string ⟨#[]⟩,.slice none 0 0] 34)):=hA1.alloc hA1.size _
 have HR0:Hid (LocRel ts n A w ((ts.length:Int) - 1) ((w.alloc (.cells #[.int .u8 n.kind,.int .i64 n.num,.string n.name,.slice ka n.kids.length kc] 34)).alloc (.cells #[.int .u8 0,.int .i64 0,.string ⟨#[]⟩,.slice none 0 0] 34))):=Lib.hid (by
  refine ⟨_,_,_,_,_,_,zaI w _ _,zaw w _ _,?_,hA⟩
  rw [show ((ts.length:Int) - 1+1).toNat=ts.length by omega,List.drop_length]
  exact hv.stays ⟨hA.size,fun b hb a=>⟨hA.block b hb,.inl ⟨a,hb⟩⟩⟩)
 have HP:=Lib.hid hp
 clear hv hk hp hA1 hok hlen
 go_enter Tryz.func64,Tryz.ntmps64
 go_wp2
 generalize ((w.alloc (.cells #[.int .u8 n.kind,.int .i64 n.num,.string n.name,.slice ka n.kids.length kc] 34)).alloc (.cells #[.int .u8 0,.int .i64 0,.string ⟨#[]⟩,.slice none 0 0] 34))=W at *
 go_loopw [5] (fun i wr=>∃ j:Int,i=.int .i64 j∧-1≤j∧j < ts.length∧LocRel ts n A w j wr) (fun i _=>(intOf i+1).toNat)
 case atStart=>exact ⟨_,rfl,by omega,by omega,HR0.out⟩
 case round=>
  obtain ⟨j,rfl,hj0,hj1,k0,m0,s0,xa,xn,xc,hbox,hzero,hnd,hbl⟩:=hrel
  have HBOX:=Lib.hid hbox
  have HZERO:=Lib.hid hzero
  have HND:=Lib.hid hnd
  clear hbox hzero hnd
  by_cases hpos:0≤j
  · obtain ⟨q,rfl⟩:=Int.eq_ofNat_of_zero_le hpos
    have hq:q < ts.length:=by omega
    have HNQ:Hid (((q:Int)+1).toNat=q+1):=Lib.hid (by omega)
    obtain ⟨b,off,cap,he,hb,_,_,c0,c1,hsz⟩:=(HP.out.stays (Stays.of_below hbl)).at hq
    simp only [Value.slice.injEq] at he
    obtain ⟨rfl,-,rfl⟩:=he
    have HS:Hid (∀ w1,Below wr.heap.size wr w1→w1.cell? ⟨b,off+q * 2,none⟩=some (.string (at' ts q).name)∧w1.cell? ⟨w.heap.size,0,none⟩=some (.int .u8 k0)∧w1.cell? ⟨w.heap.size,1,none⟩=some (.int .i64 m0)∧w1.cell? ⟨w.heap.size,2,none⟩=some (.string s0)∧w1.cell? ⟨w.heap.size,3,none⟩=some (.slice xa xn xc)∧b < w1.heap.size∧w.heap.size < w1.heap.size∧∀ j,w1.frozen? ⟨w.heap.size,j,none⟩=false):=Lib.hid (fun w1 h1=>by
     have hr:=zad h1 HBOX.out
     obtain ⟨r0,r1,r2,r3⟩:=cells4 hr
     exact ⟨(h1.cell (p:=⟨b,off+q * 2,none⟩) hb).trans c0,r0,r1,r2,r3,Nat.lt_of_lt_of_le hb h1.size,by rw [Array.getElem?_eq_some_iff] at hr;exact hr.1,unfrozen hr⟩)
    obtain ⟨s1,s2,s3,s4,s5,-,s7,s6⟩:=HS.out wr (Below.refl _ _)
    have i0:(0:Int)≤(q:Int):=by omega
    have i1:(q:Int) < (ts.length:Int):=by omega
    cases hlist:(at' ts q).list with
    | true=>
      rw [hlist] at c1
      have HL:=Lib.hid hlist
      clear hlist
      go_wp2
      go_region_law (first
       | (go_simp;go_at_call 61;refine (zdj _ _ _ _ _ _).mono ?_;rintro e w4 ⟨rfl,hb4⟩;obtain ⟨t1,t2,t3,t4,t5,t7,t8,t6⟩:=HS.out w4 (by (repeat (with_reducible first|exact Below.refl _ _|refine zab ?_|refine zaa ?_|(apply zac;focus assumption)))))
       | (go_simp;go_at_call 65;refine (zco _ _ _ _).mono ?_;rintro e w8 ⟨rfl,hb8⟩;obtain ⟨t1,t2,t3,t4,t5,t7,t8,t6⟩:=HS.out w8 (by (repeat (with_reducible first|exact Below.refl _ _|refine zab ?_|refine zaa ?_|(apply zac;focus assumption))))))
      all_goals
       go_wp2
       refine ⟨⟨(q:Int) - 1,rfl,by omega,by omega,zep (x:=nodeN 55 (at' ts q).name [(ts.drop (q+1)).foldr locN n]) hq HBOX.out HZERO.out (by rw [locN,HL.out];rfl) ?_ hbl (by (repeat (with_reducible first|exact Below.refl _ _|refine zab ?_|refine zaa ?_|(apply zac;focus assumption))))⟩,by first|(simp [intOf];done)|(simp [intOf];omega)⟩
       exact kidsL1 (by (repeat (with_reducible first|(refine zaE ?_ ?_;rotate_left;(focus (simp;done));(focus ((repeat (with_reducible first|exact Below.refl _ _|refine zab ?_|refine zaa ?_|(apply zac;focus assumption)));done)))|refine zav ?_|refine zan ?_|(apply zao;focus assumption)))) HZERO.out (zam (kidsL1 (by (repeat (with_reducible first|(refine zaE ?_ ?_;rotate_left;(focus (simp;done));(focus ((repeat (with_reducible first|exact Below.refl _ _|refine zab ?_|refine zaa ?_|(apply zac;focus assumption)));done)))|refine zav ?_|refine zan ?_|(apply zao;focus assumption)))) HZERO.out (ndL HND.out HNQ.out (by (repeat (with_reducible first|exact Below.refl _ _|refine zab ?_|refine zaa ?_|(apply zac;focus assumption)))))) (by omega) hsz)
    | false=>
      rw [hlist] at c1
      have HL:=Lib.hid hlist
      clear hlist
      go_wp2
      go_region_law (first
       | (go_simp;go_at_call 109;refine (zmy _ _).mono ?_;rintro e w3 ⟨rfl,hb3⟩;obtain ⟨t1,t2,t3,t4,t5,t7,t8,t6⟩:=HS.out w3 (by (repeat (with_reducible first|exact Below.refl _ _|refine zab ?_|refine zaa ?_|(apply zac;focus assumption)))))
       | (go_simp;go_at_call 61;refine (zdj _ _ _ _ _ _).mono ?_;rintro e w4 ⟨rfl,hb4⟩;obtain ⟨t1,t2,t3,t4,t5,t7,t8,t6⟩:=HS.out w4 (by (repeat (with_reducible first|exact Below.refl _ _|refine zab ?_|refine zaa ?_|(apply zac;focus assumption)))))
       | (go_simp;go_at_call 65;refine (zco _ _ _ _).mono ?_;rintro e w8 ⟨rfl,hb8⟩;obtain ⟨t1,t2,t3,t4,t5,t7,t8,t6⟩:=HS.out w8 (by (repeat (with_reducible first|exact Below.refl _ _|refine zab ?_|refine zaa ?_|(apply zac;focus assumption))))))
      all_goals
       go_wp2
       refine ⟨⟨(q:Int) - 1,rfl,by omega,by omega,zep (x:=nodeN 54 (at' ts q).name [numN 0,(ts.drop (q+1)).foldr locN n,numN 0]) hq HBOX.out HZERO.out (by rw [locN,HL.out];rfl) ?_ hbl (by (repeat (with_reducible first|exact Below.refl _ _|refine zab ?_|refine zaa ?_|(apply zac;focus assumption))))⟩,by first|(simp [intOf];done)|(simp [intOf];omega)⟩
       exact kidsL1 (by (repeat (with_reducible first|(refine zaE ?_ ?_;rotate_left;(focus (simp;done));(focus ((repeat (with_reducible first|exact Below.refl _ _|refine zab ?_|refine zaa ?_|(apply zac;focus assumption)));done)))|refine zav ?_|refine zan ?_|(apply zao;focus assumption)))) HZERO.out (zam (kidsL3 (by (repeat (with_reducible first|(refine zaE ?_ ?_;rotate_left;(focus (simp;done));(focus ((repeat (with_reducible first|exact Below.refl _ _|refine zab ?_|refine zaa ?_|(apply zac;focus assumption)));done)))|refine zav ?_|refine zan ?_|(apply zao;focus assumption)))) HZERO.out (zdf (by unfold In64;omega)) (ndL HND.out HNQ.out (by (repeat (with_reducible first|exact Below.refl _ _|refine zab ?_|refine zaa ?_|(apply zac;focus assumption))))) (zdf (by unfold In64;omega))) (by omega) hsz)
  · obtain rfl:j= -1:=by omega
    have hr:=HBOX.out
    obtain ⟨r0,r1,r2,r3⟩:=cells4 hr
    have hz:=HZERO.out
    obtain ⟨z0,z1,z2,z3⟩:=cells4 hz
    have zf:=unfrozen hz
    clear hr hz
    go_wp2
    (try simp only [Exit.inBlock,Exit.then])
    refine bodyPost_ret (results_cell_row (P:=Tryz.prog) rfl _ _ (w.heap.size+1) _ _ _ _ rfl (set4 HZERO.out _ _ _ _) Tryz.underlying34 rfl (by kernel_rfl)) rfl ?_
    have hK4:=(((zaf wr (w.heap.size+1) 0 (.int .u8 k0)).same (zaf _ (w.heap.size+1) 1 (.int .i64 m0))).same (zaf _ (w.heap.size+1) 2 (.string s0))).same (zaf _ (w.heap.size+1) 3 (.slice xa xn xc))
    refine ⟨_,rfl,?_,zaq hbl (by omega)⟩
    have hfin:=HND.out
    rw [show ((-1:Int)+1).toNat=0 by omega,List.drop_zero] at hfin
    refine hfin.stays ⟨hK4.size,fun b hb a=>⟨hK4.block b hb (fun e=>?_),?_⟩⟩
    · rcases a with ⟨_,a⟩|a <;> omega
    · rcases a with ⟨a,_⟩|a
      · exact .inl a
      · exact .inr (by omega)
theorem zhf (ts:List Par) (pa:Option Addr) (pc:Nat) (ka:Option Addr) (kn kc:Nat) (l:List Nd) (A:Nat→Prop) (w:World) (hp:ParsAt Any w (.slice pa ts.length pc) ts) (hv:NdAt A w (.agg #[.int .u8 57,.int .i64 0,.string ⟨#[]⟩,.slice ka kn kc]) (blockN l)) (hl:ts.length≤100000):
 Calls Tryz.prog 64 #[.slice pa ts.length pc,.agg #[.int .u8 57,.int .i64 0,.string ⟨#[]⟩,.slice ka kn kc]] w fun e w'=>∃ a n c,e=.returned (.agg #[.int .u8 57,.int .i64 0,.string ⟨#[]⟩,.slice a n c])∧NdAt (NewB A w) w' (.agg #[.int .u8 57,.int .i64 0,.string ⟨#[]⟩,.slice a n c]) (localsN ts (blockN l))∧Below w.heap.size w w':=
 (zmB ts pa pc _ (blockN l) A w hp hv hl).mono fun e w' ⟨u,he,hn,hb⟩=>by
   obtain ⟨l',hl'⟩:=zea ts l
   rw [hl'] at hn ⊢
   obtain ⟨a,c,rfl⟩:=hn.form
   exact ⟨a,_,c,he,hn,hb⟩
end Go.Proofs.YtpobmoegmdhbpaaGreatDoor
namespace Go.Proofs.YtpobmoegmdhbpaaGreatDoor
open Go.RowKit
def InvOkK (n R:Nd):Prop:=∀ (v:Value) (A:Nat→Prop) (w:World),NdAt A w v n→Calls Tryz.prog 67 #[v] w (InvPost R A w)
theorem zdD (n R:Nd) (h57:n.kind≠57) (h52:n.kind≠52) (h50:n.kind≠50) (hp:Passes 162 n) (hi:Inverts n R):InvOkK n R:=by
 intro v A w hv
 obtain ⟨hok,hlen,ka,kc,rfl,hk⟩:=hv.open
 have hA1:Below w.heap.size w (w.alloc (.cells #[.int .u8 n.kind,.int .i64 n.num,.string n.name,.slice ka n.kids.length kc] 34)):=(Below.refl _ _).alloc (Nat.le_refl _) _
 have hA:Below w.heap.size w ((w.alloc (.cells #[.int .u8 n.kind,.int .i64 n.num,.string n.name,.slice ka n.kids.length kc] 34)).alloc (.cells #[.int .u8 0,.int .i64 0,.string ⟨#[]⟩,.slice none 0 0] 34)):=hA1.alloc hA1.size _
 have HZ:=Lib.hid (zaw w (.cells #[.int .u8 n.kind,.int .i64 n.num,.string n.name,.slice ka n.kids.length kc] 34) (.cells #[.int .u8 0,.int .i64 0,.string ⟨#[]⟩,.slice none 0 0] 34))
 have HSZ:Hid (((w.alloc (.cells #[.int .u8 n.kind,.int .i64 n.num,.string n.name,.slice ka n.kids.length kc] 34)).alloc (.cells #[.int .u8 0,.int .i64 0,.string ⟨#[]⟩,.slice none 0 0] 34)).heap.size=w.heap.size+1+1):=Lib.hid (by simp)
 have HS:=Lib.hid (zni n R _ A _ (hv.stays (Stays.of_below hA)) hp hi)
 have d57:(n.kind == 57)=false:=by simp [h57]
 have d52:(n.kind == 52)=false:=by simp [h52]
 have d50:(n.kind == 50)=false:=by simp [h50]
 clear hv hk hp hi hA1 hok hlen h57 h52 h50
 go_enter Tryz.func67,Tryz.ntmps67
 go_wp2_with fail
 generalize ((w.alloc (.cells #[.int .u8 n.kind,.int .i64 n.num,.string n.name,.slice ka n.kids.length kc] 34)).alloc (.cells #[.int .u8 0,.int .i64 0,.string ⟨#[]⟩,.slice none 0 0] 34))=W at *
 refine HS.out.mono ?_
 rintro e w1 ⟨xa,xc,rfl,hx1,hb1⟩
 have hr:=zad hb1 HZ.out
 obtain ⟨z0,z1,z2,z3⟩:=cells4 hr
 have f:=unfrozen hr
 have HR:=Lib.hid hr
 have HX1:=Lib.hid hx1
 have hlt:w.heap.size+1 < w1.heap.size:=by have:=hb1.size;have:=HSZ.out;omega
 clear hr hx1
 go_wp2
 (try simp only [Exit.inBlock,Exit.then])
 refine bodyPost_ret (results_cell_row (P:=Tryz.prog) rfl _ _ (w.heap.size+1) _ _ _ _ rfl (zag (set4 HR.out _ _ _ _)) Tryz.underlying34 rfl (by kernel_rfl)) rfl ?_
 have hB1:Below w.heap.size w w1:=hA.trans (hb1.mono hA.size)
 have hz1:=hb1.size
 have hzz:=HSZ.out
 have hK4:=(((zaf w1 (w.heap.size+1) 0 (.int .u8 R.kind)).same (zaf _ (w.heap.size+1) 1 (.int .i64 R.num))).same (zaf _ (w.heap.size+1) 2 (.string R.name))).same (zaf _ (w.heap.size+1) 3 (.slice xa R.kids.length xc))
 have hK5:=hK4.alloc (.cells #[.int .u8 R.kind,.int .i64 R.num,.string R.name,.slice xa R.kids.length xc] 34)
 refine ⟨_,_,rfl,?_,zaa (zaq hB1 (by omega))⟩
 exact HX1.out.stays ⟨hK5.size,fun b hb a=>⟨hK5.block b hb (fun e=>by have:W.heap.size≤b:=a;omega),.inr (by have:W.heap.size≤b:=a;omega)⟩⟩
theorem zfg (num:Int) (name:ByteArray) (l l':List Nd) (hl:l'.length=l.length) (hn:l.length≤100000) (HI:Hid (∀ j,j < l.length→InvOkK (at' l j) (at' l' j))):InvOkK (.mk 57 num name l) (blockN l'.reverse):=by
 intro v A w hv
 obtain ⟨hok,hlen,ka,kc,he,hk⟩:=hv.open
 have he':v=.agg #[.int .u8 57,.int .i64 num,.string name,.slice ka l.length kc]:=he
 subst he'
 have hkw:KidsAt A w (.slice ka l.length kc) l:=hk
 have hA1:Below w.heap.size w (w.alloc (.cells #[.int .u8 57,.int .i64 num,.string name,.slice ka l.length kc] 34)):=(Below.refl _ _).alloc (Nat.le_refl _) _
 have hA:Below w.heap.size w ((w.alloc (.cells #[.int .u8 57,.int .i64 num,.string name,.slice ka l.length kc] 34)).alloc (.cells #[.int .u8 0,.int .i64 0,.string ⟨#[]⟩,.slice none 0 0] 34)):=hA1.alloc hA1.size _
 have HX:=Lib.hid (zaI w (.cells #[.int .u8 57,.int .i64 num,.string name,.slice ka l.length kc] 34) (.cells #[.int .u8 0,.int .i64 0,.string ⟨#[]⟩,.slice none 0 0] 34))
 have HZ:=Lib.hid (zaw w (.cells #[.int .u8 57,.int .i64 num,.string name,.slice ka l.length kc] 34) (.cells #[.int .u8 0,.int .i64 0,.string ⟨#[]⟩,.slice none 0 0] 34))
 have HSZ:Hid (((w.alloc (.cells #[.int .u8 57,.int .i64 num,.string name,.slice ka l.length kc] 34)).alloc (.cells #[.int .u8 0,.int .i64 0,.string ⟨#[]⟩,.slice none 0 0] 34)).heap.size=w.heap.size+1+1):=Lib.hid (by simp)
 have HK:Hid (KidsAt (fun j=>A j∧j < w.heap.size) ((w.alloc (.cells #[.int .u8 57,.int .i64 num,.string name,.slice ka l.length kc] 34)).alloc (.cells #[.int .u8 0,.int .i64 0,.string ⟨#[]⟩,.slice none 0 0] 34)) (.slice ka l.length kc) l):=Lib.hid (hkw.stays ⟨hA.size,fun b hb a=>⟨hA.block b hb,a,hb⟩⟩)
 have HL:=Lib.hid hl
 clear hv hk hkw hA1 hok hlen he hl
 go_enter Tryz.func67,Tryz.ntmps67
 go_wp2
 generalize ((w.alloc (.cells #[.int .u8 57,.int .i64 num,.string name,.slice ka l.length kc] 34)).alloc (.cells #[.int .u8 0,.int .i64 0,.string ⟨#[]⟩,.slice none 0 0] 34))=W at *
 go_loopw [4,3] (fun i v wr=>∃ (j:Int) (rl:List Nd),i=.int .i64 j∧-1≤j∧j < l.length∧rl=(l'.drop (j+1).toNat).reverse∧Below W.heap.size W wr∧RowsOwn NdE 34 (LD A w) W.heap.size wr v rl) (fun i _ _=>(intOf i+1).toNat)
 case atStart=>exact ⟨_,[],rfl,by omega,by omega,by rw [show ((l.length:Int) - 1+1).toNat=l'.length by have:=HL.out;omega,List.drop_length];rfl,Below.refl _ _,RowsOwn.nil _ _ _ _ _⟩
 case round=>
  obtain ⟨j,rl,rfl,hj0,hj1,hrl,hbl,hown⟩:=hrel
  have HRL:=Lib.hid hrl
  clear hrl
  obtain ⟨va,vc,rfl⟩:=hown.form
  have HOWN:=Lib.hid hown
  have hr:=zad hbl HX.out
  obtain ⟨r0,r1,r2,r3⟩:=cells4 hr
  have hszl:=hbl.size
  have hzz:w.heap.size+2≤W.heap.size:=by rw [HSZ.out];omega
  clear hown hr
  by_cases hpos:0≤j
  · obtain ⟨q,rfl⟩:=Int.eq_ofNat_of_zero_le hpos
    have hq:q < l.length:=by omega
    have HNQ:Hid (((q:Int)+1).toNat=q+1):=Lib.hid (by omega)
    have hlq:rl.length≤100000:=by rw [HRL.out,HNQ.out,List.length_reverse,List.length_drop,HL.out];omega
    obtain ⟨b,off,cap,kb,kd,he,hb,_,_,c0,c1,c2,c3,hnd⟩:=(HK.out.stays (Stays.of_below hbl)).at hq
    simp only [Value.slice.injEq] at he
    obtain ⟨rfl,-,rfl⟩:=he
    have HIH:=Lib.hid (HI.out q hq _ _ wr hnd)
    have i0:(0:Int)≤(q:Int):=by omega
    have i1:(q:Int) < (l.length:Int):=by omega
    clear hnd
    go_wp2_with fail
    refine HIH.out.mono ?_
    rintro e w1 ⟨xa,xc,rfl,hx1,hb1⟩
    have hBa:Below w1.heap.size w1 (w1.alloc (.cells #[.int .u8 (at' l' q).kind,.int .i64 (at' l' q).num,.string (at' l' q).name,.slice xa (at' l' q).kids.length xc] 34)):=(Below.refl _ _).alloc (Nat.le_refl _) _
    have hsz1:=hb1.size
    have HK1:=Lib.hid (zar.1 (zbi (A:=NewB (fun j=>A j∧j < w.heap.size) wr) (heap_alloc_new w1 (.cells #[.int .u8 (at' l' q).kind,.int .i64 (at' l' q).num,.string (at' l' q).name,.slice xa (at' l' q).kids.length xc] 34)) (.inr hsz1) (hx1.stays (Stays.of_below hBa))))
    have HO1:=Lib.hid ((HOWN.out.below hb1).below hBa)
    have HD:Hid (∀ b,b < (w1.alloc (.cells #[.int .u8 (at' l' q).kind,.int .i64 (at' l' q).num,.string (at' l' q).name,.slice xa (at' l' q).kids.length xc] 34)).heap.size→NewB (fun j=>A j∧j < w.heap.size) wr b→LD A w b∧(Value.slice va rl.length vc).ownBlock≠some b):=Lib.hid (fun b _ a=>by
     rcases a with a|a
     · exact ⟨.inl a,fun e=>by have:=(HOWN.out.lt e).1;omega⟩
     · exact ⟨.inr (by omega),fun e=>by have:=(HOWN.out.lt e).2;omega⟩)
    have hbase:W.heap.size≤(w1.alloc (.cells #[.int .u8 (at' l' q).kind,.int .i64 (at' l' q).num,.string (at' l' q).name,.slice xa (at' l' q).kids.length xc] 34)).heap.size:=Nat.le_trans hbl.size (Nat.le_trans hb1.size hBa.size)
    have HRD:=Lib.hid (zim l' q (by rw [HL.out];exact hq))
    clear hx1 HIH
    go_wp2_with (at_builtin;refine zaF TNd rfl (by decide) rfl (.tmp 19) (.tmp 26) rfl rfl rfl HO1.out HK1.out HD.out (by unfold maxLen;simp;omega) (by simp;omega) hbase ?_;intro a' c' w3 h3 hg3 hn3;have H3:=Lib.hid h3;have HG3:Hid (World.grownBy _ w3 (Value.slice va rl.length vc).ownBlock):=Lib.hid hg3;clear h3 hg3 hn3)
    refine ⟨⟨(q:Int) - 1,rl ++ [at' l' q],rfl,by omega,by omega,by rw [show ((q:Int) - 1+1).toNat=q by omega,HRD.out,HRL.out,HNQ.out],?_,H3.out⟩,by first|(simp [intOf];done)|(simp [intOf];omega)⟩
    exact (hbl.trans ((hb1.trans (hBa.mono hb1.size)).mono hbl.size)).grown HG3.out hbase (fun j e=>(HOWN.out.lt e).1)
  · obtain rfl:j= -1:=by omega
    have hfull:rl=l'.reverse:=by rw [HRL.out,show ((-1:Int)+1).toNat=0 by omega,List.drop_zero]
    have HF:=Lib.hid hfull
    have hz:=zad hbl HZ.out
    have HZW:=Lib.hid hz
    have HLL:Hid (rl.length=l.length):=Lib.hid (by rw [hfull,List.length_reverse,HL.out])
    clear hz hfull
    go_wp2_with (go_at_call 65;refine (zco _ _ _ _).mono ?_;rintro e w2 ⟨rfl,hb2⟩;have hr:=zad hb2 HZW.out;obtain ⟨z0,z1,z2,z3⟩:=cells4 hr;have f:=unfrozen hr;have HR:=Lib.hid hr;clear hr)
    (try simp only [Exit.inBlock,Exit.then])
    refine bodyPost_ret (results_cell_row (P:=Tryz.prog) rfl _ _ (w.heap.size+1) _ _ _ _ rfl (set4 HR.out _ _ _ _) Tryz.underlying34 rfl (by kernel_rfl)) rfl ?_
    have hB2:Below w.heap.size w w2:=hA.trans ((hbl.trans (hb2.mono hbl.size)).mono hA.size)
    have hkk:KidsAt (LD A w) wr (.slice va rl.length vc) rl:=zar.2 (HOWN.out.shut (fun _ a=>a) (fun j e=>.inr (by have:=(HOWN.out.lt e).1;omega)) (by rw [HLL.out];unfold maxLen;omega))
    have hK4:=(((zaf w2 (w.heap.size+1) 0 (.int .u8 57)).same (zaf _ (w.heap.size+1) 1 (.int .i64 0))).same (zaf _ (w.heap.size+1) 2 (.string ⟨#[]⟩))).same (zaf _ (w.heap.size+1) 3 (.slice va rl.length vc))
    have hkd:=(hkk.stays (Stays.of_below hb2)).stays (A':=NewB A w) ⟨hK4.size,fun b hb a=>⟨hK4.block b hb (fun e=>by rcases a with ⟨_,a⟩|a <;> omega),by rcases a with ⟨a,_⟩|a;exact .inl a;exact .inr (by omega)⟩⟩
    have hF:=HF.out
    subst hF
    exact ⟨va,vc,rfl,zam (k:=57) hkd (by omega) (Nat.zero_le _),zaq hB2 (by omega)⟩
theorem zkw (s:ByteArray) (e:Nd) (hs:NmOk s) (he:Passes 214 e) (h57:e.kind≠57) (hz:sizeN e≤100):InvOkK (plusN s e) (invN (plusN s e)):=
 zdD _ _ (by show (40:Int)≠57;omega) (by show (40:Int)≠52;omega) (by show (40:Int)≠50;omega) (zbX 40 _ _ (.inl rfl) (zbR s hs) he) (zec s e h57 hz)
theorem zmG (a c:Nd) (k k':Int) (s:ByteArray) (hk:k=44∧k'=45∨k=45∧k'=44) (hs:NmOk s) (ha:Passes 214 a) (hc:Passes 214 c) (ka:a.kind≠57) (kc:c.kind≠57) (za:sizeN a≤100) (zc:sizeN c≤100):
 InvOkK (nodeN 54 headS [a,blockN [nodeN k s [vN headS]],c]) (invN (nodeN 54 headS [a,blockN [nodeN k s [vN headS]],c])):=by
 have e0:invN (nodeN k s [vN headS])=nodeN k' s [vN headS]:=by
  rcases hk with ⟨rfl,rfl⟩|⟨rfl,rfl⟩ <;> (rw [nodeN,invN,invK];rfl)
 have e1:invN (blockN [nodeN k s [vN headS]])=blockN [nodeN k' s [vN headS]]:=by
  rw [blockN,nodeN,invN,invK,if_pos rfl,invL,invL,e0];rfl
 have e2:invN (nodeN 54 headS [a,blockN [nodeN k s [vN headS]],c])=.mk 54 0 headS [c,blockN [nodeN k' s [vN headS]],a]:=by
  have:∀ x y z:Nd,invN (nodeN 54 headS [x,y,z])=.mk 54 0 headS [z,invN y,x]:=fun x y z=>by
   rw [nodeN,invN,invK];simp [invL,at']
  rw [this,e1]
 rw [e2]
 refine zdD _ _ (by show (54:Int)≠57;omega) (by show (54:Int)≠52;omega) (by show (54:Int)≠50;omega) (zcu headS a _ c zdQ ha (zcm _ (fun j hj=>?_)) hc) (zdc 0 headS a _ _ c ka rfl kc (by omega) (by omega) (zdB 0 ByteArray.empty _ _ ?_))
 · match j,hj with
   | 0,_=>exact zcS k s _ (by omega) hs (zbR headS zdQ)
 · refine zct k k' 0 s [vN headS] (by simp) (.inr (by omega)) (fun j hj=>?_)
   match j,hj with
   | 0,_=>exact ⟨by show (2:Int)≠57;omega,by show sizeN (vN headS)≤100000;rw [zdi];omega⟩
theorem zhC (a b1 b2 d R1 R2:Nd) (H1:Hid (InvOkK b1 R1)) (H2:Hid (InvOkK b2 R2)):InvOkK (nodeN 52 ⟨#[]⟩ [a,b1,b2,d]) (nodeN 52 ⟨#[]⟩ [d,R1,R2,a]):=by
 intro v A w hv
 obtain ⟨_,hlen,ka,kc,he,hk⟩:=hv.open
 have he':v=.agg #[.int .u8 52,.int .i64 0,.string ⟨#[]⟩,.slice ka 4 kc]:=he
 subst he'
 obtain ⟨b,off,a0,c0,a1,c1,a2,c2,a3,c3,rfl,hkc,n0,n1,n2,n3,hcs⟩:=zft hk
 have hA1:Below w.heap.size w (w.alloc (.cells #[.int .u8 52,.int .i64 0,.string ⟨#[]⟩,.slice (some ⟨b,off,none⟩) 4 kc] 34)):=(Below.refl _ _).alloc (Nat.le_refl _) _
 have hA:Below w.heap.size w ((w.alloc (.cells #[.int .u8 52,.int .i64 0,.string ⟨#[]⟩,.slice (some ⟨b,off,none⟩) 4 kc] 34)).alloc (.cells #[.int .u8 0,.int .i64 0,.string ⟨#[]⟩,.slice none 0 0] 34)):=hA1.alloc hA1.size _
 have HX:=Lib.hid (zaI w (.cells #[.int .u8 52,.int .i64 0,.string ⟨#[]⟩,.slice (some ⟨b,off,none⟩) 4 kc] 34) (.cells #[.int .u8 0,.int .i64 0,.string ⟨#[]⟩,.slice none 0 0] 34))
 have HZ:=Lib.hid (zaw w (.cells #[.int .u8 52,.int .i64 0,.string ⟨#[]⟩,.slice (some ⟨b,off,none⟩) 4 kc] 34) (.cells #[.int .u8 0,.int .i64 0,.string ⟨#[]⟩,.slice none 0 0] 34))
 have HSZ:Hid (((w.alloc (.cells #[.int .u8 52,.int .i64 0,.string ⟨#[]⟩,.slice (some ⟨b,off,none⟩) 4 kc] 34)).alloc (.cells #[.int .u8 0,.int .i64 0,.string ⟨#[]⟩,.slice none 0 0] 34)).heap.size=w.heap.size+1+1):=Lib.hid (by simp)
 have HI1:Hid (∀ (v:Value) (A:Nat→Prop) (w:World),NdAt A w v b1→Calls Tryz.prog 67 #[v] w (InvPost R1 A w)):=Lib.hid H1.out
 have HI2:Hid (∀ (v:Value) (A:Nat→Prop) (w:World),NdAt A w v b2→Calls Tryz.prog 67 #[v] w (InvPost R2 A w)):=Lib.hid H2.out
 have HCS:=Lib.hid hcs
 have hst:∀ w1,Below w.heap.size w w1→Stays A (LD A w) w w1:=fun w1 hw=>⟨hw.size,fun b hb a=>⟨hw.block b hb,.inl ⟨a,hb⟩⟩⟩
 have HN0:Hid (∀ w1,Below w.heap.size w w1→NdAt (LD A w) w1 (.agg #[.int .u8 a.kind,.int .i64 a.num,.string a.name,.slice a0 a.kids.length c0]) a):=Lib.hid (fun w1 hw=>n0.stays (hst w1 hw))
 have HN1:Hid (∀ w1,Below w.heap.size w w1→NdAt (LD A w) w1 (.agg #[.int .u8 b1.kind,.int .i64 b1.num,.string b1.name,.slice a1 b1.kids.length c1]) b1):=Lib.hid (fun w1 hw=>n1.stays (hst w1 hw))
 have HN2:Hid (∀ w1,Below w.heap.size w w1→NdAt (LD A w) w1 (.agg #[.int .u8 b2.kind,.int .i64 b2.num,.string b2.name,.slice a2 b2.kids.length c2]) b2):=Lib.hid (fun w1 hw=>n2.stays (hst w1 hw))
 have HN3:Hid (∀ w1,Below w.heap.size w w1→NdAt (LD A w) w1 (.agg #[.int .u8 d.kind,.int .i64 d.num,.string d.name,.slice a3 d.kids.length c3]) d):=Lib.hid (fun w1 hw=>n3.stays (hst w1 hw))
 clear hv hk hA1 hcs n0 n1 n2 n3 he hlen hst
 go_enter Tryz.func67,Tryz.ntmps67
 go_wp2
 generalize ((w.alloc (.cells #[.int .u8 52,.int .i64 0,.string ⟨#[]⟩,.slice (some ⟨b,off,none⟩) 4 kc] 34)).alloc (.cells #[.int .u8 0,.int .i64 0,.string ⟨#[]⟩,.slice none 0 0] 34))=W at *
 have HS0:Hid (∀ w1,Below (w.heap.size+1) W w1→(w1.cell? ⟨w.heap.size,3,none⟩=some (.slice (some ⟨b,off,none⟩) 4 kc))∧
       w1.cell? ⟨b,off,none⟩=some (.int .u8 a.kind)∧w1.cell? ⟨b,off+1,none⟩=some (.int .i64 a.num)∧w1.cell? ⟨b,off+2,none⟩=some (.string a.name)∧w1.cell? ⟨b,off+3,none⟩=some (.slice a0 a.kids.length c0)∧
       w1.cell? ⟨b,off+4,none⟩=some (.int .u8 b1.kind)∧w1.cell? ⟨b,off+4+1,none⟩=some (.int .i64 b1.num)∧w1.cell? ⟨b,off+4+2,none⟩=some (.string b1.name)∧w1.cell? ⟨b,off+4+3,none⟩=some (.slice a1 b1.kids.length c1)∧
       w1.cell? ⟨b,off+8,none⟩=some (.int .u8 b2.kind)∧w1.cell? ⟨b,off+8+1,none⟩=some (.int .i64 b2.num)∧w1.cell? ⟨b,off+8+2,none⟩=some (.string b2.name)∧w1.cell? ⟨b,off+8+3,none⟩=some (.slice a2 b2.kids.length c2)∧
       w1.cell? ⟨b,off+12,none⟩=some (.int .u8 d.kind)∧w1.cell? ⟨b,off+12+1,none⟩=some (.int .i64 d.num)∧w1.cell? ⟨b,off+12+2,none⟩=some (.string d.name)∧w1.cell? ⟨b,off+12+3,none⟩=some (.slice a3 d.kids.length c3)):=Lib.hid (fun w1 hw=>⟨(cells4 ((hw.block w.heap.size (by omega)).trans HX.out)).2.2.2,HCS.out w1 (hA.trans (hw.mono (by omega)))⟩)
 have hWS:w.heap.size+1≤W.heap.size:=by have:=HSZ.out;omega
 go_region_held3 (fun w1=>(w1.cell? ⟨w.heap.size,3,none⟩=some (.slice (some ⟨b,off,none⟩) 4 kc))∧
  w1.cell? ⟨b,off,none⟩=some (.int .u8 a.kind)∧w1.cell? ⟨b,off+1,none⟩=some (.int .i64 a.num)∧w1.cell? ⟨b,off+2,none⟩=some (.string a.name)∧w1.cell? ⟨b,off+3,none⟩=some (.slice a0 a.kids.length c0)∧
  w1.cell? ⟨b,off+4,none⟩=some (.int .u8 b1.kind)∧w1.cell? ⟨b,off+4+1,none⟩=some (.int .i64 b1.num)∧w1.cell? ⟨b,off+4+2,none⟩=some (.string b1.name)∧w1.cell? ⟨b,off+4+3,none⟩=some (.slice a1 b1.kids.length c1)∧
  w1.cell? ⟨b,off+8,none⟩=some (.int .u8 b2.kind)∧w1.cell? ⟨b,off+8+1,none⟩=some (.int .i64 b2.num)∧w1.cell? ⟨b,off+8+2,none⟩=some (.string b2.name)∧w1.cell? ⟨b,off+8+3,none⟩=some (.slice a2 b2.kids.length c2)∧
  w1.cell? ⟨b,off+12,none⟩=some (.int .u8 d.kind)∧w1.cell? ⟨b,off+12+1,none⟩=some (.int .i64 d.num)∧w1.cell? ⟨b,off+12+2,none⟩=some (.string d.name)∧w1.cell? ⟨b,off+12+3,none⟩=some (.slice a3 d.kids.length c3))
  (first|with_reducible exact HS0.out _ (zbb (Below.mono (by (repeat (with_reducible first|exact Below.refl _ _|refine zab ?_|refine zaa ?_|(apply zac;focus assumption)))) hWS) (Nat.le_refl _))|with_reducible exact HS0.out _ (Below.mono (by (repeat (with_reducible first|exact Below.refl _ _|refine zab ?_|refine zaa ?_|(apply zac;focus assumption)))) hWS))
  (first
  | (go_at_call 67;(with_reducible refine (HI1.out (.agg #[.int .u8 b1.kind,.int .i64 b1.num,.string b1.name,.slice a1 b1.kids.length c1]) (LD A w) _ (HN1.out _ (by (repeat (with_reducible first|exact hA|exact Below.refl _ _|refine zab ?_|refine zaa ?_|(apply zac;focus assumption)))))).mono ?_);rintro e w3 ⟨k3,m3,rfl,hk3,hb3⟩)
  | (go_at_call 67;(with_reducible refine (HI2.out (.agg #[.int .u8 b2.kind,.int .i64 b2.num,.string b2.name,.slice a2 b2.kids.length c2]) (LD A w) _ (HN2.out _ (by (repeat (with_reducible first|exact hA|exact Below.refl _ _|refine zab ?_|refine zaa ?_|(apply zac;focus assumption)))))).mono ?_);rintro e w4 ⟨k4,m4,rfl,hk4,hb4⟩)
  | (go_at_call 61;refine (zdj _ _ _ _ _ _).mono ?_;rintro e w5 ⟨rfl,hb5⟩;have hz:=(by (repeat (with_reducible first|exact HZ.out|refine zai ?_|refine zag ?_|(apply zad;focus assumption))):w5.heap[w.heap.size+1]?=some (.cells #[.int .u8 0,.int .i64 0,.string ⟨#[]⟩,.slice none 0 0] 34));obtain ⟨z0,z1,z2,z3⟩:=cells4 hz;have zf:=unfrozen hz;have HZ5:=Lib.hid hz;clear hz))
 all_goals
  go_wp2
  (try simp only [Exit.inBlock,Exit.then])
  refine bodyPost_ret (results_cell_row (P:=Tryz.prog) rfl _ _ (w.heap.size+1) _ _ _ _ rfl (set4 HZ5.out _ _ _ _) Tryz.underlying34 rfl (by kernel_rfl)) rfl ?_
  have hz:=HSZ.out
  have hK4:=(((zaf w5 (w.heap.size+1) 0 (.int .u8 52)).same (zaf _ (w.heap.size+1) 1 (.int .i64 0))).same (zaf _ (w.heap.size+1) 2 (.string ⟨#[]⟩))).same (zaf _ (w.heap.size+1) 3 (.slice (some ⟨w4.heap.size,0,none⟩) 4 4))
  have hw45:Below w4.heap.size w4 w5:=(by (repeat (with_reducible first|exact Below.refl _ _|refine zab ?_|refine zaa ?_|(apply zac;focus assumption))))
  have hw34:Below w3.heap.size w3 w4:=(by (repeat (with_reducible first|exact Below.refl _ _|refine zab ?_|refine zaa ?_|(apply zac;focus assumption))))
  have hw35:=hw34.trans (hw45.mono hw34.size)
  have hw3:Below W.heap.size W w3:=(by (repeat (with_reducible first|exact Below.refl _ _|refine zab ?_|refine zaa ?_|(apply zac;focus assumption))))
  have hw4:=hw3.trans (hw34.mono hw3.size)
  have hw5:=(hA.trans (hw4.mono hA.size)).trans (hw45.mono (Nat.le_trans hA.size hw4.size))
  have hs3:=hw3.size
  have hs4:=hw4.size
  have k3':NdAt (LD A w) w5 _ R1:=hk3.stays ⟨hw35.size,fun b hb a=>⟨hw35.block b hb,by
   rcases a with a|a
   · exact a
   · exact .inr (by (try simp at a);omega)⟩⟩
  have k4':NdAt (LD A w) w5 _ R2:=hk4.stays ⟨hw45.size,fun b hb a=>⟨hw45.block b hb,by
   rcases a with a|a
   · exact a
   · exact .inr (by (try simp at a);omega)⟩⟩
  have hrow:KidsAt (LD A w) w5 (.slice (some ⟨w4.heap.size,0,none⟩) 4 4) [d,R1,R2,a]:=ziA (A:=LD A w) (zad hb5 (heap_alloc_new w4 _)) (.inr (by omega)) (HN3.out _ hw5) k3' k4' (HN0.out _ hw5)
  refine ⟨_,_,rfl,?_,zbb hw5 (by omega)⟩
  exact zam (k:=52) (hrow.stays ⟨hK4.size,fun b hb h=>⟨hK4.block b hb (fun e=>by rcases h with ⟨_,h⟩|h <;> omega),by
   rcases h with ⟨h,_⟩|h
   · exact .inl h
   · exact .inr (by omega)⟩⟩) (by omega) (Nat.zero_le _)
theorem zfP (p:ByteArray) (l:List Nd) (hl:l.length≤100000):InvOkK (nodeN 50 p l) (nodeN 51 p l):=by
 intro v A w hv
 obtain ⟨hok,hlen,ka,kc,he,hk⟩:=hv.open
 have he':v=.agg #[.int .u8 50,.int .i64 0,.string p,.slice ka l.length kc]:=he
 subst he'
 have hkk:KidsAt A w (.slice ka l.length kc) l:=hk
 have hp:p.size≤maxLen:=hok.2.2
 have hA1:Below w.heap.size w (w.alloc (.cells #[.int .u8 50,.int .i64 0,.string p,.slice ka l.length kc] 34)):=(Below.refl _ _).alloc (Nat.le_refl _) _
 have hA:Below w.heap.size w ((w.alloc (.cells #[.int .u8 50,.int .i64 0,.string p,.slice ka l.length kc] 34)).alloc (.cells #[.int .u8 0,.int .i64 0,.string ⟨#[]⟩,.slice none 0 0] 34)):=hA1.alloc hA1.size _
 have HX:=Lib.hid (zaI w (.cells #[.int .u8 50,.int .i64 0,.string p,.slice ka l.length kc] 34) (.cells #[.int .u8 0,.int .i64 0,.string ⟨#[]⟩,.slice none 0 0] 34))
 have HZ:=Lib.hid (zaw w (.cells #[.int .u8 50,.int .i64 0,.string p,.slice ka l.length kc] 34) (.cells #[.int .u8 0,.int .i64 0,.string ⟨#[]⟩,.slice none 0 0] 34))
 have HSZ:Hid (((w.alloc (.cells #[.int .u8 50,.int .i64 0,.string p,.slice ka l.length kc] 34)).alloc (.cells #[.int .u8 0,.int .i64 0,.string ⟨#[]⟩,.slice none 0 0] 34)).heap.size=w.heap.size+1+1):=Lib.hid (by simp)
 have HK:Hid (∀ w1,Below w.heap.size w w1→RowsAt NdE (LD A w) w1 (.slice ka l.length kc) l):=Lib.hid (fun w1 hw=>(zar.1 hkk).stays ⟨hw.size,fun b hb a=>⟨hw.block b hb,.inl ⟨a,hb⟩⟩⟩)
 clear hv hk hkk hA1 he hlen hok
 go_enter Tryz.func67,Tryz.ntmps67
 go_wp2
 generalize ((w.alloc (.cells #[.int .u8 50,.int .i64 0,.string p,.slice ka l.length kc] 34)).alloc (.cells #[.int .u8 0,.int .i64 0,.string ⟨#[]⟩,.slice none 0 0] 34))=W at *
 have hWS:w.heap.size+1≤W.heap.size:=by have:=HSZ.out;omega
 have HS0:Hid (∀ w1,Below (w.heap.size+1) W w1→w1.cell? ⟨w.heap.size,2,none⟩=some (.string p)∧w1.cell? ⟨w.heap.size,3,none⟩=some (.slice ka l.length kc)):=Lib.hid (fun w1 hw=>(cells4 ((hw.block w.heap.size (by omega)).trans HX.out)).2.2)
 go_region_held3 (fun w1=>w1.cell? ⟨w.heap.size,2,none⟩=some (.string p)∧w1.cell? ⟨w.heap.size,3,none⟩=some (.slice ka l.length kc))
  (first|with_reducible exact HS0.out _ (zbb (Below.mono (by (repeat (with_reducible first|exact Below.refl _ _|refine zab ?_|refine zaa ?_|(apply zac;focus assumption)))) hWS) (Nat.le_refl _))|with_reducible exact HS0.out _ (Below.mono (by (repeat (with_reducible first|exact Below.refl _ _|refine zab ?_|refine zaa ?_|(apply zac;focus assumption)))) hWS))
  (first
  | (go_at_call 58;refine (zhP (.slice ka l.length kc) l (LD A w) _ (HK.out _ (by (repeat (with_reducible first|exact hA|exact Below.refl _ _|refine zab ?_|refine zaa ?_|(apply zac;focus assumption))))) hl).mono ?_;rintro e w3 ⟨a3,c3,rfl,hk3,hb3⟩)
  | (go_at_call 61;refine (zdj _ _ _ _ _ _).mono ?_;rintro e w5 ⟨rfl,hb5⟩;have hz:=(by (repeat (with_reducible first|exact HZ.out|refine zai ?_|refine zag ?_|(apply zad;focus assumption))):w5.heap[w.heap.size+1]?=some (.cells #[.int .u8 0,.int .i64 0,.string ⟨#[]⟩,.slice none 0 0] 34));obtain ⟨z0,z1,z2,z3⟩:=cells4 hz;have zf:=unfrozen hz;have HZ5:=Lib.hid hz;clear hz))
 all_goals
  go_wp2
  (try simp only [Exit.inBlock,Exit.then])
  refine bodyPost_ret (results_cell_row (P:=Tryz.prog) rfl _ _ (w.heap.size+1) _ _ _ _ rfl (set4 HZ5.out _ _ _ _) Tryz.underlying34 rfl (by kernel_rfl)) rfl ?_
  have hz:=HSZ.out
  have hK4:=(((zaf w5 (w.heap.size+1) 0 (.int .u8 51)).same (zaf _ (w.heap.size+1) 1 (.int .i64 0))).same (zaf _ (w.heap.size+1) 2 (.string p))).same (zaf _ (w.heap.size+1) 3 (.slice a3 l.length c3))
  have hw35:Below w3.heap.size w3 w5:=(by (repeat (with_reducible first|exact Below.refl _ _|refine zab ?_|refine zaa ?_|(apply zac;focus assumption))))
  have hw3:Below W.heap.size W w3:=(by (repeat (with_reducible first|exact Below.refl _ _|refine zab ?_|refine zaa ?_|(apply zac;focus assumption))))
  have hw5:=(hA.trans (hw3.mono hA.size)).trans (hw35.mono (Nat.le_trans hA.size hw3.size))
  have hkr:KidsAt (LD A w) w5 (.slice a3 l.length c3) l:=zar.2 ((hk3.shut (A:=LD A w) (fun k a=>a.1) (fun k e=>.inr (by have:=(hk3.lt e).1;(try simp at this);omega)) (by unfold maxLen;omega)).stays (Stays.of_below hw35))
  refine ⟨_,_,rfl,?_,zbb hw5 (by omega)⟩
  exact zam (k:=51) (hkr.stays ⟨hK4.size,fun b hb h=>⟨hK4.block b hb (fun e=>by rcases h with ⟨_,h⟩|h <;> omega),by
   rcases h with ⟨h,_⟩|h
   · exact .inl h
   · exact .inr (by omega)⟩⟩) (by omega) hp
theorem zcc (l:List Nd) (h:∀ s ∈ l,InvOkK s (invN s)) (hl:l.length≤100000):InvOkK (blockN l) (blockN (invL l).reverse):=
 zfg 0 ByteArray.empty l (invL l) (zee l) hl (Lib.hid fun j hj=>by rw [zkl l hj];exact h _ (zaT hj))
theorem zhn {n:Nd} (h:CS n):InvOkK n (invN n):=by
 induction h with
 | plus s e hs he h57 hz=>exact zkw s e hs he h57 hz
 | call p args hl=>
   have e:invN (callN p args)=nodeN 51 p (args.map vN):=by rw [callN,nodeN,invN,invK];rfl
   rw [e]
   exact zfP p _ (by simp;omega)
 | cond a d l1 l2 h1 h2 n1 n2 ih1 ih2=>
   have e:invN (nodeN 52 ByteArray.empty [a,blockN l1,blockN l2,d])=nodeN 52 ByteArray.empty [d,invN (blockN l1),invN (blockN l2),a]:=by
    have:∀ x y z u:Nd,invN (nodeN 52 ByteArray.empty [x,y,z,u])=nodeN 52 ByteArray.empty [u,invN y,invN z,x]:=fun x y z u=>by
     rw [nodeN,invN,invK];simp [invL,at',nodeN]
    exact this _ _ _ _
   rw [e,zcK,zcK]
   exact zhC a _ _ d _ _ (Lib.hid (zcc l1 ih1 n1)) (Lib.hid (zcc l2 ih2 n2))
 | loc a c k k' s hk hs ha hc ka kc za zc=>exact zmG a c k k' s hk hs ha hc ka kc za zc
end Go.Proofs.YtpobmoegmdhbpaaGreatDoor
