/- Contracts and plain lemmas (CgJ, CgK, CgL): no statement of the seat is proved here. -/
import Derived.Test.YtpobmoegmdhbpaaGreatDoorXq08
import Derived.Test.YtpobmoegmdhbpaaGreatDoorXq09
import Derived.Test.YtpobmoegmdhbpaaGreatDoorXq10
import Derived.Test.YtpobmoegmdhbpaaGreatDoorXq11
/- cleangen.bind and cleangen.binds as a whole. -/
set_option linter.unusedSimpArgs false
set_option linter.unusedVariables false
set_option linter.unusedSectionVars false
set_option maxRecDepth 100000
set_option maxHeartbeats 3200000
namespace Go.Proofs.YtpobmoegmdhbpaaGreatDoor
open Go.RowKit
theorem BdsAt.at {A:Nat→Prop} {w:World} {v:Value} {l:List Bd} (h:BdsAt A w v l) {j:Nat} (hj:j < l.length):
 ∃ b off cap aa ac ta tc ea ec,v=.slice (some ⟨b,off,none⟩) l.length cap∧b < w.heap.size∧w.cell? ⟨b,off+j * 8,none⟩=some (.string (at' l j).to)∧w.cell? ⟨b,off+j * 8+1,none⟩=some (.bool (at' l j).list)∧
   w.cell? ⟨b,off+j * 8+2,none⟩=some (.int .u8 (at' l j).op)∧w.cell? ⟨b,off+j * 8+3,none⟩=some (.int .i64 (at' l j).num)∧w.cell? ⟨b,off+j * 8+4,none⟩=some (.string (at' l j).name)∧
   w.cell? ⟨b,off+j * 8+5,none⟩=some (.slice aa (at' l j).args.length ac)∧w.cell? ⟨b,off+j * 8+6,none⟩=some (.slice ta (at' l j).thn.length tc)∧w.cell? ⟨b,off+j * 8+7,none⟩=some (.slice ea (at' l j).els.length ec)∧
   StrsAt A w (.slice aa (at' l j).args.length ac) (at' l j).args∧BdsAt A w (.slice ta (at' l j).thn.length tc) (at' l j).thn∧BdsAt A w (.slice ea (at' l j).els.length ec) (at' l j).els∧(at' l j).Ok1:=by
 cases h with
 | mk _ _ cs h hf ht he=>
   obtain ⟨b,off,cap,rfl,h1,h2,h3,h4⟩:=h.at hj
   obtain ⟨e0,e1,e2,e3,e4,e5,e6⟩:=hf j hj
   have t:=ht j hj
   have e:=he j hj
   obtain ⟨_,aa,ac,f5⟩:=e5.form
   obtain ⟨_,ta,tc,f6⟩:=t.form
   obtain ⟨_,ea,ec,f7⟩:=e.form
   have g5:=h4 5 (by omega)
   have g6:=h4 6 (by omega)
   have g7:=h4 7 (by omega)
   rw [f5] at g5 e5
   rw [f6] at g6 t
   rw [f7] at g7 e
   exact ⟨b,off,cap,aa,ac,ta,tc,ea,ec,rfl,h1,by rw [← e0];exact h4 0 (by omega),by rw [← e1];exact h4 1 (by omega),by rw [← e2];exact h4 2 (by omega),by rw [← e3];exact h4 3 (by omega),by rw [← e4];exact h4 4 (by omega),g5,g6,g7,e5,t,e,e6⟩
theorem zjW:∀ b:Bd,0 < sizeB b
 | .mk _ _ _ _ _ _ _ _=>by rw [sizeB];omega
theorem zaV:∀ l:List Bd,l.length≤sizeBs l
 | []=>by simp
 | b :: r=>by rw [sizeBs,List.length_cons];have:=zaV r;have:=zjW b;omega
theorem zeh:∀ (l:List Bd) (k:Nat),k < l.length→sizeB (at' l k)≤sizeBs l
 | [],k,h=>by simp at h
 | b :: r,0,_=>by rw [sizeBs];show sizeB b≤_;omega
 | b :: r,k+1,h=>by rw [sizeBs];have:=zeh r k (by simpa using h);show sizeB (at' r k)≤_;omega
theorem zhi (cf:CallF) (b:Bd):(bindN cf b).length≤2:=by
 obtain ⟨tn,l,op,num,nm,args,thn,els⟩:=b
 rw [bindN]
 repeat' split
 all_goals simp
theorem zbq (cf:CallF):∀ l:List Bd,(bindsN cf l).length≤2 * l.length
 | []=>by rw [bindsN];simp
 | b :: r=>by rw [bindsN,List.length_append,List.length_cons];have:=zbq cf r;have:=zhi cf b;omega
theorem zfl (fv:Value) (cf:CallF) (l:List Bd) (bv:Value) (w:World) (hsz:l.length≤100000) (hv:BdsAt Any w bv l)
 (HB:Hid (∀ k,k < l.length→∀ (av ha ea:Option Addr) (ac hc ec:Nat) (w1:World),Below w.heap.size w w1→StrsAt Any w1 (.slice av (at' l k).args.length ac) (at' l k).args→BdsAt Any w1 (.slice ha (at' l k).thn.length hc) (at' l k).thn→BdsAt Any w1 (.slice ea (at' l k).els.length ec) (at' l k).els→(at' l k).Ok1→
   Calls Tryz.prog 160 #[.agg #[.string (at' l k).to,.bool (at' l k).list,.int .u8 (at' l k).op,.int .i64 (at' l k).num,.string (at' l k).name,.slice av (at' l k).args.length ac,.slice ha (at' l k).thn.length hc,.slice ea (at' l k).els.length ec],fv] w1 (StmtsPost (bindN cf (at' l k)) w1))):
 Calls Tryz.prog 106 #[bv,fv] w (StmtsPost (bindsN cf l) w):=by
 obtain ⟨hll,la,lc,rfl⟩:=hv.form
 have HV:=Lib.hid hv
 clear hv
 go_enter Tryz.func106,Tryz.ntmps106
 go_wp2
 go_loopw [10,5] (fun i v wr=>∃ k:Nat,i=.int .i64 k∧k≤l.length∧Below w.heap.size w wr∧RowsOwn NdE 34 (Up w.heap.size) w.heap.size wr v (bindsN cf (l.take k))) (fun i _ _=>l.length - (intOf i).toNat)
 case atStart=>exact ⟨0,rfl,Nat.zero_le _,Below.refl _ _,by rw [List.take_zero,bindsN];exact RowsOwn.nil _ _ _ _ _⟩
 case round=>
  obtain ⟨k,rfl,hk,hbl,hown⟩:=hrel
  obtain ⟨va,vc,rfl⟩:=hown.form
  have HOWN:=Lib.hid hown
  have hbn:(bindsN cf (l.take k)).length≤2 * k:=by
   have:=zbq cf (l.take k)
   rw [List.length_take] at this
   omega
  clear hown
  by_cases hlt:k < l.length
  · obtain ⟨b,off,cap,aa,ac,ta,tc,ea,ec,he,hb,c0,c1,c2,c3,c4,c5,c6,c7,hs,ht,hel,hok⟩:=(HV.out.stays (Stays.of_below hbl)).at hlt
    simp only [Value.slice.injEq] at he
    obtain ⟨rfl,-,rfl⟩:=he
    have hA:Below wr.heap.size wr (wr.alloc (.cells #[.string (at' l k).to,.bool (at' l k).list,.int .u8 (at' l k).op,.int .i64 (at' l k).num,.string (at' l k).name,.slice aa (at' l k).args.length ac,.slice ta (at' l k).thn.length tc,.slice ea (at' l k).els.length ec] 116)):=(Below.refl _ _).alloc (Nat.le_refl _) _
    have HBC:=Lib.hid (HB.out k hlt aa ta ea ac tc ec _ (hbl.trans (hA.mono hbl.size)) (hs.stays (Stays.of_below hA)) (ht.stays (Stays.of_below hA)) (hel.stays (Stays.of_below hA)) hok)
    have HTK:=Lib.hid (zhA cf hlt)
    clear hs ht hel hok
    go_wp2_with fail
    refine HBC.out.mono ?_
    rintro e w1 ⟨ka,kn,kc,rfl,hk1,hb1⟩
    have hB1:Below wr.heap.size wr w1:=hA.trans (hb1.mono hA.size)
    have HO1:=Lib.hid (HOWN.out.below hB1)
    have HK1:=Lib.hid (zar.1 hk1)
    have hkl:=zhi cf (at' l k)
    have HD:Hid (∀ b,b < w1.heap.size→Up (wr.alloc (.cells #[.string (at' l k).to,.bool (at' l k).list,.int .u8 (at' l k).op,.int .i64 (at' l k).num,.string (at' l k).name,.slice aa (at' l k).args.length ac,.slice ta (at' l k).thn.length tc,.slice ea (at' l k).els.length ec] 116)).heap.size b→Up w.heap.size b∧(Value.slice va (bindsN cf (l.take k)).length vc).ownBlock≠some b):=Lib.hid (fun b _ a=>by
     have h1:wr.heap.size+1≤b:=by simpa [Up] using a
     have h2:=hbl.size
     exact ⟨by unfold Up;omega,fun e=>by have:=(HOWN.out.lt e).2;omega⟩)
    have hbase:w.heap.size≤w1.heap.size:=Nat.le_trans hbl.size hB1.size
    clear hk1 HBC
    go_wp2_with (at_builtin;refine zaF TNd rfl (by decide) rfl (.tmp 14) (.tmp 17) rfl rfl rfl HO1.out HK1.out HD.out (by unfold maxLen;omega) (by omega) hbase ?_;intro a' c' w3 h3 hg3 hn3;have H3:=Lib.hid h3;have HG3:Hid (World.grownBy _ w3 (Value.slice va (bindsN cf (l.take k)).length vc).ownBlock):=Lib.hid hg3;clear h3 hg3 hn3)
    go_roundw
    case rel=>exact ⟨k+1,by go_num,by omega,(hbl.trans (hB1.mono hbl.size)).grown HG3.out hbase (fun j e=>(HOWN.out.lt e).1),by rw [HTK.out];exact H3.out⟩
    case measure=>simp [intOf];omega
  · obtain rfl:k=l.length:=by omega
    have hlt':¬ (l.length:Int) < (l.length:Int):=by omega
    rw [List.take_length] at hbn HOWN
    go_wp2
    go_ret
    exact ⟨_,_,_,rfl,zar.2 (HOWN.out.shut (fun j a=>a) (fun j e=>(HOWN.out.lt e).1) (by unfold maxLen;omega)),hbl⟩
def BindsOk (m:Nat):Prop:=∀ (fv:Value) (cf:CallF) (l:List Bd) (bv:Value) (w:World),sizeBs l≤m→BdsAt Any w bv l→ClosOk fv cf w→Calls Tryz.prog 106 #[bv,fv] w (StmtsPost (bindsN cf l) w)
theorem zky (m:Nat) (hm:m≤90000) (ih:BindsOk m) (fv:Value) (cf:CallF) (b:Bd) (av ha ea:Option Addr) (ac hc ec:Nat) (w:World) (hsz:sizeB b≤m+1) (hok:b.Ok1) (hs:StrsAt Any w (.slice av b.args.length ac) b.args) (ht:BdsAt Any w (.slice ha b.thn.length hc) b.thn) (he:BdsAt Any w (.slice ea b.els.length ec) b.els) (hcl:ClosOk fv cf w):
 Calls Tryz.prog 160 #[.agg #[.string b.to,.bool b.list,.int .u8 b.op,.int .i64 b.num,.string b.name,.slice av b.args.length ac,.slice ha b.thn.length hc,.slice ea b.els.length ec],fv] w (StmtsPost (bindN cf b) w):=by
 obtain ⟨tn,l,op,num,nm,args,thn,els⟩:=b
 obtain ⟨o1,o2,o3,o4⟩:=hok
 simp only [Bd.to,Bd.list,Bd.op,Bd.num,Bd.name,Bd.args,Bd.thn,Bd.els] at *
 rw [sizeB] at hsz
 by_cases h0:op=80
 · subst h0;exact zmx fv tn nm l num av ha ea ac _ hc _ ec args cf thn els w hs o1 o3
 by_cases h1:op=81
 · subst h1
   cases l
   · exact zlX fv tn nm num av ha ea ac _ hc _ ec args cf thn els w hs o1 o3
   · exact zka fv tn nm num av ha ea ac _ hc _ ec args cf thn els w hs o1 o3
 by_cases h2:op=82
 · subst h2;exact znJ fv tn nm l num av ha ea ac _ hc _ ec args cf thn els w hs o1 o3
 by_cases h3:op=83
 · subst h3
   refine znn fv tn nm l num av ha ea ac _ hc _ ec args cf thn els w hs o1 o3 (Lib.hid fun w1 hb=>?_) (Lib.hid fun w1 hb=>?_)
   · exact ih fv cf thn _ w1 (by omega) (ht.stays (Stays.of_below hb)) (hcl.below hb)
   · exact ih fv cf els _ w1 (by omega) (he.stays (Stays.of_below hb)) (hcl.below hb)
 by_cases h5:op=85
 · subst h5;exact zkm fv tn nm l num av ha ea ac _ hc _ ec args cf thn els w hs o1 o3 o4 (by omega) (Lib.hid hcl)
 by_cases h7:op=87
 · subst h7;exact zls fv tn nm l num av ha ea ac _ hc _ ec args cf thn els w hs o1 o3
 by_cases h8:op=88
 · subst h8;exact zkg fv tn nm l num av ha ea ac _ hc _ ec args cf thn els w hs o1 o3
 by_cases h9:op=89
 · subst h9;exact zkL fv tn nm l num av ha ea ac _ hc _ ec args cf thn els w hs o1 o3
 by_cases h10:op=90
 · subst h10;exact zkY fv tn nm l num av ha ea ac _ hc _ ec args cf thn els w hs o1 o3
 rw [bindN,if_neg h0,if_neg h1,if_neg h2,if_neg h3,if_neg h5,if_neg h7,if_neg h8,if_neg h9,if_neg h10]
 exact zmV fv tn nm l op num av ha ea ac _ hc _ ec args w hs o1 o3 h0 h1 h2 h3 h5 h7 h8 h9 h10
theorem zij:∀ m,m≤90000→BindsOk m
 | 0,_=>fun fv cf l bv w hsz hv hcl=>by
   have:=zaV l
   exact zfl fv cf l bv w (by omega) hv (Lib.hid fun k hk=>by omega)
 | m+1,hm=>fun fv cf l bv w hsz hv hcl=>by
   have:=zaV l
   refine zfl fv cf l bv w (by omega) hv (Lib.hid fun k hk av ha ea ac hc ec w1 hb hs ht he hok=>?_)
   exact zky m (by omega) (zij m (by omega)) fv cf (at' l k) av ha ea ac hc ec w1 (by have:=zeh l k hk;omega) hok hs ht he (hcl.below hb)
end Go.Proofs.YtpobmoegmdhbpaaGreatDoor
/- Walks of package cleangen:Compute,decl,Params,result. -/
namespace Go.Proofs.YtpobmoegmdhbpaaGreatDoor
open Go.RowKit
theorem zak {P:Program} {fn:Func} {p q:Tmp} {ty:TypeId} (h:fn.results=#[.cell p ty,.tmp q]) (tmps:Array Value) (w:World) (g:Nat) (t:TypeId) (cs:Array Value) (fr:Nat × Nat) (d:TypeDesc) (v2:Value)
 (hp:tmps.getD p undef=.pointer (some ⟨g,0,none⟩)) (hg:w.heap[g]?=some (.cells cs t fr)) (hq:tmps.getD q undef=v2)
 (hu:P.underlying ty=some d) (hd:(match d with|.struct _|.array _ _=>true|_=>false)=true) (hi:(P.info? ty).map (·.size)=some cs.size):
 (results fn tmps).run P w=.ok (.tuple #[.agg cs,v2]) w:=by
 have hp':tmps[p]?.getD undef=.pointer (some ⟨g,0,none⟩):=by simpa using hp
 have hq':tmps[q]?.getD undef=v2:=by simpa using hq
 simp [results,h,hp',hq',asAddr,run_loadVar_row w g t ty cs fr d hg hu hd hi]
theorem zeY (g:AFn) (pa ta ba:Option Addr) (pc tc bc:Nat) (fv:Value) (cf:CallF) (w:World) (hb:BdsAt Any w (.slice ba g.body.length bc) g.body) (hcl:ClosOk fv cf w) (hsz:sizeBs g.body≤90000):
 Calls Tryz.prog 56 #[.agg #[.string g.name,.slice pa g.params.length pc,.bool g.list,.slice ta g.temps.length tc,.slice ba g.body.length bc,.string g.result],fv] w fun e w'=>∃ ka kn kc,e=.returned (.tuple #[.agg #[.int .u8 57,.int .i64 0,.string ⟨#[]⟩,.slice ka kn kc],.int .i64 0])∧KidsAt (Up w.heap.size) w' (.slice ka kn kc) (bindsN cf g.body)∧Below w.heap.size w w':=by
 obtain ⟨F,caps,hfv,_⟩:=id hcl
 subst hfv
 have hA1:Below w.heap.size w (w.alloc (.cells #[.string g.name,.slice pa g.params.length pc,.bool g.list,.slice ta g.temps.length tc,.slice ba g.body.length bc,.string g.result] 44)):=(Below.refl _ _).alloc (Nat.le_refl _) _
 have hA:Below w.heap.size w ((w.alloc (.cells #[.string g.name,.slice pa g.params.length pc,.bool g.list,.slice ta g.temps.length tc,.slice ba g.body.length bc,.string g.result] 44)).alloc (.cells #[.int .u8 0,.int .i64 0,.string ⟨#[]⟩,.slice none 0 0] 34)):=hA1.alloc hA1.size _
 have HN:=Lib.hid (zaw w (.cells #[.string g.name,.slice pa g.params.length pc,.bool g.list,.slice ta g.temps.length tc,.slice ba g.body.length bc,.string g.result] 44) (.cells #[.int .u8 0,.int .i64 0,.string ⟨#[]⟩,.slice none 0 0] 34))
 have HB:=Lib.hid (zij 90000 (Nat.le_refl _) _ cf g.body _ _ hsz (hb.stays (Stays.of_below hA)) (hcl.below hA))
 have heq:∀ w0:World,(binOp .eql 125 (.func (.func F) #[] caps) .nilFunc).run Tryz.prog w0=.ok (.bool false) w0:=fun w0=>by kernel_rfl
 clear hb hcl hsz
 go_enter Tryz.func56,Tryz.ntmps56
 go_wp2_with fail
 refine HB.out.mono ?_
 rintro e w1 ⟨ka,kn,kc,rfl,hk1,hb1⟩
 have HK1:=Lib.hid hk1
 clear hk1 HB
 go_wp2_with (go_at_call 86;refine (zcr _ _ _ _).mono ?_;rintro e w2 ⟨rfl,hb2⟩;have hr:=zad hb2 (zad hb1 HN.out);obtain ⟨r0,r1,r2,r3⟩:=cells4 hr;have f:=unfrozen hr;have HR:=Lib.hid hr;clear hr)
 (try simp only [Exit.inBlock,Exit.then])
 refine bodyPost_ret (zak (P:=Tryz.prog) rfl _ _ (w.heap.size+1) _ _ _ _ _ rfl (set4 HR.out _ _ _ _) rfl Tryz.underlying34 rfl (by kernel_rfl)) rfl ?_
 have hz:=hb1.size
 simp only [World.size_alloc] at hz
 have hB2:Below w.heap.size w w2:=hA.trans ((hb1.trans (hb2.mono hb1.size)).mono hA.size)
 refine ⟨_,_,_,rfl,?_,zaq hB2 (by omega)⟩
 have hK4:=(((zaf w2 (w.heap.size+1) 0 (.int .u8 57)).same (zaf _ (w.heap.size+1) 1 (.int .i64 0))).same (zaf _ (w.heap.size+1) 2 (.string ⟨#[]⟩))).same (zaf _ (w.heap.size+1) 3 (.slice ka kn kc))
 refine (HK1.out.stays (Stays.of_below hb2)).stays ⟨hK4.size,fun b hb a=>⟨hK4.block b hb (fun e=>?_),?_⟩⟩
 · have:w.heap.size+1+1≤b:=by simpa [Up] using a
   omega
 · have:w.heap.size+1+1≤b:=by simpa [Up] using a
   unfold Up;omega
structure Dcl where
 name:ByteArray
 kind:Int
instance:Inhabited Dcl:=⟨⟨ByteArray.empty,0⟩⟩
def DclE:Elem Dcl where
 size:=3
 C:=fun _ _ c x=>c 0=.string x.name∧c 1=.int .u8 x.kind∧c 2=.int .i64 0∧x.name.size≤maxLen
 stays:=fun _ _ _ h=>h
 congr:=fun h e=>⟨(e 0 (by omega)).trans h.1,(e 1 (by omega)).trans h.2.1,(e 2 (by omega)).trans h.2.2.1,h.2.2.2⟩
 one:=fun h i hi=>by
  match i,hi with
  | 0,_=>rw [h.1];rfl
  | 1,_=>rw [h.2.1];rfl
  | 2,_=>rw [h.2.2.1];rfl
def dclN (s:ByteArray) (b:Bool):Dcl:=⟨s,if b then 3 else 1⟩
theorem TDcl:RowT Tryz.prog 35 100 (.agg #[.string ByteArray.empty,.int .u8 0,.int .i64 0]) 3 32:=⟨Tryz.underlying35,by kernel_rfl⟩
theorem ziM (s:ByteArray) (b:Bool) (w:World):Calls Tryz.prog 91 #[.string s,.bool b] w fun e w'=>e=.returned (.agg #[.string s,.int .u8 (dclN s b).kind,.int .i64 0])∧Below w.heap.size w w':=by
 cases b
 all_goals
  go_enter Tryz.func91,Tryz.ntmps91
  go_wp2
  go_returns
  exact ⟨rfl,(Below.refl _ _).alloc (Nat.le_refl _) _⟩
def paramsN (g:AFn):List Dcl:=g.params.map (fun p=>dclN p.name p.list) ++ [dclN outS g.list]
theorem zjd {A:Nat→Prop} {w:World} {g:Nat} {s:ByteArray} {b:Bool} (h:w.heap[g]?=some (.cells #[.string s,.int .u8 (dclN s b).kind,.int .i64 0] 100 (0,0))) (hA:A g) (hs:s.size≤maxLen):RowsAt DclE A w (.slice (some ⟨g,0,none⟩) 1 1) [dclN s b]:=
 zfp h hA rfl ⟨rfl,rfl,rfl,hs⟩
theorem zfy (g:AFn) (pa ta ba:Option Addr) (pc tc bc:Nat) (w:World) (hp:ParsAt Any w (.slice pa g.params.length pc) g.params) (hl:g.params.length≤1000):
 Calls Tryz.prog 45 #[.agg #[.string g.name,.slice pa g.params.length pc,.bool g.list,.slice ta g.temps.length tc,.slice ba g.body.length bc,.string g.result]] w fun e w'=>∃ a c,e=.returned (.slice a (paramsN g).length c)∧RowsAt DclE (Up w.heap.size) w' (.slice a (paramsN g).length c) (paramsN g)∧Below w.heap.size w w':=by
 have hA:Below w.heap.size w (w.alloc (.cells #[.string g.name,.slice pa g.params.length pc,.bool g.list,.slice ta g.temps.length tc,.slice ba g.body.length bc,.string g.result] 44)):=(Below.refl _ _).alloc (Nat.le_refl _) _
 have hws:w.heap.size < (w.alloc (.cells #[.string g.name,.slice pa g.params.length pc,.bool g.list,.slice ta g.temps.length tc,.slice ba g.body.length bc,.string g.result] 44)).heap.size:=by simp
 have HN:=Lib.hid (zah w (.cells #[.string g.name,.slice pa g.params.length pc,.bool g.list,.slice ta g.temps.length tc,.slice ba g.body.length bc,.string g.result] 44))
 have HP:=Lib.hid (hp.stays (Stays.of_below hA))
 clear hp
 go_enter Tryz.func45,Tryz.ntmps45
 go_wp2
 generalize (w.alloc (.cells #[.string g.name,.slice pa g.params.length pc,.bool g.list,.slice ta g.temps.length tc,.slice ba g.body.length bc,.string g.result] 44))=W at *
 go_loopw [9,3] (fun i v wr=>∃ k:Nat,i=.int .i64 k∧k≤g.params.length∧Below W.heap.size W wr∧RowsOwn DclE 100 (Up W.heap.size) W.heap.size wr v ((g.params.take k).map (fun p=>dclN p.name p.list))) (fun i _ _=>g.params.length - (intOf i).toNat)
 case atStart=>exact ⟨0,rfl,Nat.zero_le _,Below.refl _ _,by rw [List.take_zero];exact RowsOwn.nil _ _ _ _ _⟩
 case round=>
  obtain ⟨k,rfl,hk,hbl,hown⟩:=hrel
  have hlk:((g.params.take k).map (fun p=>dclN p.name p.list)).length=k:=by simp;omega
  obtain ⟨va,vc,hv⟩:=hown.form
  rw [hlk] at hv
  subst hv
  have HOWN:=Lib.hid hown
  have HLK:=Lib.hid hlk
  clear hown hlk
  have hbw:Below w.heap.size w wr:=hA.trans (hbl.mono hA.size)
  by_cases hlt:k < g.params.length
  · obtain ⟨b,off,cap,he,hb,_,_,c0,c1,hsz⟩:=(HP.out.stays (Stays.of_below hbl)).at hlt
    simp only [Value.slice.injEq] at he
    obtain ⟨rfl,-,rfl⟩:=he
    have HTK:Hid ((g.params.take (k+1)).map (fun p=>dclN p.name p.list)=(g.params.take k).map (fun p=>dclN p.name p.list) ++ [dclN (at' g.params k).name (at' g.params k).list]):=Lib.hid (by rw [List.take_add_one,List.getElem?_eq_getElem hlt,zax hlt,List.map_append];rfl)
    have hA2:Below wr.heap.size wr (wr.alloc (.cells #[.string (at' g.params k).name,.bool (at' g.params k).list] 97)):=(Below.refl _ _).alloc (Nat.le_refl _) _
    go_wp2_with fail
    refine (ziM _ _ _).mono ?_
    rintro e w1 ⟨rfl,hb1⟩
    have hB1:Below wr.heap.size wr w1:=hA2.trans (hb1.mono hA2.size)
    have hBa:Below w1.heap.size w1 (w1.alloc (.cells #[.string (at' g.params k).name,.int .u8 (dclN (at' g.params k).name (at' g.params k).list).kind,.int .i64 0] 100)):=(Below.refl _ _).alloc (Nat.le_refl _) _
    have HK1:=Lib.hid (zjd (A:=fun j=>j=w1.heap.size) (heap_alloc_new w1 (.cells #[.string (at' g.params k).name,.int .u8 (dclN (at' g.params k).name (at' g.params k).list).kind,.int .i64 0] 100)) rfl hsz)
    have HO1:=Lib.hid ((HOWN.out.below hB1).below hBa)
    have HD:Hid (∀ b,b < (w1.alloc (.cells #[.string (at' g.params k).name,.int .u8 (dclN (at' g.params k).name (at' g.params k).list).kind,.int .i64 0] 100)).heap.size→b=w1.heap.size→Up W.heap.size b∧(Value.slice va k vc).ownBlock≠some b):=Lib.hid (fun b _ e=>⟨by have:=hbl.size;have:=hB1.size;unfold Up;omega,fun e2=>by have:=(HOWN.out.lt e2).2;have:=hB1.size;omega⟩)
    have hbase:W.heap.size≤(w1.alloc (.cells #[.string (at' g.params k).name,.int .u8 (dclN (at' g.params k).name (at' g.params k).list).kind,.int .i64 0] 100)).heap.size:=Nat.le_trans hbl.size (Nat.le_trans hB1.size hBa.size)
    go_wp2_with (at_builtin;refine zaF TDcl rfl (by decide) rfl (.tmp 13) (.tmp 19) rfl rfl rfl HO1.out HK1.out HD.out (by rw [HLK.out];unfold maxLen;simp;omega) (by rw [HLK.out];simp;omega) hbase ?_;intro a' c' w3 h3 hg3 hn3;have H3:=Lib.hid h3;have HG3:Hid (World.grownBy _ w3 (Value.slice va k vc).ownBlock):=Lib.hid hg3;clear h3 hg3 hn3)
    refine ⟨⟨k+1,by go_num,by omega,?_,by rw [HTK.out];have h3:=H3.out;rw [HLK.out] at h3;exact h3⟩,by simp [intOf];omega⟩
    exact ((hbl.trans ((hB1.trans (hBa.mono hB1.size)).mono hbl.size))).grown HG3.out hbase (fun j e=>(HOWN.out.lt e).1)
  · obtain rfl:k=g.params.length:=by omega
    have hlt':¬ (g.params.length:Int) < (g.params.length:Int):=by omega
    rw [List.take_length] at HOWN HLK
    have hr:=zad hbl HN.out
    have b2:=zae hr 2 rfl
    have HPL:Hid ((paramsN g).length=g.params.length+1):=Lib.hid (by simp [paramsN])
    have HPN:Hid (paramsN g=g.params.map (fun p=>dclN p.name p.list) ++ [dclN outS g.list]):=Lib.hid rfl
    clear hr
    go_wp2_with fail
    refine (ziM _ _ _).mono ?_
    rintro e w1 ⟨rfl,hb1⟩
    have hBa:Below w1.heap.size w1 (w1.alloc (.cells #[.string ⟨#[111,117,116]⟩,.int .u8 (dclN ⟨#[111,117,116]⟩ g.list).kind,.int .i64 0] 100)):=(Below.refl _ _).alloc (Nat.le_refl _) _
    have HK1:=Lib.hid (zjd (A:=fun j=>j=w1.heap.size) (heap_alloc_new w1 (.cells #[.string ⟨#[111,117,116]⟩,.int .u8 (dclN ⟨#[111,117,116]⟩ g.list).kind,.int .i64 0] 100)) rfl (by unfold maxLen;decide))
    have HO1:=Lib.hid ((HOWN.out.below hb1).below hBa)
    have HD:Hid (∀ b,b < (w1.alloc (.cells #[.string ⟨#[111,117,116]⟩,.int .u8 (dclN ⟨#[111,117,116]⟩ g.list).kind,.int .i64 0] 100)).heap.size→b=w1.heap.size→Up W.heap.size b∧(Value.slice va g.params.length vc).ownBlock≠some b):=Lib.hid (fun b _ e=>⟨by have:=hbl.size;have:=hb1.size;unfold Up;omega,fun e2=>by have:=(HOWN.out.lt e2).2;have:=hb1.size;omega⟩)
    have hbase:W.heap.size≤(w1.alloc (.cells #[.string ⟨#[111,117,116]⟩,.int .u8 (dclN ⟨#[111,117,116]⟩ g.list).kind,.int .i64 0] 100)).heap.size:=Nat.le_trans hbl.size (Nat.le_trans hb1.size hBa.size)
    go_wp2_with (at_builtin;refine zaF TDcl rfl (by decide) rfl (.tmp 22) (.tmp 26) rfl rfl rfl HO1.out HK1.out HD.out (by rw [HLK.out];unfold maxLen;simp;omega) (by rw [HLK.out];simp;omega) hbase ?_;intro a' c' w3 h3 hg3 hn3;have H3:=Lib.hid h3;have HG3:Hid (World.grownBy _ w3 (Value.slice va g.params.length vc).ownBlock):=Lib.hid hg3;clear h3 hg3 hn3)
    go_ret
    have h3:=H3.out
    have hB3:Below W.heap.size W w3:=(hbl.trans ((hb1.trans (hBa.mono hb1.size)).mono hbl.size)).grown HG3.out hbase (fun j e=>(HOWN.out.lt e).1)
    rw [HPL.out,HPN.out]
    have hW:w.heap.size≤W.heap.size:=hA.size
    rw [HLK.out] at h3
    refine ⟨_,_,rfl,h3.shut (fun j a=>Nat.le_trans hW a) (fun j e=>Nat.le_trans hW (h3.lt e).1) (by unfold maxLen;simp;omega),hA.trans (hB3.mono hA.size)⟩
end Go.Proofs.YtpobmoegmdhbpaaGreatDoor
/- Walks of package cleangen:result. -/
namespace Go.Proofs.YtpobmoegmdhbpaaGreatDoor
open Go.RowKit
def resultN (g:AFn):Nd:=if g.list then callN lcopyS [g.result,outS] else nodeN 42 ByteArray.empty [vN outS,vN g.result]
theorem zaI (w:World) (x y:Obj):((w.alloc x).alloc y).heap[w.heap.size]?=some x:=by
 rw [Below.heap_alloc _ _ _ (by simp)];exact zah w x
theorem cells6 {w:World} {b e:Nat} {v0 v1 v2 v3 v4 v5:Value} (h:w.heap[b]?=some (.cells #[v0,v1,v2,v3,v4,v5] e (0,0))):
 w.cell? ⟨b,0,none⟩=some v0∧w.cell? ⟨b,1,none⟩=some v1∧w.cell? ⟨b,2,none⟩=some v2∧w.cell? ⟨b,3,none⟩=some v3∧w.cell? ⟨b,4,none⟩=some v4∧w.cell? ⟨b,5,none⟩=some v5:=
 ⟨zae h 0 rfl,zae h 1 rfl,zae h 2 rfl,zae h 3 rfl,zae h 4 rfl,zae h 5 rfl⟩
theorem zmP (g:AFn) (pa ta ba:Option Addr) (pc tc bc:Nat) (w:World) (hs:g.result.size≤maxLen):
 Calls Tryz.prog 84 #[.agg #[.string g.name,.slice pa g.params.length pc,.bool g.list,.slice ta g.temps.length tc,.slice ba g.body.length bc,.string g.result]] w fun e w'=>∃ k ka kn kc,e=.returned (.agg #[.int .u8 k,.int .i64 0,.string (resultN g).name,.slice ka kn kc])∧NdAt (Up w.heap.size) w' (.agg #[.int .u8 k,.int .i64 0,.string (resultN g).name,.slice ka kn kc]) (resultN g)∧Below w.heap.size w w':=by
 have hA1:Below w.heap.size w (w.alloc (.cells #[.string g.name,.slice pa g.params.length pc,.bool g.list,.slice ta g.temps.length tc,.slice ba g.body.length bc,.string g.result] 44)):=(Below.refl _ _).alloc (Nat.le_refl _) _
 have hA:Below w.heap.size w ((w.alloc (.cells #[.string g.name,.slice pa g.params.length pc,.bool g.list,.slice ta g.temps.length tc,.slice ba g.body.length bc,.string g.result] 44)).alloc (.cells #[.int .u8 0,.int .i64 0,.string ⟨#[]⟩,.slice none 0 0] 34)):=hA1.alloc hA1.size _
 have HN:=Lib.hid (zaw w (.cells #[.string g.name,.slice pa g.params.length pc,.bool g.list,.slice ta g.temps.length tc,.slice ba g.body.length bc,.string g.result] 44) (.cells #[.int .u8 0,.int .i64 0,.string ⟨#[]⟩,.slice none 0 0] 34))
 have HX:=Lib.hid (zaI w (.cells #[.string g.name,.slice pa g.params.length pc,.bool g.list,.slice ta g.temps.length tc,.slice ba g.body.length bc,.string g.result] 44) (.cells #[.int .u8 0,.int .i64 0,.string ⟨#[]⟩,.slice none 0 0] 34))
 have hsz:((w.alloc (.cells #[.string g.name,.slice pa g.params.length pc,.bool g.list,.slice ta g.temps.length tc,.slice ba g.body.length bc,.string g.result] 44)).alloc (.cells #[.int .u8 0,.int .i64 0,.string ⟨#[]⟩,.slice none 0 0] 34)).heap.size=w.heap.size+1+1:=by simp
 have HSZ:=Lib.hid hsz
 clear hA1 hsz
 cases hl:g.list with
 | true=>
   have HR:Hid (resultN g=callN ⟨#[108,99,111,112,121]⟩ [g.result,⟨#[111,117,116]⟩]):=Lib.hid (by rw [resultN,hl];rfl)
   have HRN:Hid ((resultN g).name=⟨#[108,99,111,112,121]⟩):=Lib.hid (by rw [HR.out];rfl)
   rw [hl] at hA HN HX HSZ
   clear hl
   go_enter Tryz.func84,Tryz.ntmps84
   go_wp2_with fail
   generalize ((w.alloc (.cells #[.string g.name,.slice pa g.params.length pc,.bool true,.slice ta g.temps.length tc,.slice ba g.body.length bc,.string g.result] 44)).alloc (.cells #[.int .u8 0,.int .i64 0,.string ⟨#[]⟩,.slice none 0 0] 34))=W at *
   have HIV:=Lib.hid (zfD (w.heap.size+1+1) ⟨#[108,99,111,112,121]⟩ (some ⟨w.heap.size+1+1,0,none⟩) 2 2 [g.result,⟨#[111,117,116]⟩] (W.alloc (.cells #[.string g.result,.string ⟨#[111,117,116]⟩] 9)) (by rw [World.size_alloc,HSZ.out];omega) (ziz (A:=Any) (zaj HSZ.out.symm) trivial hs (by unfold maxLen;decide)) (by unfold maxLen;decide) (by simp))
   refine HIV.out.mono ?_
   rintro e w1 ⟨ka,kn,kc,rfl,hk1,hb1⟩
   have hr:=zad hb1 (zag HN.out)
   obtain ⟨r0,r1,r2,r3⟩:=cells4 hr
   have f:=unfrozen hr
   have HRB:=Lib.hid hr
   have HK1:=Lib.hid hk1
   clear hr hk1 HIV
   go_wp2
   (try simp only [Exit.inBlock,Exit.then])
   refine bodyPost_ret (results_cell_row (P:=Tryz.prog) rfl _ _ (w.heap.size+1) _ _ _ _ rfl (set4 HRB.out _ _ _ _) Tryz.underlying34 rfl (by kernel_rfl)) rfl ?_
   rw [HRN.out]
   have hAa:=zaa (x:=.cells #[.string g.result,.string ⟨#[111,117,116]⟩] 9) hA
   have hB1:Below w.heap.size w w1:=hAa.trans (hb1.mono hAa.size)
   have hK4:=(((zaf w1 (w.heap.size+1) 0 (.int .u8 50)).same (zaf _ (w.heap.size+1) 1 (.int .i64 0))).same (zaf _ (w.heap.size+1) 2 (.string ⟨#[108,99,111,112,121]⟩))).same (zaf _ (w.heap.size+1) 3 (.slice ka kn kc))
   refine ⟨_,_,_,_,rfl,?_,zaq hB1 (by omega)⟩
   rw [HR.out]
   exact HK1.out.stays ⟨hK4.size,fun b hb a=>⟨hK4.block b hb (fun e=>by have:w.heap.size+1+1≤b:=a;omega),by have:w.heap.size+1+1≤b:=a;unfold Up;omega⟩⟩
 | false=>
   have HR:Hid (resultN g=nodeN 42 ⟨#[]⟩ [vN ⟨#[111,117,116]⟩,vN g.result]):=Lib.hid (by rw [resultN,hl];rfl)
   have HRN:Hid ((resultN g).name=⟨#[]⟩):=Lib.hid (by rw [HR.out];rfl)
   rw [hl] at hA HN HX HSZ
   clear hl
   go_enter Tryz.func84,Tryz.ntmps84
   go_wp2
   generalize ((w.alloc (.cells #[.string g.name,.slice pa g.params.length pc,.bool false,.slice ta g.temps.length tc,.slice ba g.body.length bc,.string g.result] 44)).alloc (.cells #[.int .u8 0,.int .i64 0,.string ⟨#[]⟩,.slice none 0 0] 34))=W at *
   go_region_held3 (fun w1=>w1.cell? ⟨w.heap.size,0,none⟩=some (.string g.name)∧w1.cell? ⟨w.heap.size,1,none⟩=some (.slice pa g.params.length pc)∧w1.cell? ⟨w.heap.size,2,none⟩=some (.bool false)∧w1.cell? ⟨w.heap.size,3,none⟩=some (.slice ta g.temps.length tc)∧w1.cell? ⟨w.heap.size,4,none⟩=some (.slice ba g.body.length bc)∧w1.cell? ⟨w.heap.size,5,none⟩=some (.string g.result))
    ((refine cells6 (e:=44) ?_;(repeat (with_reducible first|exact HX.out|refine zai ?_|refine zag ?_|(apply zad;focus assumption)|(refine zaN ?_ (Nat.ne_of_lt (Nat.lt_succ_self _)))))))
    (first
    | (go_at_call 138;refine (zbe _ _).mono ?_;rintro e w3 ⟨rfl,hb3⟩)
    | (go_at_call 136;refine (zbx _ _ _ _ _ _).mono ?_;rintro e w4 ⟨rfl,hb4⟩;have hr:w4.heap[w.heap.size+1]?=some (.cells #[.int .u8 0,.int .i64 0,.string ⟨#[]⟩,.slice none 0 0] 34):=(by (repeat (with_reducible first|exact HN.out|refine zai ?_|refine zag ?_|(apply zad;focus assumption))));obtain ⟨r0,r1,r2,r3⟩:=cells4 hr;have f:=unfrozen hr;have HRB:=Lib.hid hr;clear hr))
   all_goals
    go_wp2
    (try simp only [Exit.inBlock,Exit.then])
    refine bodyPost_ret (results_cell_row (P:=Tryz.prog) rfl _ _ (w.heap.size+1) _ _ _ _ rfl (set4 HRB.out _ _ _ _) Tryz.underlying34 rfl (by kernel_rfl)) rfl ?_
    rw [HRN.out]
    have hB4:Below w.heap.size w w4:=by (repeat (with_reducible first|exact hA|refine zab ?_|refine zaa ?_|(apply zac;focus assumption)))
    have hW3:Below W.heap.size W w3:=by (repeat (with_reducible first|exact Below.refl _ _|refine zab ?_|refine zaa ?_|(apply zac;focus assumption)))
    have hz3:=hW3.size
    have hzz:=HSZ.out
    refine ⟨_,_,_,_,rfl,?_,zaq hB4 (by omega)⟩
    rw [HR.out]
    refine zam (zdg (zaN (g:=w.heap.size+1) (zad hb4 (heap_alloc_new w3 _)) ?_) ?_ (nd_v (by unfold maxLen;decide)) (nd_v hs)) (by omega) (Nat.zero_le _)
    · omega
    · unfold Up;omega
end Go.Proofs.YtpobmoegmdhbpaaGreatDoor
