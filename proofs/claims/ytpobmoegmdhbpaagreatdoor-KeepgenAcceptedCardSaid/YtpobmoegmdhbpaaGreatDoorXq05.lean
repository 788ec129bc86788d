/- Contracts and plain lemmas (AnfP, AnfQ): no statement of the seat is proved here. -/
import Derived.Test.YtpobmoegmdhbpaaGreatDoorXq04
import Derived.Deep.DeepCutAuto
/- The visitor of package anf:the walk of choice. -/
set_option linter.unusedSimpArgs false
set_option linter.unusedVariables false
set_option linter.unusedSectionVars false
set_option maxRecDepth 100000
set_option maxHeartbeats 6400000
namespace Go.Proofs.YtpobmoegmdhbpaaGreatDoor
open Go.RowKit
theorem zhr {C:VC} {pb:Nat} {A:Nat→Prop} {tv bv:Value} {w w2:World} {a b:Obj} {L:List (Nat × Obj)} (h:Locs C pb A tv bv w ((((w2.alloc a).heap.size,b)) :: (w2.heap.size,a) :: L)):Locs C pb A tv bv w ((w2.heap.size+1,b) :: (w2.heap.size,a) :: L):=by
 have e:(w2.alloc a).heap.size=w2.heap.size+1:=by simp
 rw [e] at h;exact h
theorem zkJ (m:Nat) (ih:XOk m) (C:VC) (n:Nd) (v:Value) (pb po:Nat) (A:Nat→Prop) (w:World) (tv bv c4:Value) (ts:List Par) (bs:List Bd) (env:Env) (N:Nat) (h83:n.kind=83) (hm:sizeN n≤m+1) (hform:formedN n=true) (hkn:knownN C.lib n=true) (hv:NdAt A w v n) (hst:St C pb po A w tv bv c4 ts bs env N)
 (hse:SmallE env) (hts:TsSmall ts) (hl1:ts.length+2 * sizeN n≤100000) (hl2:bs.length+2 * sizeN n≤100000) (hl3:N+2 * sizeN n≤100000):
 Calls Tryz.prog 157 #[.pointer (some ⟨C.bV,0,none⟩),v,.pointer (some ⟨pb,po,none⟩)] w (XPost C pb po A w tv bv c4 bs (N+2 * sizeN n) (exprN C.lib n env ts)):=by
 obtain ⟨hok,hlen,ka,kc,rfl,hk⟩:=hv.open
 have hk3:=zkq hform h83
 have hsz:sizeN n=sizeN (at' n.kids 0)+sizeN (at' n.kids 1)+sizeN (at' n.kids 2)+1:=by rw [zbd,kids3 hk3];simp [sizeL,at'];omega
 have H83:=Lib.hid h83
 have hx1:=zap C.lib (at' n.kids 0) env ts
 have hx2:=zaA C.lib (at' n.kids 0) env ts hse hts (by omega)
 have i0:(0:Int) < (n.kids.length:Int):=by omega
 have i0n:0 < n.kids.length:=by omega
 have i1:(1:Int) < (n.kids.length:Int):=by omega
 have i2:(2:Int) < (n.kids.length:Int):=by omega
 have hL0:=Locs.three hst (.cells #[.pointer (some ⟨C.bV,0,none⟩)] 232) (.cells #[.int .u8 n.kind,.int .i64 n.num,.string n.name,.slice ka n.kids.length kc] 34) (.cells #[.string ⟨#[]⟩,.bool false] 97)
 have hA:Below w.heap.size w (((w.alloc (.cells #[.pointer (some ⟨C.bV,0,none⟩)] 232)).alloc (.cells #[.int .u8 n.kind,.int .i64 n.num,.string n.name,.slice ka n.kids.length kc] 34)).alloc (.cells #[.string ⟨#[]⟩,.bool false] 97)):=(((Below.refl _ _).alloc (Nat.le_refl _) _).alloc (by simp) _).alloc (by simp;omega) _
 have hWs:(((w.alloc (.cells #[.pointer (some ⟨C.bV,0,none⟩)] 232)).alloc (.cells #[.int .u8 n.kind,.int .i64 n.num,.string n.name,.slice ka n.kids.length kc] 34)).alloc (.cells #[.string ⟨#[]⟩,.bool false] 97)).heap.size=w.heap.size+1+1+1:=by simp
 have hS0:=hst.below hA
 have hT0:=(Step.refl C pb A w tv bv c4).below hA
 obtain ⟨b,off,cap,ka0,kc0,he,q0,q1,q2,q3,hnd0⟩:=hk.later (hst.stays hT0) (j:=0) (by omega)
 simp only [Value.slice.injEq] at he
 obtain ⟨rfl,-,rfl⟩:=he
 simp only [Nat.zero_mul,Nat.add_zero] at q0 q1 q2 q3
 have HCX:Hid (∀ W',Below (((w.alloc (.cells #[.pointer (some ⟨C.bV,0,none⟩)] 232)).alloc (.cells #[.int .u8 n.kind,.int .i64 n.num,.string n.name,.slice (some ⟨b,off,none⟩) n.kids.length kc] 34)).alloc (.cells #[.string ⟨#[]⟩,.bool false] 97)).heap.size (((w.alloc (.cells #[.pointer (some ⟨C.bV,0,none⟩)] 232)).alloc (.cells #[.int .u8 n.kind,.int .i64 n.num,.string n.name,.slice (some ⟨b,off,none⟩) n.kids.length kc] 34)).alloc (.cells #[.string ⟨#[]⟩,.bool false] 97)) W'→Calls Tryz.prog 105 _ W' (XPost C pb po A W' tv bv c4 bs (N+2 * sizeN (at' n.kids 0)) (exprN C.lib (at' n.kids 0) env ts))):=Lib.hid (fun W' hb=>ih C (at' n.kids 0) _ pb po A W' tv bv c4 ts bs env N (by omega) (zaz hform (by omega)) (zbG hkn (by omega)) (hnd0.stays (Stays.of_below hb)) (hS0.below hb) hse hts (by omega) (by omega) (by omega))
 have r0:_=some (Value.pointer (some ⟨C.bV,0,none⟩)):=zae (hL0.blk (g:=w.heap.size) (List.mem_cons_of_mem _ (List.mem_cons_of_mem _ (List.mem_cons_self ..)))) 0 rfl
 have r3:_=some (Value.slice (some ⟨b,off,none⟩) n.kids.length kc):=zae (hL0.blk (g:=w.heap.size+1) (List.mem_cons_of_mem _ (List.mem_cons_self ..))) 3 rfl
 have HST:=Lib.hid hst
 have HS0:=Lib.hid hS0
 have HL0:=Lib.hid hL0
 have HT0:=Lib.hid hT0
 have HK:=Lib.hid hk
 have HK3:=Lib.hid hk3
 have HF:=Lib.hid hform
 have HKN:=Lib.hid hkn
 have HSZ:=Lib.hid hsz
 clear hst hS0 h83 hk hform hkn hk3 hnd0 hsz hL0 hT0
 have HWS:=Lib.hid hWs
 clear hWs
 go_enter Tryz.func157,Tryz.ntmps157
 go_wp2
 generalize (((w.alloc (.cells #[.pointer (some ⟨C.bV,0,none⟩)] 232)).alloc (.cells #[.int .u8 n.kind,.int .i64 n.num,.string n.name,.slice (some ⟨b,off,none⟩) n.kids.length kc] 34)).alloc (.cells #[.string ⟨#[]⟩,.bool false] 97))=W at *
 have hfd:=zdH
 have hD:Below W.heap.size W W.drew:=zal (Below.refl _ _) 1
 generalize hXe:exprN C.lib (at' n.kids 0) env ts=X at *
 have HXE:=Lib.hid hXe
 clear hXe
 go_cut [7] (fun s7 wx=>ChA C pb po A w tv bv c4 bs (N+2 * sizeN (at' n.kids 0)) (.slice (some ⟨b,off,none⟩) n.kids.length kc) n X s7 wx)
 case first=>
  have hZ0:Below W.heap.size W (W.alloc (.cells #[.string ⟨#[]⟩,.bool false,.int .u8 0,.int .i64 0,.string ⟨#[]⟩,.slice none 0 0,.slice none 0 0,.slice none 0 0] 116)):=(Below.refl _ _).alloc (Nat.le_refl _) _
  have e0:=(hZ0.cell (World.block_lt_of_cell? W _ q0)).trans q0
  have e1:=(hZ0.cell (World.block_lt_of_cell? W _ q1)).trans q1
  have e2:=(hZ0.cell (World.block_lt_of_cell? W _ q2)).trans q2
  have e3:=(hZ0.cell (World.block_lt_of_cell? W _ q3)).trans q3
  have e4:=(hZ0.cell (World.block_lt_of_cell? W _ r0)).trans r0
  have e5:=(hZ0.cell (World.block_lt_of_cell? W _ r3)).trans r3
  have hZ:Below W.heap.size W (W.alloc (.cells #[.string ⟨#[]⟩,.bool false,.int .u8 0,.int .i64 0,.string ⟨#[]⟩,.slice none 0 0,.slice none 0 0,.slice none 0 0] 116)).drew:=zal ((Below.refl _ _).alloc (Nat.le_refl _) _) 1
  have HLZ:=Lib.hid ((HL0.out.alloc HS0.out (.cells #[.string ⟨#[]⟩,.bool false,.int .u8 0,.int .i64 0,.string ⟨#[]⟩,.slice none 0 0,.slice none 0 0,.slice none 0 0] 116)).below (zal (Below.refl _ _) 1))
  go_region_law (first
   | (go_simp;go_at_call 105;refine (HCX.out _ hD).mono ?_;rintro e w1 ⟨rfl,A1,tv1,bv1,c41,hS1,hT1⟩;have HL1:=Lib.hid ((HL0.out.below hD).step hT1);have HT1:=Lib.hid ((HT0.out.below hD).trans hT1);have HS1:=Lib.hid hS1;clear hS1 hT1)
   | (go_simp;go_at_call 105;refine (HCX.out _ hZ).mono ?_;rintro e w1 ⟨rfl,A1,tv1,bv1,c41,hS1,hT1⟩;have hLz:=HLZ.out.step hT1;have HT1:=Lib.hid ((HT0.out.below hZ).trans hT1);have HS1:=Lib.hid hS1;have hzb:=(hLz.below ((Below.refl _ _).alloc (Nat.le_refl _) (.cells #[.string X.par.name] 9))).blk (List.mem_cons_self ..);obtain ⟨z0,z1,z2,z3,z4,z5,z6,z7⟩:=cells8 hzb;have hfz:=unfrozen hzb;have HLz:=Lib.hid hLz;clear hS1 hT1 hLz hzb))
  all_goals
   clear q0 q1 q2 q3 r0 r3 e0 e1 e2 e3 e4 e5
   go_wp2
   go_meet
   first
    | with_reducible exact chA1 HS1.out HT1.out HL1.out hx2.1
    | with_reducible exact chA2 HS1.out HT1.out HL1.out hx2.1
    | exact chA3 HS1.out HT1.out HLz.out hx2.1 (by have:=HWS.out;omega)
 case rest=>
  obtain ⟨g7,gs,A1,tv1,bv1,c41,rfl,hS1,hT1,hL1,hA1,hg7⟩:=hcut
  have v2:wc.cell? ⟨C.bV,2,none⟩=some (.func (.func 102) #[] #[.pointer (some ⟨C.bo,0,none⟩)]):=zae (VSt.vis hS1) 2 rfl
  have p0:wc.cell? ⟨w.heap.size,0,none⟩=some (.pointer (some ⟨C.bV,0,none⟩)):=zae (hL1.blk (g:=w.heap.size) (List.mem_cons_of_mem _ (List.mem_cons_of_mem _ (List.mem_cons_of_mem _ (List.mem_cons_self ..))))) 0 rfl
  have HFR:=Lib.hid (zmW C pb po A1 wc tv1 bv1 c41 X.ts (bs ++ X.bs) X.env _ hS1 (by have:=HSZ.out;omega))
  have HL1:=Lib.hid hL1
  have HT1:=Lib.hid hT1
  have HS1:=Lib.hid hS1
  have HA1:=Lib.hid hA1
  have hmf:∀ (fn:Go.Fn) (first cap:Array Value) (w:World),(Instr.makeFunc fn first cap).run Tryz.prog w=.ok (.func fn first cap) w:=fun _ _ _ _=>rfl
  clear hS1 hT1 hL1 hA1 q0 q1 q2 q3 r0 r3
  have hsz:=HSZ.out
  go_wp2_with fail
  refine HFR.out.mono ?_
  rintro e w2 ⟨rfl,tv2,hS2,hT2⟩
  have hB3:Below w2.heap.size w2 ((w2.alloc (.cells #[.int .i64 X.ts.length] 3)).alloc (.cells #[.string ⟨#[]⟩,.bool false] 97)):=((Below.refl _ _).alloc (Nat.le_refl _) _).alloc (by simp) _
  have hL2:=HL1.out.step hT2
  have hL3:=(hL2.alloc hS2 (.cells #[.int .i64 X.ts.length] 3)).alloc (hS2.below ((Below.refl _ _).alloc (Nat.le_refl _) _)) (.cells #[.string ⟨#[]⟩,.bool false] 97)
  have hT3:=(HT1.out.trans hT2).below hB3
  have hS3:=hS2.below hB3
  have HS3:=Lib.hid hS3
  have HT3:=Lib.hid hT3
  have HL3:=Lib.hid (zhr hL3)
  have HA3:=Lib.hid ((HA1.out.stays (HS1.out.stays hT2)).stays (Stays.of_below hB3))
  have k3:((w2.alloc (.cells #[.int .i64 X.ts.length] 3)).alloc (.cells #[.string ⟨#[]⟩,.bool false] 97)).cell? ⟨w.heap.size+1,3,none⟩=some (.slice (some ⟨b,off,none⟩) n.kids.length kc):=zae (HL3.out.blk (g:=w.heap.size+1) (List.mem_cons_of_mem _ (List.mem_cons_of_mem _ (List.mem_cons_of_mem _ (List.mem_cons_of_mem _ (List.mem_cons_self ..)))))) 3 rfl
  have hlt2:w.heap.size+1+1 < w2.heap.size:=hL2.lt (p:=(w.heap.size+1+1,_)) (List.mem_cons_of_mem _ (List.mem_cons_self ..))
  have hlt7:g7 < w2.heap.size:=hL2.lt (p:=(g7,_)) (List.mem_cons_self ..)
  obtain ⟨b',off',cap',ka1,kc1,he1,q0,q1,q2,q3,hnd1⟩:=HK.out.later (HST.out.stays hT3) (j:=1) (by have:=HK3.out;omega)
  simp only [Value.slice.injEq,Option.some.injEq,Addr.mk.injEq,and_true] at he1
  obtain ⟨⟨rfl,rfl⟩,-,rfl⟩:=he1
  simp only [Nat.one_mul] at q0 q1 q2 q3
  have HND1:=Lib.hid hnd1
  clear hS2 hT2 hL2 hL3 hT3 hS3 hnd1
  have hy1:=zap C.lib (at' n.kids 1) X.env (X.ts ++ [⟨tname X.ts.length,false⟩])
  have hy2:=zaA C.lib (at' n.kids 1) X.env (X.ts ++ [⟨tname X.ts.length,false⟩]) hx2.2.1 (hx2.2.2.snoc (zba (by omega))) (by rw [List.length_append,List.length_singleton];omega)
  rw [List.length_append,List.length_singleton] at hy1
  have HBR:=Lib.hid (zgm m ih C (at' n.kids 1) _ pb po A1 _ tv2 bv1 c41 _ _ X.env _ w.heap.size w2.heap.size (w2.heap.size+1) X.ts.length ⟨#[]⟩ false (by omega) (zaz HF.out (by have:=HK3.out;omega)) (zbG HKN.out (by have:=HK3.out;omega)) HND1.out HS3.out (HL3.out.sub (by simp)) (by simp) hx2.2.1 (hx2.2.2.snoc (zba (by omega))) (by rw [List.length_append,List.length_singleton];omega) (by omega))
  generalize hYe:exprN C.lib (at' n.kids 1) X.env (X.ts ++ [⟨tname X.ts.length,false⟩])=Y at *
  have HYE:=Lib.hid hYe
  clear hYe v2 p0
  go_wp2_with fail
  refine HBR.out.mono ?_
  rintro e w4 ⟨rv,A4,tv4,rfl,hS4,hk4,hup4,hnw4,hn4,hB4,h94⟩
  obtain ⟨hT4,hL4⟩:=zkV (po:=po) (N:=0) HT3.out HL3.out (by simp;omega) (by omega) hk4 hup4 hnw4 hn4 h94
  have HA4:=Lib.hid (HA3.out.stays (ziP HS3.out HL3.out hk4 hup4))
  obtain ⟨_,ra,rc,hrv⟩:=hB4.form
  have HB4:Hid (BdsAt A4 w4 rv (Y.bs ++ [varB (at' (setTy Y.ts X.ts.length Y.par.list) X.ts.length).name (at' (setTy Y.ts X.ts.length Y.par.list) X.ts.length).list Y.par.name])):=Lib.hid hB4
  generalize (Y.bs ++ [varB (at' (setTy Y.ts X.ts.length Y.par.list) X.ts.length).name (at' (setTy Y.ts X.ts.length Y.par.list) X.ts.length).list Y.par.name]).length=nY at hrv
  subst hrv
  have hL4':=hL4.sub (L':=[(g7,bindL gs),(w2.heap.size+1,.cells #[.string (at' (setTy Y.ts X.ts.length Y.par.list) X.ts.length).name,.bool (at' (setTy Y.ts X.ts.length Y.par.list) X.ts.length).list] 97 (0,0)),(w2.heap.size,.cells #[.int .i64 X.ts.length] 3 (0,0)),(w.heap.size+1+1,.cells #[.string ⟨#[]⟩,.bool false] 97 (0,0)),(w.heap.size+1,.cells #[.int .u8 n.kind,.int .i64 n.num,.string n.name,.slice (some ⟨b,off,none⟩) n.kids.length kc] 34 (0,0)),(w.heap.size,.cells #[.pointer (some ⟨C.bV,0,none⟩)] 232 (0,0))]) (by simp)
  have hg7:w4.heap[g7]?=_:=hL4'.blk (List.mem_cons_self ..)
  have z6:w4.cell? ⟨g7,6,none⟩=some (.slice none 0 0):=zae hg7 6 rfl
  have fz6:=unfrozen hg7 6
  have hP7:∀ p ∈ [(w2.heap.size+1,Obj.cells #[.string (at' (setTy Y.ts X.ts.length Y.par.list) X.ts.length).name,.bool (at' (setTy Y.ts X.ts.length Y.par.list) X.ts.length).list] 97 (0,0)),(w2.heap.size,.cells #[.int .i64 X.ts.length] 3 (0,0)),(w.heap.size+1+1,.cells #[.string ⟨#[]⟩,.bool false] 97 (0,0)),(w.heap.size+1,.cells #[.int .u8 n.kind,.int .i64 n.num,.string n.name,.slice (some ⟨b,off,none⟩) n.kids.length kc] 34 (0,0)),(w.heap.size,.cells #[.pointer (some ⟨C.bV,0,none⟩)] 232 (0,0))],p.1≠g7:=by simp;omega
  have hL5:=hL4'.set 6 (.slice ra nY rc) hP7
  simp only [List.setIfInBounds_toArray,List.set_cons_zero,List.set_cons_succ] at hL5
  have hS5:=hS4.setLoc hL4' (List.mem_cons_self ..) 6 (.slice ra nY rc)
  have hT5:=hT4.young (zaf w4 g7 6 (.slice ra nY rc)) (fun k e=>by omega)
  have hst5:Stays A4 A4 w4 (w4.setCell ⟨g7,6,none⟩ (.slice ra nY rc)):=(zaf w4 g7 6 (.slice ra nY rc)).stays (fun k a _ e=>(hL4' _ (List.mem_cons_self ..)).2.1 (by rw [show g7=k from (e:k=g7).symm];exact a))
  have HB5:=Lib.hid (HB4.out.stays hst5)
  have HA5:=Lib.hid (HA4.out.stays hst5)
  have HL5:=Lib.hid hL5
  have HS5:=Lib.hid hS5
  have HT5:=Lib.hid hT5
  have k3':(w4.setCell ⟨g7,6,none⟩ (.slice ra nY rc)).cell? ⟨w.heap.size+1,3,none⟩=some (.slice (some ⟨b,off,none⟩) n.kids.length kc):=zae (hL5.blk (g:=w.heap.size+1) (List.mem_cons_of_mem _ (List.mem_cons_of_mem _ (List.mem_cons_of_mem _ (List.mem_cons_of_mem _ (List.mem_cons_self ..)))))) 3 rfl
  obtain ⟨b',off',cap',ka2,kc2,he2,t0,t1,t2,t3,hnd2⟩:=HK.out.later (HST.out.stays hT5) (j:=2) (by have:=HK3.out;omega)
  simp only [Value.slice.injEq,Option.some.injEq,Addr.mk.injEq,and_true] at he2
  obtain ⟨⟨rfl,rfl⟩,-,rfl⟩:=he2
  have hz1:=zap C.lib (at' n.kids 2) Y.env (setTy Y.ts X.ts.length Y.par.list)
  have hz2:=zaA C.lib (at' n.kids 2) Y.env (setTy Y.ts X.ts.length Y.par.list) hy2.2.1 (hy2.2.2.ty _ _) (by rw [zat];omega)
  have HBR2:=Lib.hid (zgm m ih C (at' n.kids 2) _ pb po A4 _ tv4 bv1 c41 _ _ Y.env _ w.heap.size w2.heap.size (w2.heap.size+1) X.ts.length (at' (setTy Y.ts X.ts.length Y.par.list) X.ts.length).name (at' (setTy Y.ts X.ts.length Y.par.list) X.ts.length).list (by omega) (zaz HF.out (by have:=HK3.out;omega)) (zbG HKN.out (by have:=HK3.out;omega)) hnd2 hS5 (hL5.sub (by simp)) (by rw [zat];omega) hy2.2.1 (hy2.2.2.ty _ _) (by rw [zat];omega) (by omega))
  rw [zat] at hz1
  generalize hZe:exprN C.lib (at' n.kids 2) Y.env (setTy Y.ts X.ts.length Y.par.list)=Z at *
  have HZE:=Lib.hid hZe
  clear hZe q0 q1 q2 q3 k3 hL4 hL4' hS4 hT4 hk4 hL5 hS5 hT5 hg7 hB4 h94 hst5 hnd2 HB4 HA4
  go_wp2_with fail
  refine HBR2.out.mono ?_
  rintro e w6 ⟨rv2,A6,tv6,rfl,hS6,hk6,hup6,hnw6,hn6,hB6,h96⟩
  have hL5t:=HL5.out.sub (L':=[(w2.heap.size+1,.cells #[.string (at' (setTy Y.ts X.ts.length Y.par.list) X.ts.length).name,.bool (at' (setTy Y.ts X.ts.length Y.par.list) X.ts.length).list] 97 (0,0)),(g7,.cells #[.string ⟨#[]⟩,.bool false,.int .u8 83,.int .i64 0,.string ⟨#[]⟩,.slice (some ⟨gs,0,none⟩) 1 1,.slice ra nY rc,.slice none 0 0] 116 (0,0)),(w2.heap.size,.cells #[.int .i64 X.ts.length] 3 (0,0)),(w.heap.size+1+1,.cells #[.string ⟨#[]⟩,.bool false] 97 (0,0)),(w.heap.size+1,.cells #[.int .u8 n.kind,.int .i64 n.num,.string n.name,.slice (some ⟨b,off,none⟩) n.kids.length kc] 34 (0,0)),(w.heap.size,.cells #[.pointer (some ⟨C.bV,0,none⟩)] 232 (0,0))]) (by simp)
  obtain ⟨hT6,hL6⟩:=zkV (po:=po) (N:=0) HT5.out hL5t (by simp;omega) (by omega) hk6 hup6 hnw6 hn6 h96
  have hst6:=ziP HS5.out hL5t hk6 hup6
  have hBa:=HB5.out.stays hst6
  have hAa:=HA5.out.stays hst6
  obtain ⟨_,rb,rd,hrv2⟩:=hB6.form
  have HB6:Hid (BdsAt A6 w6 rv2 (Z.bs ++ [varB (at' (setTy Z.ts X.ts.length Z.par.list) X.ts.length).name (at' (setTy Z.ts X.ts.length Z.par.list) X.ts.length).list Z.par.name])):=Lib.hid hB6
  generalize (Z.bs ++ [varB (at' (setTy Z.ts X.ts.length Z.par.list) X.ts.length).name (at' (setTy Z.ts X.ts.length Z.par.list) X.ts.length).list Z.par.name]).length=nZ at hrv2
  subst hrv2
  have hL6':=hL6.sub (L':=[(g7,.cells #[.string ⟨#[]⟩,.bool false,.int .u8 83,.int .i64 0,.string ⟨#[]⟩,.slice (some ⟨gs,0,none⟩) 1 1,.slice ra nY rc,.slice none 0 0] 116 (0,0)),(w2.heap.size+1,.cells #[.string (at' (setTy Z.ts X.ts.length Z.par.list) X.ts.length).name,.bool (at' (setTy Z.ts X.ts.length Z.par.list) X.ts.length).list] 97 (0,0)),(w2.heap.size,.cells #[.int .i64 X.ts.length] 3 (0,0)),(w.heap.size+1+1,.cells #[.string ⟨#[]⟩,.bool false] 97 (0,0)),(w.heap.size+1,.cells #[.int .u8 n.kind,.int .i64 n.num,.string n.name,.slice (some ⟨b,off,none⟩) n.kids.length kc] 34 (0,0)),(w.heap.size,.cells #[.pointer (some ⟨C.bV,0,none⟩)] 232 (0,0))]) (by simp)
  have hg7:w6.heap[g7]?=_:=hL6'.blk (List.mem_cons_self ..)
  have z7:w6.cell? ⟨g7,7,none⟩=some (.slice none 0 0):=zae hg7 7 rfl
  have fz7:=unfrozen hg7 7
  have hQ7:∀ p ∈ ([(w2.heap.size+1,.cells #[.string (at' (setTy Z.ts X.ts.length Z.par.list) X.ts.length).name,.bool (at' (setTy Z.ts X.ts.length Z.par.list) X.ts.length).list] 97 (0,0)),(w2.heap.size,.cells #[.int .i64 X.ts.length] 3 (0,0)),(w.heap.size+1+1,.cells #[.string ⟨#[]⟩,.bool false] 97 (0,0)),(w.heap.size+1,.cells #[.int .u8 n.kind,.int .i64 n.num,.string n.name,.slice (some ⟨b,off,none⟩) n.kids.length kc] 34 (0,0)),(w.heap.size,.cells #[.pointer (some ⟨C.bV,0,none⟩)] 232 (0,0))]:List (Nat × Obj)),p.1≠g7:=by simp;omega
  have hL7:=hL6'.set 7 (.slice rb nZ rd) hQ7
  simp only [List.setIfInBounds_toArray,List.set_cons_zero,List.set_cons_succ] at hL7
  have hst7:Stays A6 A6 w6 (w6.setCell ⟨g7,7,none⟩ (.slice rb nZ rd)):=(zaf w6 g7 7 (.slice rb nZ rd)).stays (fun k a _ e=>(hL6' _ (List.mem_cons_self ..)).2.1 (by rw [show g7=k from (e:k=g7).symm];exact a))
  have HB7:=Lib.hid (HB6.out.stays hst7)
  have HBa:=Lib.hid (hBa.stays hst7)
  have HAa:=Lib.hid (hAa.stays hst7)
  have HL7:=Lib.hid hL7
  have HS7:=Lib.hid (hS6.setLoc hL6' (List.mem_cons_self ..) 7 (.slice rb nZ rd))
  have HT7:=Lib.hid (hT6.young (zaf w6 g7 7 (.slice rb nZ rd)) (fun k e=>by omega))
  have n0:(w6.setCell ⟨g7,7,none⟩ (.slice rb nZ rd)).cell? ⟨w2.heap.size+1,0,none⟩=some (.string (at' (setTy Z.ts X.ts.length Z.par.list) X.ts.length).name):=zae (hL7.blk (g:=w2.heap.size+1) (List.mem_cons_of_mem _ (List.mem_cons_self ..))) 0 rfl
  have n1:(w6.setCell ⟨g7,7,none⟩ (.slice rb nZ rd)).cell? ⟨w2.heap.size+1,1,none⟩=some (.bool (at' (setTy Z.ts X.ts.length Z.par.list) X.ts.length).list):=zae (hL7.blk (g:=w2.heap.size+1) (List.mem_cons_of_mem _ (List.mem_cons_self ..))) 1 rfl
  obtain ⟨s0,s1,s2,s3,s4,s5,s6,s7⟩:=cells8 (hL7.blk (List.mem_cons_self ..))
  have hfz:=unfrozen (hL7.blk (List.mem_cons_self ..))
  clear hk6 hL5t hS6 hT6 hL6 hst6 hBa hAa hL6' hB6 hg7 hL7 hst7 h96 t0 t1 t2 t3 k3' HB6
  go_wp2_with fail
  generalize (w6.setCell ⟨g7,7,none⟩ (.slice rb nZ rd))=W7 at *
  clear z7 fz7 z6 fz6
  go_region
  have hD8:Below ((W7.setCell ⟨g7,0,none⟩ (.string (at' (setTy Z.ts X.ts.length Z.par.list) X.ts.length).name)).setCell ⟨g7,1,none⟩ (.bool (at' (setTy Z.ts X.ts.length Z.par.list) X.ts.length).list)).heap.size ((W7.setCell ⟨g7,0,none⟩ (.string (at' (setTy Z.ts X.ts.length Z.par.list) X.ts.length).name)).setCell ⟨g7,1,none⟩ (.bool (at' (setTy Z.ts X.ts.length Z.par.list) X.ts.length).list)) ((W7.setCell ⟨g7,0,none⟩ (.string (at' (setTy Z.ts X.ts.length Z.par.list) X.ts.length).name)).setCell ⟨g7,1,none⟩ (.bool (at' (setTy Z.ts X.ts.length Z.par.list) X.ts.length).list)).drew:=zal (Below.refl _ _) 1
  have hL8:=((HL7.out.set 0 (.string (at' (setTy Z.ts X.ts.length Z.par.list) X.ts.length).name) hQ7).set 1 (.bool (at' (setTy Z.ts X.ts.length Z.par.list) X.ts.length).list) hQ7).below hD8
  simp only [List.setIfInBounds_toArray,List.set_cons_zero,List.set_cons_succ] at hL8
  have hK8:=(zaf W7 g7 0 (.string (at' (setTy Z.ts X.ts.length Z.par.list) X.ts.length).name)).same (zaf _ g7 1 (.bool (at' (setTy Z.ts X.ts.length Z.par.list) X.ts.length).list))
  have hS8:=((HS7.out.setLoc HL7.out (List.mem_cons_self ..) 0 (.string (at' (setTy Z.ts X.ts.length Z.par.list) X.ts.length).name)).setLoc (HL7.out.set 0 (.string (at' (setTy Z.ts X.ts.length Z.par.list) X.ts.length).name) hQ7) (List.mem_cons_self ..) 1 (.bool (at' (setTy Z.ts X.ts.length Z.par.list) X.ts.length).list)).below hD8
  have hT8:=(HT7.out.young hK8 (fun k e=>by omega)).below hD8
  have hst8:Stays A6 A6 W7 ((W7.setCell ⟨g7,0,none⟩ (.string (at' (setTy Z.ts X.ts.length Z.par.list) X.ts.length).name)).setCell ⟨g7,1,none⟩ (.bool (at' (setTy Z.ts X.ts.length Z.par.list) X.ts.length).list)).drew:=(hK8.drew 1).stays (fun k a _ e=>(HL7.out _ (List.mem_cons_self ..)).2.1 (by rw [show g7=k from (e:k=g7).symm];exact a))
  have hbc8:BdCells A6 ((W7.setCell ⟨g7,0,none⟩ (.string (at' (setTy Z.ts X.ts.length Z.par.list) X.ts.length).name)).setCell ⟨g7,1,none⟩ (.bool (at' (setTy Z.ts X.ts.length Z.par.list) X.ts.length).list)).drew (fun i=>vat [.string (at' (setTy Z.ts X.ts.length Z.par.list) X.ts.length).name,.bool (at' (setTy Z.ts X.ts.length Z.par.list) X.ts.length).list,.int .u8 83,.int .i64 0,.string ⟨#[]⟩,.slice (some ⟨gs,0,none⟩) 1 1,.slice ra nY rc,.slice rb nZ rd] i) (.mk (at' (setTy Z.ts X.ts.length Z.par.list) X.ts.length).name (at' (setTy Z.ts X.ts.length Z.par.list) X.ts.length).list 83 0 ByteArray.empty [X.par.name] (Y.bs ++ [varB (at' (setTy Y.ts X.ts.length Y.par.list) X.ts.length).name (at' (setTy Y.ts X.ts.length Y.par.list) X.ts.length).list Y.par.name]) (Z.bs ++ [varB (at' (setTy Z.ts X.ts.length Z.par.list) X.ts.length).name (at' (setTy Z.ts X.ts.length Z.par.list) X.ts.length).list Z.par.name])):=
   ⟨rfl,rfl,rfl,rfl,rfl,HAa.out.stays hst8,HBa.out.stays hst8,HB7.out.stays hst8,hz2.2.2.ty _ _ _,⟨by show (0:Int)≤83;omega,by show (83:Int)≤255;omega⟩,by show In64 0;unfold In64;omega,Nat.zero_le _⟩
  obtain ⟨p0,p1,p2,p3,p4,p5,p6,p7⟩:=cells8 (hL8.blk (List.mem_cons_self ..))
  obtain ⟨u0,u1⟩:=(VSt.ptr hS8).cell (VSt.out hS8)
  have hl7:=hL8.lt (List.mem_cons_self ..)
  have HL8:=Lib.hid hL8
  have HS8:=Lib.hid hS8
  have HT8:=Lib.hid hT8
  have HBC:=Lib.hid hbc8
  clear hL8 hS8 hT8 hst8 hbc8 hK8 s0 s1 s2 s3 s4 s5 s6 s7 hfz n0 n1
  go_wp2
  generalize ((W7.setCell ⟨g7,0,none⟩ (.string (at' (setTy Z.ts X.ts.length Z.par.list) X.ts.length).name)).setCell ⟨g7,1,none⟩ (.bool (at' (setTy Z.ts X.ts.length Z.par.list) X.ts.length).list)).drew=W8 at *
  obtain ⟨xs,hrow,hcs⟩:=VSt.row HS8.out
  obtain ⟨ab,cb,rfl⟩:=zaG hrow
  have HCS:=Lib.hid hcs
  have HROW:=Lib.hid hrow
  have HX:Hid (xs.length=(bs ++ X.bs).length * 8):=Lib.hid hrow.1
  clear hcs hrow
  have hB:Below W8.heap.size W8 (W8.alloc (.cells #[.string ⟨#[]⟩,.bool false,.int .u8 0,.int .i64 0,.string ⟨#[]⟩,.slice none 0 0,.slice none 0 0,.slice none 0 0] 116)).drew:=zal ((Below.refl _ _).alloc (Nat.le_refl _) _) 1
  have HSRC:=Lib.hid (src8 W8 (.string ⟨#[]⟩) (.bool false) (.int .u8 0) (.int .i64 0) (.string ⟨#[]⟩) (.slice none 0 0) (.slice none 0 0) (.slice none 0 0) 116)
  have HPN:Hid (∀ g cap,NewOr (W8.alloc (.cells #[.string ⟨#[]⟩,.bool false,.int .u8 0,.int .i64 0,.string ⟨#[]⟩,.slice none 0 0,.slice none 0 0,.slice none 0 0] 116)).drew (.slice ab (bs ++ X.bs).length cb) (.slice (some ⟨g,0,none⟩) ((bs ++ X.bs).length+1) cap)→g≠pb):=Lib.hid (by
   intro g cap hn e
   subst e
   rcases hn g rfl with e|e
   · exact VSt.bvpb HS8.out e
   · have:=VSt.mutlt HS8.out g (.inr (.inr (.inl rfl)))
     have:=hB.size
     omega)
  have hbl:(bs ++ X.bs).length < 200000:=by rw [List.length_append];omega
  have hil:((bs ++ X.bs).length:Int) < ((bs ++ X.bs).length:Int)+1:=by omega
  have hlp:=VSt.mutlt HS8.out pb (.inr (.inr (.inl rfl)))
  have k0:=(hB.cell (p:=⟨g7,0,none⟩) hl7).trans p0
  have k1:=(hB.cell (p:=⟨g7,1,none⟩) hl7).trans p1
  have k2:=(hB.cell (p:=⟨g7,2,none⟩) hl7).trans p2
  have k3:=(hB.cell (p:=⟨g7,3,none⟩) hl7).trans p3
  have k4:=(hB.cell (p:=⟨g7,4,none⟩) hl7).trans p4
  have k5:=(hB.cell (p:=⟨g7,5,none⟩) hl7).trans p5
  have k6:=(hB.cell (p:=⟨g7,6,none⟩) hl7).trans p6
  have k7:=(hB.cell (p:=⟨g7,7,none⟩) hl7).trans p7
  have kp:=(hB.cell (p:=⟨pb,po,none⟩) hlp).trans u0
  generalize hBe:bs ++ X.bs=B at *
  have HBE:=Lib.hid hBe
  clear hBe
  go_cut [53] (fun s53 wx=>BindPost A6 W8 C.bV C.bo C.bm pb po (N+2 * sizeN (at' n.kids 0)+2 * sizeN (at' n.kids 1)+2 * sizeN (at' n.kids 2)) C.c0 C.c1 C.c2 c41 C.c5 tv6 (.slice ab B.length cb) C.lv C.lib (setTy Z.ts X.ts.length Z.par.list) (B ++ [(.mk (at' (setTy Z.ts X.ts.length Z.par.list) X.ts.length).name (at' (setTy Z.ts X.ts.length Z.par.list) X.ts.length).list 83 0 ByteArray.empty [X.par.name] (Y.bs ++ [varB (at' (setTy Y.ts X.ts.length Y.par.list) X.ts.length).name (at' (setTy Y.ts X.ts.length Y.par.list) X.ts.length).list Y.par.name]) (Z.bs ++ [varB (at' (setTy Z.ts X.ts.length Z.par.list) X.ts.length).name (at' (setTy Z.ts X.ts.length Z.par.list) X.ts.length).list Z.par.name]))]) Z.env wx)
  case first=>
   go_region_law (
    (refine zbF TBd (by rfl) (by decide) (by rfl) (.tmp 49) (.tmp 52) (by rfl) (by rfl) (by rfl) (zaM HROW.out hB) (.inr ⟨⟨W8.heap.size,0,none⟩,1,by rfl,HSRC.out⟩) (by rfl) (by simp [Value.oneCell']) (by unfold maxLen;omega) (by omega) (Nat.zero_le _) ?_;intro v' w9 hown hg hnew;obtain ⟨g,cap,rfl,hglt,hfz,y0,y1,y2,y3,y4,y5,y6,y7⟩:=last8 hown HX.out;have hgp:=HPN.out g cap hnew;have HP:=Lib.hid (VSt.stored HS8.out hB hg hnew hown HX.out rfl HCS.out HBC.out);obtain ⟨x0,x1⟩:=VSt.headAt HS8.out hB hg;clear hown hg hnew))
   all_goals
    clear y0 y1 y2 y3 y4 y5 y6 y7 x0 x1 k0 k1 k2 k3 k4 k5 k6 k7 kp p0 p1 p2 p3 p4 p5 p6 p7 hil
    go_wp2
    go_meet
    refine ⟨_,HP.out _ ?_⟩
    first|(left;with_reducible rfl)|(right;with_reducible rfl)
  case rest=>
   obtain ⟨v',c4',hVX,hkX,hnX,hcX⟩:=hcut
   have hTX:Step C pb A6 W8 tv6 (.slice ab B.length cb) c41 A6 wc tv6 v' c4':=⟨hkX,fun _ a=>a,fun _ a=>.inl a,NewOr.refl _ _,hnX,hcX⟩
   have hSX:St C pb po A6 wc tv6 v' c4' _ _ Z.env _:=hVX
   have hLX:=(HL8.out.step hTX).sub (L':=[(w.heap.size+1+1,.cells #[.string ⟨#[]⟩,.bool false] 97 (0,0)),(w2.heap.size+1,.cells #[.string (at' (setTy Z.ts X.ts.length Z.par.list) X.ts.length).name,.bool (at' (setTy Z.ts X.ts.length Z.par.list) X.ts.length).list] 97 (0,0))]) (by simp)
   have hTX':=HT8.out.trans hTX
   have hR:=hLX.blk (List.mem_cons_self ..)
   have r0:wc.cell? ⟨w.heap.size+1+1,0,none⟩=some (.string ⟨#[]⟩):=zae hR 0 rfl
   have r1:wc.cell? ⟨w.heap.size+1+1,1,none⟩=some (.bool false):=zae hR 1 rfl
   have f0:=unfrozen hR 0
   have f1:=unfrozen hR 1
   have hY:=hLX.blk (List.mem_cons_of_mem _ (List.mem_cons_self ..))
   have y0:wc.cell? ⟨w2.heap.size+1,0,none⟩=some (.string (at' (setTy Z.ts X.ts.length Z.par.list) X.ts.length).name):=zae hY 0 rfl
   have y1:wc.cell? ⟨w2.heap.size+1,1,none⟩=some (.bool (at' (setTy Z.ts X.ts.length Z.par.list) X.ts.length).list):=zae hY 1 rfl
   have HSX:=Lib.hid hSX
   have HLX:=Lib.hid hLX
   clear k0 k1 k2 k3 k4 k5 k6 k7 kp p0 p1 p2 p3 p4 p5 p6 p7 hil u0 u1 hVX hR hY hSX hLX
   go_wp2
   have hL9:=HLX.out.set 0 (.string (at' (setTy Z.ts X.ts.length Z.par.list) X.ts.length).name) (by simp;omega)
   have hLA:=hL9.set 1 (.bool (at' (setTy Z.ts X.ts.length Z.par.list) X.ts.length).list) (by simp;omega)
   have hSA:=(HSX.out.setLoc HLX.out (List.mem_cons_self ..) 0 (.string (at' (setTy Z.ts X.ts.length Z.par.list) X.ts.length).name)).setLoc hL9 (List.mem_cons_self ..) 1 (.bool (at' (setTy Z.ts X.ts.length Z.par.list) X.ts.length).list)
   (try simp only [Exit.inBlock,Exit.then])
   refine bodyPost_ret (results_cell_row (P:=Tryz.prog) rfl _ _ (w.heap.size+1+1) _ _ _ _ rfl (hLA.blk (List.mem_cons_self ..)) Tryz.underlying97 rfl (by kernel_rfl)) rfl ?_
   rw [zjj C.lib n env ts H83.out HK3.out HXE.out HYE.out rfl HZE.out rfl]
   refine ⟨rfl,A6,tv6,v',c4',?_,?_⟩
   · rw [← List.append_assoc,HBE.out];exact hSA.mono (by have:=HSZ.out;omega)
   · exact hTX'.young ((zaf _ (w.heap.size+1+1) 0 _).same (zaf _ (w.heap.size+1+1) 1 _)) (fun k e=>by omega)
end Go.Proofs.YtpobmoegmdhbpaaGreatDoor
/- The visitor of package anf:expr,whole. -/
namespace Go.Proofs.YtpobmoegmdhbpaaGreatDoor
open Go.RowKit
theorem zhB (m:Nat) (ih:XOk m) (C:VC) (n:Nd) (v:Value) (pb po:Nat) (A:Nat→Prop) (w:World) (tv bv c4:Value) (ts:List Par) (bs:List Bd) (env:Env) (N:Nat) (hkd:n.kind=83) (hm:sizeN n≤m+1) (hform:formedN n=true) (hkn:knownN C.lib n=true) (hv:NdAt A w v n) (hst:St C pb po A w tv bv c4 ts bs env N)
 (hse:SmallE env) (hts:TsSmall ts) (hl1:ts.length+2 * sizeN n≤100000) (hl2:bs.length+2 * sizeN n≤100000) (hl3:N+2 * sizeN n≤100000):
 Calls Tryz.prog 105 #[.pointer (some ⟨C.bV,0,none⟩),v,.pointer (some ⟨pb,po,none⟩)] w (XPost C pb po A w tv bv c4 bs (N+2 * sizeN n) (exprN C.lib n env ts)):=by
 obtain ⟨hok,hlen,ka,kc,rfl,hk⟩:=hv.open
 have d81:(n.kind == 81)=false:=by simp [hkd]
 have d84:(n.kind == 84)=false:=by simp [hkd]
 have d83:(n.kind == 83)=true:=by simpa using hkd
 have HL:=Lib.hid (Locs.two hst (.cells #[.int .u8 n.kind,.int .i64 n.num,.string n.name,.slice ka n.kids.length kc] 34) (.cells #[.string ⟨#[]⟩,.bool false] 97))
 have hA:Below w.heap.size w ((w.alloc (.cells #[.int .u8 n.kind,.int .i64 n.num,.string n.name,.slice ka n.kids.length kc] 34)).alloc (.cells #[.string ⟨#[]⟩,.bool false] 97)):=((Below.refl _ _).alloc (Nat.le_refl _) _).alloc (by simp) _
 have hT0:=(Step.refl C pb A w tv bv c4).below hA
 have HC:=Lib.hid (zkJ m ih C n _ pb po A _ tv bv c4 ts bs env N hkd hm hform hkn (hv.stays (Stays.of_below hA)) (hst.below hA) hse hts hl1 hl2 hl3)
 clear hkd hst hk hform hkn hv
 go_enter Tryz.func105,Tryz.ntmps105
 go_wp2_with (go_at_call 157;refine HC.out.mono ?_;rintro e w5 ⟨rfl,A5,tv5,bv5,c45,hS5,hT5⟩;have hL5:=(HL.out.step hT5).sub (L':=[(w.heap.size+1,.cells #[.string ⟨#[]⟩,.bool false] 97)]) (by simp);have hR5:=hL5.blk (List.mem_cons_self ..);have r0:w5.cell? ⟨w.heap.size+1,0,none⟩=some (.string ⟨#[]⟩):=zae hR5 0 rfl;have r1:w5.cell? ⟨w.heap.size+1,1,none⟩=some (.bool false):=zae hR5 1 rfl;have f0:=unfrozen hR5 0;have f1:=unfrozen hR5 1;have HS5:=Lib.hid hS5;have HL5:=Lib.hid hL5;have HT5:=Lib.hid (hT0.trans hT5);clear hR5 hS5 hL5 hT5)
 generalize exprN C.lib n env ts=X at *
 (try simp only [Exit.inBlock,Exit.then])
 have hL6:=HL5.out.set 0 (.string X.par.name) (by simp)
 have hL7:=hL6.set 1 (.bool X.par.list) (by simp)
 have hS7:=(HS5.out.setLoc HL5.out (List.mem_cons_self ..) 0 (.string X.par.name)).setLoc hL6 (List.mem_cons_self ..) 1 (.bool X.par.list)
 refine bodyPost_ret (results_cell_row (P:=Tryz.prog) rfl _ _ (w.heap.size+1) _ _ _ _ rfl (hL7.blk (List.mem_cons_self ..)) Tryz.underlying97 rfl (by kernel_rfl)) rfl ?_
 exact ⟨rfl,A5,tv5,bv5,c45,hS7,HT5.out.young ((zaf _ (w.heap.size+1) 0 _).same (zaf _ (w.heap.size+1) 1 _)) (fun k e=>by omega)⟩
theorem zkF (m:Nat) (ih:XOk m) (C:VC) (n:Nd) (v:Value) (pb po:Nat) (A:Nat→Prop) (w:World) (tv bv c4:Value) (ts:List Par) (bs:List Bd) (env:Env) (N:Nat) (hkd:n.kind=85) (hm:sizeN n≤m+1) (hform:formedN n=true) (hkn:knownN C.lib n=true) (hv:NdAt A w v n) (hst:St C pb po A w tv bv c4 ts bs env N)
 (hse:SmallE env) (hts:TsSmall ts) (hl1:ts.length+2 * sizeN n≤100000) (hl2:bs.length+2 * sizeN n≤100000) (hl3:N+2 * sizeN n≤100000):
 Calls Tryz.prog 105 #[.pointer (some ⟨C.bV,0,none⟩),v,.pointer (some ⟨pb,po,none⟩)] w (XPost C pb po A w tv bv c4 bs (N+2 * sizeN n) (exprN C.lib n env ts)):=by
 obtain ⟨hok,hlen,ka,kc,rfl,hk⟩:=hv.open
 have d81:(n.kind == 81)=false:=by simp [hkd]
 have d84:(n.kind == 84)=false:=by simp [hkd]
 have d83:(n.kind == 83)=false:=by simp [hkd]
 have d85:(n.kind == 85)=true:=by simpa using hkd
 have HL:=Lib.hid (Locs.two hst (.cells #[.int .u8 n.kind,.int .i64 n.num,.string n.name,.slice ka n.kids.length kc] 34) (.cells #[.string ⟨#[]⟩,.bool false] 97))
 have hA:Below w.heap.size w ((w.alloc (.cells #[.int .u8 n.kind,.int .i64 n.num,.string n.name,.slice ka n.kids.length kc] 34)).alloc (.cells #[.string ⟨#[]⟩,.bool false] 97)):=((Below.refl _ _).alloc (Nat.le_refl _) _).alloc (by simp) _
 have hT0:=(Step.refl C pb A w tv bv c4).below hA
 have HC:=Lib.hid (znR m ih C n _ pb po A _ tv bv c4 ts bs env N hkd hm hform hkn (hv.stays (Stays.of_below hA)) (hst.below hA) hse hts hl1 hl2 hl3)
 clear hkd hst hk hform hkn hv
 go_enter Tryz.func105,Tryz.ntmps105
 go_wp2_with (go_at_call 158;refine HC.out.mono ?_;rintro e w5 ⟨rfl,A5,tv5,bv5,c45,hS5,hT5⟩;have hL5:=(HL.out.step hT5).sub (L':=[(w.heap.size+1,.cells #[.string ⟨#[]⟩,.bool false] 97)]) (by simp);have hR5:=hL5.blk (List.mem_cons_self ..);have r0:w5.cell? ⟨w.heap.size+1,0,none⟩=some (.string ⟨#[]⟩):=zae hR5 0 rfl;have r1:w5.cell? ⟨w.heap.size+1,1,none⟩=some (.bool false):=zae hR5 1 rfl;have f0:=unfrozen hR5 0;have f1:=unfrozen hR5 1;have HS5:=Lib.hid hS5;have HL5:=Lib.hid hL5;have HT5:=Lib.hid (hT0.trans hT5);clear hR5 hS5 hL5 hT5)
 generalize exprN C.lib n env ts=X at *
 (try simp only [Exit.inBlock,Exit.then])
 have hL6:=HL5.out.set 0 (.string X.par.name) (by simp)
 have hL7:=hL6.set 1 (.bool X.par.list) (by simp)
 have hS7:=(HS5.out.setLoc HL5.out (List.mem_cons_self ..) 0 (.string X.par.name)).setLoc hL6 (List.mem_cons_self ..) 1 (.bool X.par.list)
 refine bodyPost_ret (results_cell_row (P:=Tryz.prog) rfl _ _ (w.heap.size+1) _ _ _ _ rfl (hL7.blk (List.mem_cons_self ..)) Tryz.underlying97 rfl (by kernel_rfl)) rfl ?_
 exact ⟨rfl,A5,tv5,bv5,c45,hS7,HT5.out.young ((zaf _ (w.heap.size+1) 0 _).same (zaf _ (w.heap.size+1) 1 _)) (fun k e=>by omega)⟩
theorem zeP:∀ m,XOk m
 | 0=>fun C n v pb po A w tv bv c4 ts bs env N hm=>by have:=zaH n;omega
 | m+1=>fun C n v pb po A w tv bv c4 ts bs env N hm hform hkn hv hst hse hts hl1 hl2 hl3=>by
   by_cases h81:n.kind=81
   · exact zmq C n v pb po A w tv bv c4 ts bs env N h81 hv hst
   · by_cases h84:n.kind=84
     · exact zmd m (zeP m) C n v pb po A w tv bv c4 ts bs env N h84 hm hform hkn hv hst hse hts hl1 hl2 hl3
     · by_cases h83:n.kind=83
       · exact zhB m (zeP m) C n v pb po A w tv bv c4 ts bs env N h83 hm hform hkn hv hst hse hts hl1 hl2 hl3
       · by_cases h85:n.kind=85
         · exact zkF m (zeP m) C n v pb po A w tv bv c4 ts bs env N h85 hm hform hkn hv hst hse hts hl1 hl2 hl3
         · exact znA m (zeP m) C n v pb po A w tv bv c4 ts bs env N h81 h84 h83 h85 hm hform hkn hv hst hse hts hl1 hl2 hl3
end Go.Proofs.YtpobmoegmdhbpaaGreatDoor
