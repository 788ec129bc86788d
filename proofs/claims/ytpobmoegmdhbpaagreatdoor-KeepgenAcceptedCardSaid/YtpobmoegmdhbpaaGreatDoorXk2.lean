/- Contracts and plain lemmas (KgB, KgC, KgE, KgD): no statement of the seat is proved here. -/
import Derived.Test.YtpobmoegmdhbpaaGreatDoorXq27
import Derived.Test.YtpobmoegmdhbpaaGreatDoorXk1
set_option linter.unusedSimpArgs false
set_option linter.unusedVariables false
set_option linter.unusedSectionVars false
set_option maxRecDepth 100000
set_option maxHeartbeats 12800000
namespace Go.Proofs.YtpobmoegmdhbpaaGreatDoor
open Go.RowKit
def keptF (kept:List ByteArray):CallF:=fun nm=>if inB kept nm then (nm ++ ⟨#[49]⟩,[⟨#[103]⟩]) else (nm,[])
theorem zei {kept:List ByteArray} {nm:ByteArray} (h:inB kept nm=true):keptF kept nm=(nm ++ ⟨#[49]⟩,[⟨#[103]⟩]):=by unfold keptF;rw [if_pos h]
theorem zfX {kept:List ByteArray} {nm:ByteArray} (h:inB kept nm=false):keptF kept nm=(nm,[]):=by unfold keptF;rw [h];rfl
theorem zku (s:ByteArray) (w:World) (hs:s.size≤140737488355328):Calls Tryz.prog 36 #[.string s] w fun e w'=>e=.returned (.string (s ++ ⟨#[49]⟩))∧w=w':=by
 have h1:¬ 9223372036854775807 < s.size+1:=by omega
 have h2:s.size+1≤9223372036854775807:=by omega
 go_enter Tryz.func36,Tryz.ntmps36
 go_wp2
 go_ret
 exact ⟨rfl,rfl⟩
theorem znU {w:World} {g:Nat} {s:ByteArray} (h:w.heap[g]?=some (.cells #[.string s] 9 (0,0))) (hs:s.size≤maxLen):StrsAt Any w (.slice (some ⟨g,0,none⟩) 1 1) [s]:=by
 have hl:g < w.heap.size:=by rw [Array.getElem?_eq_some_iff] at h;exact h.1
 refine ⟨fun j _=>.string s,⟨by unfold maxLen;simp,_,_,rfl,Nat.le_refl _,nofun,fun _=>⟨g,0,rfl,hl,trivial,fun j hj i hi=>?_⟩⟩,fun j hj=>?_⟩
 · obtain rfl:i=0:=by omega
   obtain rfl:j=0:=by simpa using hj
   exact zae h 0 rfl
 · obtain rfl:j=0:=by simpa using hj
   exact ⟨rfl,hs⟩
theorem zor:(⟨#[103]⟩:ByteArray).size≤maxLen:=by unfold maxLen;decide
theorem zmn {l:List ByteArray} {s:ByteArray} (h:inB l s=true):s ∈ l:=by
 unfold inB at h
 rw [List.any_eq_true] at h
 obtain ⟨x,hx,e⟩:=h
 simp only [decide_eq_true_eq] at e
 rw [← e];exact hx
def KeptPost (kept:List ByteArray) (nm:ByteArray) (w:World) (e:Ending) (w':World):Prop:=∃ xa xn xc,e=.returned (.tuple #[.string (keptF kept nm).1,.slice xa xn xc])∧StrsAt Any w' (.slice xa xn xc) (keptF kept nm).2∧Below w.heap.size w w'
theorem zoz {l:List ByteArray} {s:ByteArray} (h:∀ j,j < l.length→at' l j≠s):inB l s=false:=by
 rw [inB,List.any_eq_false]
 intro x hx
 obtain ⟨j,hj,rfl⟩:=List.getElem_of_mem hx
 have:=h j hj
 rw [zax hj] at this
 simpa using this
theorem znI {l:List ByteArray} {s:ByteArray} {j:Nat} (hj:j < l.length) (h:at' l j=s):inB l s=true:=by
 rw [inB,List.any_eq_true]
 exact ⟨_,zaT hj,by simpa using h⟩
theorem caller1_K (kept:List ByteArray) (ka:Option Addr) (kc:Nat) (nm:ByteArray) (g:Nat) (w:World) (hg:w.heap[g]?=some (.cells #[.slice ka kept.length kc] 23 (0,0))) (hk:StrsAt Any w (.slice ka kept.length kc) kept) (hs:∀ s ∈ kept,s.size≤140737488355328):
 Calls Tryz.prog 107 #[.string nm,.pointer (some ⟨g,0,none⟩)] w (KeptPost kept nm w):=by
 have c0:w.cell? ⟨g,0,none⟩=some (.slice ka kept.length kc):=zae hg 0 rfl
 have HC:=Lib.hid (zcb (.slice ka kept.length kc) kept nm Any w hk)
 clear hk hg
 go_enter Tryz.func107,Tryz.ntmps107
 go_wp2_with fail
 refine HC.out.mono ?_
 rintro e w1 ⟨rfl,rfl⟩
 cases hb:inB kept nm with
 | true=>
   have HF:=Lib.hid (zei hb)
   have HN:=Lib.hid (zku nm w (hs nm (zmn hb)))
   clear hb
   go_wp2_with fail
   refine HN.out.mono ?_
   rintro e w2 ⟨rfl,rfl⟩
   go_wp2
   go_ret2
   unfold KeptPost
   rw [HF.out]
   exact ⟨_,_,_,rfl,znU (zah _ _) zor,zaa (Below.refl _ _)⟩
 | false=>
   have HF:=Lib.hid (zfX hb)
   clear hb
   go_wp2
   go_ret2
   unfold KeptPost
   rw [HF.out]
   exact ⟨_,_,_,rfl,⟨fun _ _=>undef,RowAt.empty _ _ _,fun j hj=>by simp at hj⟩,Below.refl _ _⟩
theorem in41_any (v:Value) (l:List ByteArray) (s:ByteArray) (A:Nat→Prop) (w:World) (hv:StrsAt A w v l):
 Calls Tryz.prog 38 #[v,.string s] w fun e w'=>e=.returned (.bool (inB l s))∧w=w':=by
 obtain ⟨hlen,a,cap,rfl⟩:=hv.form
 unfold maxLen at hlen
 go_enter Tryz.func38,Tryz.ntmps38
 go_wp2
 go_loop [9] (fun i=>∃ k:Nat,k≤l.length∧i=.int .i64 k∧∀ j,j < k→at' l j≠s) (fun i=>l.length - (intOf i).toNat)
 case atStart=>exact ⟨0,Nat.zero_le _,rfl,fun j hj=>absurd hj (by omega)⟩
 case round=>
  obtain ⟨k,hk,rfl,hno⟩:=hrel
  have HN:=Lib.hid hno
  clear hno
  by_cases hlt:k < l.length
  · obtain ⟨b,off,cap',he,hb,_,_,c0,hs⟩:=hv.at hlt
    simp only [Value.slice.injEq] at he
    obtain ⟨rfl,-,rfl⟩:=he
    by_cases heq:at' l k=s
    · have HF:=Lib.hid (znI hlt heq)
      have he:((at' l k).toList == s.toList)=true:=by rw [heq];simp
      clear heq
      go_wp2
      go_ret
      rw [HF.out]
      exact ⟨rfl,rfl⟩
    · have he:((at' l k).toList == s.toList)=false:=beq_eq_false_iff_ne.2 (fun h=>heq (toList_inj h))
      have HQ:=Lib.hid heq
      clear heq
      go_wp2
      go_round
      case rel=>exact ⟨k+1,by omega,by go_num,fun j hj=>(by
       by_cases e:j=k
       · rw [e];exact HQ.out
       · exact HN.out j (by omega))⟩
      case measure=>simp [intOf];omega
  · go_wp2
    go_ret
    rw [zoz (fun j hj=>HN.out j (by omega))]
    exact ⟨rfl,rfl⟩
theorem zic (ka:Option Addr) (kn kc:Nat) (w:World):Calls Tryz.prog 57 #[.slice ka kn kc] w fun e w'=>∃ g,e=.returned (.func (.func 107) #[] #[.pointer (some ⟨g,0,none⟩)])∧w'.heap[g]?=some (.cells #[.slice ka kn kc] 23 (0,0))∧Below w.heap.size w w':=by
 go_enter Tryz.func57,Tryz.ntmps57
 go_wp2
 go_ret
 exact ⟨_,rfl,zah _ _,zaa (Below.refl _ _)⟩
theorem zjo {kept:List ByteArray} (hs:∀ s ∈ kept,s.size≤140737488355328) {nm:ByteArray} (hn:nm.size≤maxLen):(keptF kept nm).1.size≤maxLen∧(keptF kept nm).2.length≤1000:=by
 cases hb:inB kept nm with
 | true=>
   rw [zei hb]
   have hm:nm ∈ kept:=by
    unfold inB at hb
    rw [List.any_eq_true] at hb
    obtain ⟨x,hx,e⟩:=hb
    simp only [decide_eq_true_eq] at e
    rw [← e];exact hx
   have:=hs nm hm
   refine ⟨?_,by simp⟩
   show (nm ++ (⟨#[49]⟩:ByteArray)).size≤maxLen
   rw [ByteArray.size_append]
   unfold maxLen
   show nm.size+1≤_
   omega
 | false=>rw [zfX hb];exact ⟨hn,by simp⟩
theorem zeu {kept:List ByteArray} (hs:∀ s ∈ kept,s.size≤140737488355328) {ka:Option Addr} {kc g:Nat} {w:World} (hg:w.heap[g]?=some (.cells #[.slice ka kept.length kc] 23 (0,0))) (hk:StrsAt Any w (.slice ka kept.length kc) kept):ClosOk (.func (.func 107) #[] #[.pointer (some ⟨g,0,none⟩)]) (keptF kept) w:=
 ⟨_,_,rfl,fun args w0=>by kernel_rfl,fun nm w1 hn hb=>⟨caller1_K kept ka kc nm g w1 (zad hb hg) (hk.stays (Stays.of_below hb)) hs,zjo hs hn⟩⟩
end Go.Proofs.YtpobmoegmdhbpaaGreatDoor
namespace Go.Proofs.YtpobmoegmdhbpaaGreatDoor
open Go.RowKit
def limE (n:Nat) (B:Nd):Int:=if 8 < n then 5 else if 80 < depthN B then 19 else if 2000 < sizeN B then 5 else 0
abbrev prV (pn:ByteArray) (xa:Option Addr) (xl xc:Nat) (bk bn:Int) (bs:ByteArray) (ya:Option Addr) (yn yc:Nat):Value:=.agg #[.string pn,.slice xa xl xc,.int .u8 bk,.int .i64 bn,.string bs,.slice ya yn yc]
abbrev zeroP:Value:=.agg #[.string ⟨#[]⟩,.slice none 0 0,.int .u8 0,.int .i64 0,.string ⟨#[]⟩,.slice none 0 0]
theorem finish_K (pn:ByteArray) (xa:Option Addr) (xl xc:Nat) (bk bn:Int) (bs:ByteArray) (ya:Option Addr) (yn yc:Nat) (B:Nd) (w:World) (hB:NdAt Any w (.agg #[.int .u8 bk,.int .i64 bn,.string bs,.slice ya yn yc]) B) (hz:sizeN B≤1000000) (hx:xl≤1000):
 Calls Tryz.prog 63 #[prV pn xa xl xc bk bn bs ya yn yc] w fun e w'=>e=.returned (.tuple #[if limE xl B=0 then prV pn xa xl xc bk bn bs ya yn yc else zeroP,.int .i64 (limE xl B)])∧Below w.heap.size w w':=by
 have HD:Hid (∀ w1,Below w.heap.size w w1→Calls Tryz.prog 87 #[.agg #[.int .u8 bk,.int .i64 bn,.string bs,.slice ya yn yc]] w1 fun e w'=>e=.returned (.int .i64 (depthN B))∧Below w1.heap.size w1 w'):=Lib.hid (fun w1 h=>zdT B _ Any w1 hz (hB.stays (Stays.of_below h)))
 have HS:Hid (∀ w1,Below w.heap.size w w1→Calls Tryz.prog 88 #[.agg #[.int .u8 bk,.int .i64 bn,.string bs,.slice ya yn yc]] w1 fun e w'=>e=.returned (.int .i64 (sizeN B))∧Below w1.heap.size w1 w'):=Lib.hid (fun w1 h=>zeM B _ Any w1 hz (hB.stays (Stays.of_below h)))
 obtain ⟨W,hW⟩:∃ W,W=(w.alloc (.cells #[.string pn,.slice xa xl xc,.int .u8 bk,.int .i64 bn,.string bs,.slice ya yn yc] 83)).alloc (.cells #[.string ⟨#[]⟩,.slice none 0 0,.int .u8 0,.int .i64 0,.string ⟨#[]⟩,.slice none 0 0] 83):=⟨_,rfl⟩
 have hA:Below w.heap.size w W:=by subst hW;exact zaa (zaa (Below.refl _ _))
 have HA:=Lib.hid hA
 have HX:Hid (W.heap[w.heap.size]?=some (.cells #[.string pn,.slice xa xl xc,.int .u8 bk,.int .i64 bn,.string bs,.slice ya yn yc] 83 (0,0))):=Lib.hid (by subst hW;exact zaI _ _ _)
 have HZ:Hid (W.heap[w.heap.size+1]?=some (.cells #[.string ⟨#[]⟩,.slice none 0 0,.int .u8 0,.int .i64 0,.string ⟨#[]⟩,.slice none 0 0] 83 (0,0))):=Lib.hid (by subst hW;exact zaw _ _ _)
 obtain ⟨x0,x1,x2,x3,x4,x5⟩:=cells6 HX.out
 obtain ⟨R,hR⟩:∃ R,R=Value.tuple #[if limE xl B=0 then prV pn xa xl xc bk bn bs ya yn yc else zeroP,.int .i64 (limE xl B)]:=⟨_,rfl⟩
 rw [← hR]
 have HR:=Lib.hid hR
 clear hB hA hR
 change Calls Tryz.prog 63 #[.agg #[.string pn,.slice xa xl xc,.int .u8 bk,.int .i64 bn,.string bs,.slice ya yn yc]] w _
 subst hW
 go_enter Tryz.func63,Tryz.ntmps63
 by_cases q8:8 < xl
 · have d8:decide ((8:Int) < (xl:Int))=true:=by simp;omega
   have HL:Hid (R=.tuple #[zeroP,.int .i64 5]):=Lib.hid (by rw [HR.out,show limE xl B=5 by unfold limE;rw [if_pos q8]];rfl)
   clear q8
   go_wp2
   (try simp only [Exit.inBlock,Exit.then])
   refine bodyPost_ret (zak (P:=Tryz.prog) rfl _ _ (w.heap.size+1) _ _ _ _ _ rfl HZ.out rfl Tryz.underlying83 rfl (by kernel_rfl)) rfl ?_
   rw [HL.out]
   exact ⟨rfl,HA.out⟩
 · have d8:decide ((8:Int) < (xl:Int))=false:=by simp;omega
   go_wp2_with fail
   refine (HD.out _ HA.out).mono ?_
   rintro e w2 ⟨rfl,hb2⟩
   have hb12:=HA.out.trans (hb2.mono HA.out.size)
   have HZ2:=Lib.hid (zad hb2 HZ.out)
   obtain ⟨x0,x1,x2,x3,x4,x5⟩:=cells6 (zad hb2 HX.out)
   obtain ⟨z0,z1,z2,z3,z4,z5⟩:=cells6 HZ2.out
   have zf:=unfrozen HZ2.out
   by_cases q80:80 < depthN B
   · have d80:decide ((80:Int) < (depthN B:Int))=true:=by simp;omega
     have HL:Hid (R=.tuple #[zeroP,.int .i64 19]):=Lib.hid (by rw [HR.out,show limE xl B=19 by unfold limE;rw [if_neg q8,if_pos q80]];rfl)
     have HB2:=Lib.hid hb12
     clear q8 q80 hb2 hb12
     go_wp2
     (try simp only [Exit.inBlock,Exit.then])
     refine bodyPost_ret (zak (P:=Tryz.prog) rfl _ _ (w.heap.size+1) _ _ _ _ _ rfl (set6 HZ2.out _ _ _ _ _ _) rfl Tryz.underlying83 rfl (by kernel_rfl)) rfl ?_
     rw [HL.out]
     exact ⟨rfl,zau HB2.out (by omega)⟩
   · have d80:decide ((80:Int) < (depthN B:Int))=false:=by simp;omega
     go_wp2_with fail
     refine (HS.out _ hb12).mono ?_
     rintro e w3 ⟨rfl,hb3⟩
     have HB3:=Lib.hid (hb12.trans (hb3.mono hb12.size))
     have HZ3:=Lib.hid (zad hb3 HZ2.out)
     obtain ⟨x0,x1,x2,x3,x4,x5⟩:=cells6 (zad hb3 (zad hb2 HX.out))
     clear z0 z1 z2 z3 z4 z5 zf
     obtain ⟨z0,z1,z2,z3,z4,z5⟩:=cells6 HZ3.out
     have zf:=unfrozen HZ3.out
     by_cases q20:2000 < sizeN B
     · have d20:decide ((2000:Int) < (sizeN B:Int))=true:=by simp;omega
       have HL:Hid (R=.tuple #[zeroP,.int .i64 5]):=Lib.hid (by rw [HR.out,show limE xl B=5 by unfold limE;rw [if_neg q8,if_neg q80,if_pos q20]];rfl)
       clear q8 q80 q20 hb2 hb3 hb12
       go_wp2
       (try simp only [Exit.inBlock,Exit.then])
       refine bodyPost_ret (zak (P:=Tryz.prog) rfl _ _ (w.heap.size+1) _ _ _ _ _ rfl (set6 HZ3.out _ _ _ _ _ _) rfl Tryz.underlying83 rfl (by kernel_rfl)) rfl ?_
       rw [HL.out]
       exact ⟨rfl,zau HB3.out (by omega)⟩
     · have d20:decide ((2000:Int) < (sizeN B:Int))=false:=by simp;omega
       have HL:Hid (R=.tuple #[prV pn xa xl xc bk bn bs ya yn yc,.int .i64 0]):=Lib.hid (by rw [HR.out,show limE xl B=0 by unfold limE;rw [if_neg q8,if_neg q80,if_neg q20]];rfl)
       clear q8 q80 q20 hb2 hb3 hb12
       go_wp2
       (try simp only [Exit.inBlock,Exit.then])
       refine bodyPost_ret (zak (P:=Tryz.prog) rfl _ _ (w.heap.size+1) _ _ _ _ _ rfl (set6 HZ3.out _ _ _ _ _ _) rfl Tryz.underlying83 rfl (by kernel_rfl)) rfl ?_
       rw [HL.out]
       exact ⟨rfl,zau HB3.out (by omega)⟩
end Go.Proofs.YtpobmoegmdhbpaaGreatDoor
namespace Go.Proofs.YtpobmoegmdhbpaaGreatDoor
open Go.RowKit
theorem RowsOwn.base_le {α:Type} [Inhabited α] {E:Elem α} {e:Nat} {D:Nat→Prop} {b b':Nat} {w:World} {v:Value} {l:List α} (h:RowsOwn E e D b w v l) (hb:b'≤b):RowsOwn E e D b' w v l:=by
 obtain ⟨xs,⟨h0,h1⟩,hf⟩:=h
 refine ⟨xs,⟨h0,?_⟩,hf⟩
 rcases h1 with h1|⟨g,cap,cur,e1,e2,e3⟩
 · exact .inl h1
 · exact .inr ⟨g,cap,cur,e1,Nat.le_trans hb e2,e3⟩
theorem zmX (g:AFn) (pa ta ba:Option Addr) (pc tc bc:Nat) (w:World) (hp:ParsAt Any w (.slice pa g.params.length pc) g.params) (hl:g.params.length≤1000):
 Calls Tryz.prog 45 #[.agg #[.string g.name,.slice pa g.params.length pc,.bool g.list,.slice ta g.temps.length tc,.slice ba g.body.length bc,.string g.result]] w fun e w'=>∃ a c,e=.returned (.slice a (paramsN g).length c)∧RowsOwn DclE 100 Any w.heap.size w' (.slice a (paramsN g).length c) (paramsN g)∧Below w.heap.size w w':=by
 have hA:Below w.heap.size w (w.alloc (.cells #[.string g.name,.slice pa g.params.length pc,.bool g.list,.slice ta g.temps.length tc,.slice ba g.body.length bc,.string g.result] 44)):=(Below.refl _ _).alloc (Nat.le_refl _) _
 have hws:w.heap.size < (w.alloc (.cells #[.string g.name,.slice pa g.params.length pc,.bool g.list,.slice ta g.temps.length tc,.slice ba g.body.length bc,.string g.result] 44)).heap.size:=by simp
 have HN:=Lib.hid (zah w (.cells #[.string g.name,.slice pa g.params.length pc,.bool g.list,.slice ta g.temps.length tc,.slice ba g.body.length bc,.string g.result] 44))
 have HP:=Lib.hid (hp.stays (Stays.of_below hA))
 clear hp
 go_enter Tryz.func45,Tryz.ntmps45
 go_wp2
 generalize (w.alloc (.cells #[.string g.name,.slice pa g.params.length pc,.bool g.list,.slice ta g.temps.length tc,.slice ba g.body.length bc,.string g.result] 44))=W at *
 go_loopw [9,3] (fun i v wr=>∃ k:Nat,i=.int .i64 k∧k≤g.params.length∧Below W.heap.size W wr∧RowsOwn DclE 100 (Up W.heap.size) W.heap.size wr v ((g.params.take k).map (fun p=>dclN p.name p.list))) (fun i _ _=>g.params.length - (intOf i).toNat)
 case atStart=>exact ⟨0,rfl,Nat.zero_le _,Below.refl _ _,by rw [List.take_zero];exact RowsOwn.nil _ _ _ _ _⟩
 case round=>
  obtain ⟨k,rfl,hk,hbl,hown⟩:=hrel
  have hlk:((g.params.take k).map (fun p=>dclN p.name p.list)).length=k:=by simp;omega
  obtain ⟨va,vc,hv⟩:=hown.form
  rw [hlk] at hv
  subst hv
  have HOWN:=Lib.hid hown
  have HLK:=Lib.hid hlk
  clear hown hlk
  have hbw:Below w.heap.size w wr:=hA.trans (hbl.mono hA.size)
  by_cases hlt:k < g.params.length
  · obtain ⟨b,off,cap,he,hb,_,_,c0,c1,hsz⟩:=(HP.out.stays (Stays.of_below hbl)).at hlt
    simp only [Value.slice.injEq] at he
    obtain ⟨rfl,-,rfl⟩:=he
    have HTK:Hid ((g.params.take (k+1)).map (fun p=>dclN p.name p.list)=(g.params.take k).map (fun p=>dclN p.name p.list) ++ [dclN (at' g.params k).name (at' g.params k).list]):=Lib.hid (by rw [List.take_add_one,List.getElem?_eq_getElem hlt,zax hlt,List.map_append];rfl)
    have hA2:Below wr.heap.size wr (wr.alloc (.cells #[.string (at' g.params k).name,.bool (at' g.params k).list] 97)):=(Below.refl _ _).alloc (Nat.le_refl _) _
    go_wp2_with fail
    refine (ziM _ _ _).mono ?_
    rintro e w1 ⟨rfl,hb1⟩
    have hB1:Below wr.heap.size wr w1:=hA2.trans (hb1.mono hA2.size)
    have hBa:Below w1.heap.size w1 (w1.alloc (.cells #[.string (at' g.params k).name,.int .u8 (dclN (at' g.params k).name (at' g.params k).list).kind,.int .i64 0] 100)):=(Below.refl _ _).alloc (Nat.le_refl _) _
    have HK1:=Lib.hid (zjd (A:=fun j=>j=w1.heap.size) (heap_alloc_new w1 (.cells #[.string (at' g.params k).name,.int .u8 (dclN (at' g.params k).name (at' g.params k).list).kind,.int .i64 0] 100)) rfl hsz)
    have HO1:=Lib.hid ((HOWN.out.below hB1).below hBa)
    have HD:Hid (∀ b,b < (w1.alloc (.cells #[.string (at' g.params k).name,.int .u8 (dclN (at' g.params k).name (at' g.params k).list).kind,.int .i64 0] 100)).heap.size→b=w1.heap.size→Up W.heap.size b∧(Value.slice va k vc).ownBlock≠some b):=Lib.hid (fun b _ e=>⟨by have:=hbl.size;have:=hB1.size;unfold Up;omega,fun e2=>by have:=(HOWN.out.lt e2).2;have:=hB1.size;omega⟩)
    have hbase:W.heap.size≤(w1.alloc (.cells #[.string (at' g.params k).name,.int .u8 (dclN (at' g.params k).name (at' g.params k).list).kind,.int .i64 0] 100)).heap.size:=Nat.le_trans hbl.size (Nat.le_trans hB1.size hBa.size)
    go_wp2_with (at_builtin;refine zaF TDcl rfl (by decide) rfl (.tmp 13) (.tmp 19) rfl rfl rfl HO1.out HK1.out HD.out (by rw [HLK.out];unfold maxLen;simp;omega) (by rw [HLK.out];simp;omega) hbase ?_;intro a' c' w3 h3 hg3 hn3;have H3:=Lib.hid h3;have HG3:Hid (World.grownBy _ w3 (Value.slice va k vc).ownBlock):=Lib.hid hg3;clear h3 hg3 hn3)
    refine ⟨⟨k+1,by go_num,by omega,?_,by rw [HTK.out];have h3:=H3.out;rw [HLK.out] at h3;exact h3⟩,by simp [intOf];omega⟩
    exact ((hbl.trans ((hB1.trans (hBa.mono hB1.size)).mono hbl.size))).grown HG3.out hbase (fun j e=>(HOWN.out.lt e).1)
  · obtain rfl:k=g.params.length:=by omega
    have hlt':¬ (g.params.length:Int) < (g.params.length:Int):=by omega
    rw [List.take_length] at HOWN HLK
    have hr:=zad hbl HN.out
    have b2:=zae hr 2 rfl
    have HPL:Hid ((paramsN g).length=g.params.length+1):=Lib.hid (by simp [paramsN])
    have HPN:Hid (paramsN g=g.params.map (fun p=>dclN p.name p.list) ++ [dclN outS g.list]):=Lib.hid rfl
    clear hr
    go_wp2_with fail
    refine (ziM _ _ _).mono ?_
    rintro e w1 ⟨rfl,hb1⟩
    have hBa:Below w1.heap.size w1 (w1.alloc (.cells #[.string ⟨#[111,117,116]⟩,.int .u8 (dclN ⟨#[111,117,116]⟩ g.list).kind,.int .i64 0] 100)):=(Below.refl _ _).alloc (Nat.le_refl _) _
    have HK1:=Lib.hid (zjd (A:=fun j=>j=w1.heap.size) (heap_alloc_new w1 (.cells #[.string ⟨#[111,117,116]⟩,.int .u8 (dclN ⟨#[111,117,116]⟩ g.list).kind,.int .i64 0] 100)) rfl (by unfold maxLen;decide))
    have HO1:=Lib.hid ((HOWN.out.below hb1).below hBa)
    have HD:Hid (∀ b,b < (w1.alloc (.cells #[.string ⟨#[111,117,116]⟩,.int .u8 (dclN ⟨#[111,117,116]⟩ g.list).kind,.int .i64 0] 100)).heap.size→b=w1.heap.size→Up W.heap.size b∧(Value.slice va g.params.length vc).ownBlock≠some b):=Lib.hid (fun b _ e=>⟨by have:=hbl.size;have:=hb1.size;unfold Up;omega,fun e2=>by have:=(HOWN.out.lt e2).2;have:=hb1.size;omega⟩)
    have hbase:W.heap.size≤(w1.alloc (.cells #[.string ⟨#[111,117,116]⟩,.int .u8 (dclN ⟨#[111,117,116]⟩ g.list).kind,.int .i64 0] 100)).heap.size:=Nat.le_trans hbl.size (Nat.le_trans hb1.size hBa.size)
    go_wp2_with (at_builtin;refine zaF TDcl rfl (by decide) rfl (.tmp 22) (.tmp 26) rfl rfl rfl HO1.out HK1.out HD.out (by rw [HLK.out];unfold maxLen;simp;omega) (by rw [HLK.out];simp;omega) hbase ?_;intro a' c' w3 h3 hg3 hn3;have H3:=Lib.hid h3;have HG3:Hid (World.grownBy _ w3 (Value.slice va g.params.length vc).ownBlock):=Lib.hid hg3;clear h3 hg3 hn3)
    go_ret
    have h3:=H3.out
    have hB3:Below W.heap.size W w3:=(hbl.trans ((hb1.trans (hBa.mono hb1.size)).mono hbl.size)).grown HG3.out hbase (fun j e=>(HOWN.out.lt e).1)
    rw [HPL.out,HPN.out]
    have hW:w.heap.size≤W.heap.size:=hA.size
    rw [HLK.out] at h3
    exact ⟨_,_,rfl,(h3.mono (fun _ _=>trivial)).base_le hW,hA.trans (hB3.mono hA.size)⟩
end Go.Proofs.YtpobmoegmdhbpaaGreatDoor
namespace Go.Proofs.YtpobmoegmdhbpaaGreatDoor
open Go.RowKit
def spillN (t:Par):Nd:=if t.list then callN ⟨#[108,115,112,105,108,108]⟩ [t.name,⟨#[103]⟩] else nodeN 44 ⟨#[103]⟩ [vN t.name]
def procK (g:AFn) (kept:List ByteArray):Nd:=localsN g.temps (blockN (bindsN (keptF kept) g.body ++ [resultN g] ++ g.temps.map spillN))
def paramsK (g:AFn):List Dcl:=paramsN g ++ [⟨⟨#[103]⟩,3⟩]
def KPost (g:AFn) (kept:List ByteArray) (w:World) (e:Ending) (w':World):Prop:=∃ (xa:Option Addr) (xc:Nat) (ya:Option Addr) (yn yc:Nat),e=.returned (.tuple #[if limE (paramsK g).length (procK g kept)=0 then prV (g.name ++ ⟨#[49]⟩) xa (paramsK g).length xc 57 0 ⟨#[]⟩ ya yn yc else zeroP,.int .i64 (limE (paramsK g).length (procK g kept))])∧
 RowsAt DclE (Up w.heap.size) w' (.slice xa (paramsK g).length xc) (paramsK g)∧NdAt (Up w.heap.size) w' (.agg #[.int .u8 57,.int .i64 0,.string ⟨#[]⟩,.slice ya yn yc]) (procK g kept)∧Below w.heap.size w w'
def CutM (g:AFn) (pa ta ba:Option Addr) (pc tc bc:Nat) (n:Nd) (w:World) (s:Value) (wx:World):Prop:=
 ∃ (gb:Nat) (a:Option Addr) (m c:Nat),s=.pointer (some ⟨gb,0,none⟩)∧wx.heap[gb]?=some (.cells #[.int .u8 57,.int .i64 0,.string ⟨#[]⟩,.slice a m c] 34 (0,0))∧NdAt (Up (w.heap.size+2)) wx (.agg #[.int .u8 57,.int .i64 0,.string ⟨#[]⟩,.slice a m c]) n∧PBox g pa ta ba pc tc bc w wx∧Below w.heap.size w wx
theorem PBox.below {g:AFn} {pa ta ba:Option Addr} {pc tc bc:Nat} {w w1 w2:World} (h:PBox g pa ta ba pc tc bc w w1) (hb:Below w1.heap.size w1 w2):PBox g pa ta ba pc tc bc w w2:=⟨zad hb h.1,zad hb h.2⟩
theorem ziQ {g:AFn} {pa ta ba:Option Addr} {pc tc bc:Nat} {n:Nd} {w w9:World} {A:Nat→Prop} {a:Option Addr} {m c:Nat} (hk:NdAt A w9 (.agg #[.int .u8 57,.int .i64 0,.string ⟨#[]⟩,.slice a m c]) n) (hA:∀ b,A b→w.heap.size+2≤b) (hp:PBox g pa ta ba pc tc bc w w9) (hb:Below w.heap.size w w9):
 CutM g pa ta ba pc tc bc n w (.pointer (some ⟨w9.heap.size,0,none⟩)) (w9.alloc (.cells #[.int .u8 57,.int .i64 0,.string ⟨#[]⟩,.slice a m c] 34)):=
 ⟨w9.heap.size,a,m,c,rfl,zah _ _,hk.stays ⟨(zaa (Below.refl _ _)).size,fun b hb a=>⟨(zaa (Below.refl w9.heap.size w9)).block b hb,hA b a⟩⟩,hp.below (zaa (Below.refl _ _)),zaa hb⟩
theorem ziI {g:AFn} {pa ta ba:Option Addr} {pc tc bc:Nat} {n:Nd} {w wx:World} {A:Nat→Prop} {gb:Nat} {a:Option Addr} {m c:Nat} (hk:NdAt A wx (.agg #[.int .u8 57,.int .i64 0,.string ⟨#[]⟩,.slice a m c]) n) (hz:wx.heap[gb]?=some (.cells #[.int .u8 0,.int .i64 0,.string ⟨#[]⟩,.slice none 0 0] 34)) (hne:∀ b,b < wx.heap.size→A b→b≠gb) (hA:∀ b,A b→w.heap.size+2≤b) (hg:w.heap.size+2≤gb) (hp:PBox g pa ta ba pc tc bc w wx) (hb:Below w.heap.size w wx):
 CutM g pa ta ba pc tc bc n w (.pointer (some ⟨gb,0,none⟩)) ((((wx.setCell ⟨gb,0,none⟩ (.int .u8 57)).setCell ⟨gb,1,none⟩ (.int .i64 0)).setCell ⟨gb,2,none⟩ (.string ⟨#[]⟩)).setCell ⟨gb,3,none⟩ (.slice a m c)):=by
 have hK4:=(((zaf wx gb 0 (.int .u8 57)).same (zaf _ gb 1 (.int .i64 0))).same (zaf _ gb 2 (.string ⟨#[]⟩))).same (zaf _ gb 3 (.slice a m c))
 exact ⟨gb,a,m,c,rfl,set4 hz _ _ _ _,hk.stays ⟨hK4.size,fun b hb a=>⟨hK4.block b hb (hne b hb a),hA b a⟩⟩,⟨zaN hp.1 (by omega),zaN hp.2 (by omega)⟩,zaq hb (by omega)⟩
def CutI (g:AFn) (pa ta ba:Option Addr) (pc tc bc:Nat) (l:List Nd) (w:World) (s:Value) (wx:World):Prop:=
 ∃ (a:Option Addr) (c:Nat),s=.slice a l.length c∧RowsOwn NdE 34 (Up (w.heap.size+2)) (w.heap.size+2) wx (.slice a l.length c) l∧PBox g pa ta ba pc tc bc w wx∧Below w.heap.size w wx∧w.heap.size+2≤wx.heap.size
theorem zhl {B:Nat} {w5 w6:World} {a:Option Addr} {n c:Nat} {l:List Nd} {x0 x1 x2 x3:Value} {x:Nd} (h:RowsOwn NdE 34 (Up B) B w5 (.slice a n c) l) (hb:Below w5.heap.size w5 w6) (hB:B≤w5.heap.size) (hk:NdAt (Up w5.heap.size) w6 (.agg #[x0,x1,x2,x3]) x):
 RowsOwn NdE 34 (Up B) B (w6.alloc (.cells #[x0,x1,x2,x3] 34)) (.slice a n c) l∧RowsAt NdE (Up w5.heap.size) (w6.alloc (.cells #[x0,x1,x2,x3] 34)) (.slice (some ⟨w6.heap.size,0,none⟩) 1 1) [x]∧∀ b,b < (w6.alloc (.cells #[x0,x1,x2,x3] 34)).heap.size→Up w5.heap.size b→Up B b∧(Value.slice a n c).ownBlock≠some b:=
 ⟨(h.below hb).below (zaa (Below.refl _ _)),zar.1 (zbi (A:=Up w5.heap.size) (heap_alloc_new w6 _) hb.size (hk.stays (Stays.of_below (zaa (Below.refl _ _))))),fun b _ d=>⟨Nat.le_trans hB d,fun e=>by
   have h1:=(h.lt e).2
   have h2:w5.heap.size≤b:=d
   omega⟩⟩
theorem zfV {g:AFn} {pa ta ba:Option Addr} {pc tc bc:Nat} {l:List Nd} {x:Nd} {w w5 W w4:World} {a a2:Option Addr} {c c2:Nat} (h5:RowsOwn NdE 34 (Up (w.heap.size+2)) (w.heap.size+2) w5 (.slice a l.length c) l) (hp:PBox g pa ta ba pc tc bc w w5) (hb:Below w.heap.size w w5) (hs:w.heap.size+2≤w5.heap.size) (hW:Below w5.heap.size w5 W)
 (hg:W.grownBy w4 (Value.slice a l.length c).ownBlock) (h4:RowsOwn NdE 34 (Up (w.heap.size+2)) (w.heap.size+2) w4 (.slice a2 (l.length+1) c2) (l ++ [x])):CutI g pa ta ba pc tc bc (l ++ [x]) w (.slice a2 (l.length+1) c2) w4:=by
 have e:(l ++ [x]).length=l.length+1:=by simp
 have hpW:=hp.below hW
 have hbW:=hb.trans (hW.mono hb.size)
 have hk:∀ q,q < w.heap.size+2→w4.heap[q]?=W.heap[q]?:=fun q hq=>hg.block q (by have:=hW.size;omega) (fun e=>by have:=(h5.lt e.symm).1;omega)
 exact ⟨a2,c2,by rw [e],by rw [e];exact h4,⟨(hk _ (by omega)).trans hpW.1,(hk _ (by omega)).trans hpW.2⟩,hbW.grown hg hbW.size (fun j e=>by have:=(h5.lt e).1;omega),by have:=hg.size;have:=hW.size;omega⟩
theorem zbo (g:AFn):(paramsK g).length=(paramsN g).length+1:=by simp [paramsK]
theorem zfq {n b:Nat} (h:Up (n+2) b):Up n b:=by unfold Up at *;omega
theorem zlu {g:AFn} {kept:List ByteArray} {w w9:World} {xa ya:Option Addr} {xc yn yc:Nat} (hL:limE (paramsK g).length (procK g kept)=0) (hb:Below w.heap.size w w9) (hv:RowsAt DclE (Up (w.heap.size+2)) w9 (.slice xa (paramsK g).length xc) (paramsK g))
 (hn:NdAt (Up (w.heap.size+2)) w9 (.agg #[.int .u8 57,.int .i64 0,.string ⟨#[]⟩,.slice ya yn yc]) (procK g kept)) (x0 x1 x2 x3 x4 x5:Value):
 KPost g kept w (.returned (.tuple #[prV (g.name ++ ⟨#[49]⟩) xa ((paramsN g).length+1) xc 57 0 ⟨#[]⟩ ya yn yc,.int .i64 0])) ((((((w9.setCell ⟨w.heap.size+1,0,none⟩ x0).setCell ⟨w.heap.size+1,1,none⟩ x1).setCell ⟨w.heap.size+1,2,none⟩ x2).setCell ⟨w.heap.size+1,3,none⟩ x3).setCell ⟨w.heap.size+1,4,none⟩ x4).setCell ⟨w.heap.size+1,5,none⟩ x5):=by
 have hK:=zbU w9 (w.heap.size+1) x0 x1 x2 x3 x4 x5
 have hs:∀ b,b < w9.heap.size→Up (w.heap.size+2) b→¬ b=w.heap.size+1:=fun b _ a e=>by have:w.heap.size+2≤b:=a;omega
 refine ⟨xa,xc,ya,yn,yc,by rw [if_pos hL,hL,zbo],hv.stays ⟨hK.size,fun b hb a=>⟨hK.block b hb (hs b hb a),zfq a⟩⟩,hn.stays ⟨hK.size,fun b hb a=>⟨hK.block b hb (hs b hb a),zfq a⟩⟩,zau hb (by omega)⟩
theorem zmw {g:AFn} {kept:List ByteArray} {w w9:World} {xa ya:Option Addr} {xc yn yc:Nat} {LE:Int} (hE:LE=limE (paramsK g).length (procK g kept)) (hL:¬ LE=0) (hb:Below w.heap.size w w9) (hv:RowsAt DclE (Up (w.heap.size+2)) w9 (.slice xa (paramsK g).length xc) (paramsK g))
 (hn:NdAt (Up (w.heap.size+2)) w9 (.agg #[.int .u8 57,.int .i64 0,.string ⟨#[]⟩,.slice ya yn yc]) (procK g kept)) (x0 x1 x2 x3 x4 x5:Value):
 KPost g kept w (.returned (.tuple #[zeroP,.int .i64 LE])) ((((((w9.setCell ⟨w.heap.size+1,0,none⟩ x0).setCell ⟨w.heap.size+1,1,none⟩ x1).setCell ⟨w.heap.size+1,2,none⟩ x2).setCell ⟨w.heap.size+1,3,none⟩ x3).setCell ⟨w.heap.size+1,4,none⟩ x4).setCell ⟨w.heap.size+1,5,none⟩ x5):=by
 subst hE
 have hK:=zbU w9 (w.heap.size+1) x0 x1 x2 x3 x4 x5
 have hs:∀ b,b < w9.heap.size→Up (w.heap.size+2) b→¬ b=w.heap.size+1:=fun b _ a e=>by have:w.heap.size+2≤b:=a;omega
 refine ⟨xa,xc,ya,yn,yc,by rw [if_neg hL],hv.stays ⟨hK.size,fun b hb a=>⟨hK.block b hb (hs b hb a),zfq a⟩⟩,hn.stays ⟨hK.size,fun b hb a=>⟨hK.block b hb (hs b hb a),zfq a⟩⟩,zau hb (by omega)⟩
theorem cells3 {w:World} {b e:Nat} {v0 v1 v2:Value} (h:w.heap[b]?=some (.cells #[v0,v1,v2] e (0,0))):w.cell? ⟨b,0,none⟩=some v0∧w.cell? ⟨b,1,none⟩=some v1∧w.cell? ⟨b,2,none⟩=some v2:=
 ⟨zae h 0 rfl,zae h 1 rfl,zae h 2 rfl⟩
theorem zoG {A:Nat→Prop} {w:World} {g:Nat} (h:w.heap[g]?=some (.cells #[.string ⟨#[103]⟩,.int .u8 3,.int .i64 0] 100 (0,0))) (hA:A g):RowsAt DclE A w (.slice (some ⟨g,0,none⟩) 1 1) [⟨⟨#[103]⟩,3⟩]:=
 zjd (s:=⟨#[103]⟩) (b:=true) h hA (by unfold maxLen;decide)
theorem zil {e b:Nat} {D A:Nat→Prop} {w:World} {v:Value} {l:List Dcl} (h:RowsOwn DclE e D b w v l) (hA:∀ k,b≤k→A k) (hl:l.length≤maxLen):RowsAt DclE A w v l:=by
 obtain ⟨xs,hx,hf⟩:=h
 have h2:RowsOwn DclE e A b w v l:=⟨xs,hx,fun j hj=>hf j hj⟩
 exact h2.shut (fun _ a=>a) (fun k e=>hA k (h2.lt e).1) hl
def Near (W0:World) (q:Nat) (w2:World):Prop:=∃ w1,Below W0.heap.size W0 w1∧Keeps w1 w2 (fun k=>k=q)
theorem zel {W0 w1:World} {q:Nat} (h:Below W0.heap.size W0 w1):Near W0 q w1:=⟨w1,h,Keeps.refl _ _⟩
theorem zdw {W0 w1:World} {q:Nat} (h:Near W0 q w1):Near W0 q w1.drew:=by obtain ⟨w,a,b⟩:=h;exact ⟨w,a,b.drew 1⟩
theorem zej {W0 w1:World} {q j:Nat} {x:Value} (h:Near W0 q w1):Near W0 q (w1.setCell ⟨q,j,none⟩ x):=by obtain ⟨w,a,b⟩:=h;exact ⟨w,a,b.same (zaf _ _ _ _)⟩
theorem zlc (g:AFn) (pa ta ba:Option Addr) (pc tc bc:Nat) (ka:Option Addr) (kc:Nat) (kept:List ByteArray) (w:World) (hp:ParsAt Any w (.slice pa g.params.length pc) g.params) (ht:ParsAt Any w (.slice ta g.temps.length tc) g.temps) (hb:BdsAt Any w (.slice ba g.body.length bc) g.body) (hr:g.result.size≤maxLen) (hn:g.name.size≤140737488355328)
 (hz:sizeBs g.body≤10000) (htl:g.temps.length≤4000) (hpl:g.params.length≤8) (hsz:sizeN (procK g kept)≤1000000) (hk:StrsAt Any w (.slice ka kept.length kc) kept) (hks:∀ s ∈ kept,s.size≤140737488355328):
 Calls Tryz.prog 34 #[.agg #[.string g.name,.slice pa g.params.length pc,.bool g.list,.slice ta g.temps.length tc,.slice ba g.body.length bc,.string g.result],.slice ka kept.length kc] w (KPost g kept w):=by
 obtain ⟨W,hW⟩:∃ W,W=(w.alloc (.cells #[.string g.name,.slice pa g.params.length pc,.bool g.list,.slice ta g.temps.length tc,.slice ba g.body.length bc,.string g.result] 44)).alloc (.cells #[.string ⟨#[]⟩,.slice none 0 0,.int .u8 0,.int .i64 0,.string ⟨#[]⟩,.slice none 0 0] 83):=⟨_,rfl⟩
 have hB:Below w.heap.size w W:=by subst hW;exact zaa (zaa (Below.refl _ _))
 have HBW:=Lib.hid hB
 have HWS:Hid (W.heap.size=w.heap.size+2):=Lib.hid (by subst hW;simp)
 have HBX:Hid (PBox g pa ta ba pc tc bc w W):=Lib.hid (by subst hW;exact ⟨zaI w _ _,zaw w _ _⟩)
 have HFF:Hid (∀ w1,Below W.heap.size W w1→w1.cell? ⟨w.heap.size,0,none⟩=some (.string g.name)∧w1.cell? ⟨w.heap.size,1,none⟩=some (.slice pa g.params.length pc)∧w1.cell? ⟨w.heap.size,2,none⟩=some (.bool g.list)∧w1.cell? ⟨w.heap.size,3,none⟩=some (.slice ta g.temps.length tc)∧w1.cell? ⟨w.heap.size,4,none⟩=some (.slice ba g.body.length bc)∧w1.cell? ⟨w.heap.size,5,none⟩=some (.string g.result)):=Lib.hid (fun w1 h=>cells6 (zad h HBX.out.1))
 have HP:=Lib.hid hp
 have HT:=Lib.hid ht
 have HC1:Hid (∀ w1,Below W.heap.size W w1→Calls Tryz.prog 57 #[.slice ka kept.length kc] w1 (fun e w'=>∃ g,e=.returned (.func (.func 107) #[] #[.pointer (some ⟨g,0,none⟩)])∧w'.heap[g]?=some (.cells #[.slice ka kept.length kc] 23 (0,0))∧Below w1.heap.size w1 w')):=Lib.hid (fun w1 _=>zic ka kept.length kc w1)
 have HC2:Hid (∀ w1 gk,Below W.heap.size W w1→w1.heap[gk]?=some (.cells #[.slice ka kept.length kc] 23 (0,0))→Calls Tryz.prog 56 #[.agg #[.string g.name,.slice pa g.params.length pc,.bool g.list,.slice ta g.temps.length tc,.slice ba g.body.length bc,.string g.result],.func (.func 107) #[] #[.pointer (some ⟨gk,0,none⟩)]] w1 (fun e w'=>∃ a c,e=.returned (.tuple #[.agg #[.int .u8 57,.int .i64 0,.string ⟨#[]⟩,.slice a (bindsN (keptF kept) g.body).length c],.int .i64 0])∧NdAt (fun b=>w1.heap.size≤b∧b < w'.heap.size) w' (.agg #[.int .u8 57,.int .i64 0,.string ⟨#[]⟩,.slice a (bindsN (keptF kept) g.body).length c]) (blockN (bindsN (keptF kept) g.body))∧Below w1.heap.size w1 w')):=Lib.hid (fun w1 gk hw hg=>
  (zeY g pa ta ba pc tc bc _ (keptF kept) w1 ((hb.stays (Stays.of_below hB)).stays (Stays.of_below hw)) (zeu hks hg ((hk.stays (Stays.of_below hB)).stays (Stays.of_below hw))) (by omega)).mono fun e w' ⟨a,n,c,he,h,hb⟩=>by
    obtain ⟨_,a',c',e'⟩:=h.form
    simp only [Value.slice.injEq] at e'
    obtain ⟨rfl,rfl,rfl⟩:=e'
    exact ⟨a,c,he,(zam (k:=57) (s:=⟨#[]⟩) h (by omega) (Nat.zero_le _)).stays ⟨Nat.le_refl _,fun b hb a=>⟨rfl,a,hb⟩⟩,hb⟩)
 clear hp ht hb hk hB
 subst hW
 go_enter Tryz.func34,Tryz.ntmps34
 go_wp2
 generalize (w.alloc (.cells #[.string g.name,.slice pa g.params.length pc,.bool g.list,.slice ta g.temps.length tc,.slice ba g.body.length bc,.string g.result] 44)).alloc (.cells #[.string ⟨#[]⟩,.slice none 0 0,.int .u8 0,.int .i64 0,.string ⟨#[]⟩,.slice none 0 0] 83)=W at *
 go_cut [6,7] (fun s e wx=>e=.int .i64 0∧CutM g pa ta ba pc tc bc (blockN (bindsN (keptF kept) g.body)) w s wx)
 case first=>
  go_region_held3 (fun w1=>w1.cell? ⟨w.heap.size,0,none⟩=some (.string g.name)∧w1.cell? ⟨w.heap.size,1,none⟩=some (.slice pa g.params.length pc)∧w1.cell? ⟨w.heap.size,2,none⟩=some (.bool g.list)∧w1.cell? ⟨w.heap.size,3,none⟩=some (.slice ta g.temps.length tc)∧w1.cell? ⟨w.heap.size,4,none⟩=some (.slice ba g.body.length bc)∧w1.cell? ⟨w.heap.size,5,none⟩=some (.string g.result)) (with_reducible exact HFF.out _ (by (repeat (with_reducible first|exact Below.refl _ _|refine zab ?_|refine zaa ?_|(refine zaq ?_ ?_;rotate_left;(focus (first|exact Nat.le_refl _|exact Below.size (by (repeat (with_reducible first|exact Below.refl _ _|refine zab ?_|refine zaa ?_|(apply zac;focus assumption)))))))|(apply zac;focus assumption)))))
   (first
   | (go_at_call 57;(with_reducible refine (HC1.out _ (by (repeat (with_reducible first|exact Below.refl _ _|refine zab ?_|refine zaa ?_|(apply zac;focus assumption))))).mono ?_);rintro e w5 ⟨gk,rfl,hgk,hb5⟩;have HGK:=Lib.hid hgk;clear hgk)
   | (go_at_call 56;(with_reducible refine (HC2.out _ _ (by (repeat (with_reducible first|exact Below.refl _ _|refine zab ?_|refine zaa ?_|(apply zac;focus assumption)))) (zad (by (repeat (with_reducible first|exact Below.refl _ _|refine zab ?_|refine zaa ?_|(apply zac;focus assumption)))) HGK.out)).mono ?_);rintro e w9 ⟨a9,c9,rfl,hn9,hb9⟩;have HN9:=Lib.hid hn9;clear hn9;(first|(refine zbn w9 W.heap.size ?_ (fun g0 g1 g2 g3 gf=>?_);focus ((repeat (with_reducible first|(refine zaj ?_;(simp;done))|refine zai ?_|refine zag ?_|(apply zad;focus assumption)));done))|skip);(first|(refine zbn w9 w5.heap.size ?_ (fun g0 g1 g2 g3 gf=>?_);focus ((repeat (with_reducible first|(refine zaj ?_;(simp;done))|refine zai ?_|refine zag ?_|(apply zad;focus assumption)));done))|skip)))
  all_goals
   have hz5:=hb5.size
   have hz9:=hb9.size
   (try simp only [World.size_alloc,World.size_drew] at hz5 hz9)
   have hw9:Below W.heap.size W w9:=(by (repeat (with_reducible first|exact Below.refl _ _|refine zab ?_|refine zaa ?_|(apply zac;focus assumption))))
   have hp9:=HBX.out.below hw9
   have HB9:=Lib.hid (HBW.out.trans (hw9.mono HBW.out.size))
   have hws:=HWS.out
   have hsw9:=hw9.size
   clear hw9
   go_wp2
   go_meet
   first
   | (refine ⟨rfl,?_⟩;(with_reducible refine ziQ HN9.out ?_ hp9 HB9.out);(focus (intro b ha;(try simp only [World.size_alloc,World.size_drew] at ha);omega)))
   | (refine ⟨rfl,?_⟩;(with_reducible refine ziI HN9.out ?_ ?_ ?_ ?_ hp9 HB9.out);(focus ((repeat (with_reducible first|(refine zaj ?_;(simp;done))|refine zai ?_|refine zag ?_|(apply zad;focus assumption)));done));(focus (intro b hb ha;(try simp only [World.size_alloc,World.size_drew] at ha);omega));(focus (intro b ha;(try simp only [World.size_alloc,World.size_drew] at ha);omega));(focus omega))
 case rest=>
  obtain ⟨rfl,gb,ca,cn,cc,rfl,hG,hN,hPB,hBw⟩:=hcut
  clear HC1 HC2 HFF HBX HWS HBW
  have HG:=Lib.hid hG
  have HN:=Lib.hid hN
  have HPB:=Lib.hid hPB
  have HBC:=Lib.hid hBw
  obtain ⟨f0,f1,f2,f3,f4,f5⟩:=cells6 hPB.1
  obtain ⟨n0,n1,n2,n3⟩:=cells4 hG
  clear hG hN hPB hBw
  have hlb:(bindsN (keptF kept) g.body).length≤20000:=by have:=zbq (keptF kept) g.body;have:=zaV g.body;omega
  have HFC:Hid (∀ w1,Below wc.heap.size wc w1→w1.cell? ⟨gb,3,none⟩=some (.slice ca cn cc)∧w1.cell? ⟨w.heap.size,0,none⟩=some (.string g.name)∧w1.cell? ⟨w.heap.size,1,none⟩=some (.slice pa g.params.length pc)∧w1.cell? ⟨w.heap.size,2,none⟩=some (.bool g.list)∧w1.cell? ⟨w.heap.size,3,none⟩=some (.slice ta g.temps.length tc)∧w1.cell? ⟨w.heap.size,4,none⟩=some (.slice ba g.body.length bc)∧w1.cell? ⟨w.heap.size,5,none⟩=some (.string g.result)):=Lib.hid (fun w1 h=>⟨(cells4 (zad h HG.out)).2.2.2,cells6 (zad h HPB.out.1)⟩)
  have hcs2:w.heap.size+2≤wc.heap.size:=by
   have:=HPB.out.2
   rw [Array.getElem?_eq_some_iff] at this
   have:=this.1;omega
  have HCS:=Lib.hid hcs2
  have HC3:Hid (∀ w1,Below wc.heap.size wc w1→Calls Tryz.prog 58 #[.slice ca cn cc] w1 (fun e w'=>∃ a c,e=.returned (.slice a (bindsN (keptF kept) g.body).length c)∧RowsOwn NdE 34 (Up (w.heap.size+2)) (w.heap.size+2) w' (.slice a (bindsN (keptF kept) g.body).length c) (bindsN (keptF kept) g.body)∧Below w1.heap.size w1 w')):=Lib.hid (fun w1 h=>(zhP _ (bindsN (keptF kept) g.body) (Up (w.heap.size+2)) w1 (zar.1 ((ndKids HN.out).stays (Stays.of_below h))) (by omega)).mono fun e w' ⟨a,c,he,hr,hb⟩=>⟨a,c,he,(hr.mono (fun _ a=>a.1)).base_le (Nat.le_trans HCS.out h.size),hb⟩)
  have HC4:Hid (∀ w1,Below wc.heap.size wc w1→Calls Tryz.prog 59 #[.agg #[.string g.name,.slice pa g.params.length pc,.bool g.list,.slice ta g.temps.length tc,.slice ba g.body.length bc,.string g.result]] w1 (fun e w'=>∃ k ka kn kc,e=.returned (.agg #[.int .u8 k,.int .i64 0,.string (resultN g).name,.slice ka kn kc])∧NdAt (Up w1.heap.size) w' (.agg #[.int .u8 k,.int .i64 0,.string (resultN g).name,.slice ka kn kc]) (resultN g)∧Below w1.heap.size w1 w')):=Lib.hid (fun w1 h=>zid g pa ta ba pc tc bc w1 hr)
  clear hcs2
  go_wp2
  go_cut [8] (fun s wx=>CutI g pa ta ba pc tc bc (bindsN (keptF kept) g.body ++ [resultN g]) w s wx)
  case first=>
   go_region_law (first
    | (refine zes TNd rfl (by decide) (by rfl) (.tmp 25) (.tmp 28) (by rfl) (by rfl) (by rfl) HA6.out.1 HA6.out.2.1 HA6.out.2.2 (by unfold maxLen;simp;omega) (by simp;omega) (Nat.le_trans (Nat.le_trans HCS.out HW5.out.size) (Nat.le_trans HW6.out.size (zaa (Below.refl w6.heap.size w6)).size)) ?_;intro a7 c7 w7 h7 hg7 hn7;have HI7:=Lib.hid (zfV HR5.out (HPB.out.below HW5.out) (HBC.out.trans (HW5.out.mono HBC.out.size)) (Nat.le_trans HCS.out HW5.out.size) (zaa HW6.out) hg7 h7);clear h7 hg7 hn7)
    | (go_simp;first
    | (go_at_call 58;(with_reducible refine (HC3.out _ (by (repeat (with_reducible first|exact Below.refl _ _|refine zab ?_|refine zaa ?_|(apply zac;focus assumption))))).mono ?_);rintro e w5 ⟨a5,c5,rfl,hr5,hb5⟩;have HR5:=Lib.hid hr5;have HW5:Hid (Below wc.heap.size wc w5):=Lib.hid (by (repeat (with_reducible first|exact Below.refl _ _|refine zab ?_|refine zaa ?_|(apply zac;focus assumption))));clear hr5;obtain ⟨t0,t1,t2,t3,t4,t5,t6⟩:=HFC.out w5 (by (repeat (with_reducible first|exact Below.refl _ _|refine zab ?_|refine zaa ?_|(apply zac;focus assumption)))))
    | (go_at_call 59;(with_reducible refine (HC4.out _ (by (repeat (with_reducible first|exact Below.refl _ _|refine zab ?_|refine zaa ?_|(apply zac;focus assumption))))).mono ?_);rintro e w6 ⟨rk,ra,rn,rc,rfl,hn6,hb6⟩;have HA6:=Lib.hid (zhl HR5.out ((by (repeat (with_reducible first|exact Below.refl _ _|refine zab ?_|refine zaa ?_|(apply zac;focus assumption)))):Below w5.heap.size w5 w6) (Nat.le_trans HCS.out HW5.out.size) (hn6.stays (zaJ (by first|exact Nat.le_refl _|(simp;done)))));have HW6:Hid (Below w5.heap.size w5 w6):=Lib.hid (by (repeat (with_reducible first|exact Below.refl _ _|refine zab ?_|refine zaa ?_|(apply zac;focus assumption))));clear hn6;obtain ⟨t0,t1,t2,t3,t4,t5,t6⟩:=HFC.out w6 (by (repeat (with_reducible first|exact Below.refl _ _|refine zab ?_|refine zaa ?_|(apply zac;focus assumption)))))
    | fail))
   all_goals
    go_wp2
    go_meet
    exact HI7.out
  case rest=>
   obtain ⟨ia,ic,rfl,hI,hPB2,hB2,hS2⟩:=hcut
   have HPB2:=Lib.hid hPB2
   clear f0 f1 f2 f3 f4 f5 n0 n1 n2 n3
   obtain ⟨f0,f1,f2,f3,f4,f5⟩:=cells6 hPB2.1
   obtain ⟨L0,hL0⟩:∃ L0,L0=bindsN (keptF kept) g.body ++ [resultN g]:=⟨_,rfl⟩
   have hl0:L0.length≤20001:=by rw [hL0];simp;omega
   rw [← hL0] at hI ⊢
   have HL0:=Lib.hid hL0
   have HI0:Hid (CutI g pa ta ba pc tc bc (L0 ++ (g.temps.take 0).map spillN) w (.slice ia L0.length ic) wc):=Lib.hid (by rw [List.take_zero,List.map_nil,List.append_nil];exact ⟨ia,ic,rfl,hI,hPB2,hB2,hS2⟩)
   clear hL0
   have HTC:=Lib.hid (HT.out.stays (Stays.of_below hB2))
   have HBC2:=Lib.hid hB2
   clear hI hPB2 hB2 hS2 HC3 HC4 HFC HCS HN HG HPB HBC
   go_wp2
   go_loopw [8,33] (fun v i wr=>∃ k:Nat,k≤g.temps.length∧i=.int .i64 k∧CutI g pa ta ba pc tc bc (L0 ++ (g.temps.take k).map spillN) w v wr) (fun _ i _=>g.temps.length - (intOf i).toNat)
   case atStart=>exact ⟨0,Nat.zero_le _,rfl,HI0.out⟩
   case round=>
    obtain ⟨k,hk,rfl,ja,jc,rfl,hI,hPBk,hBk,hSk⟩:=hrel
    have HIK:=Lib.hid hI
    have HPBK:=Lib.hid hPBk
    have HBK:=Lib.hid hBk
    have HSK:=Lib.hid hSk
    have hlk:(L0 ++ (g.temps.take k).map spillN).length≤25000:=by simp;omega
    by_cases hlt:k < g.temps.length
    · obtain ⟨b,off,cap,he,hb,_,_,c0,c1,hsn⟩:=(HT.out.stays (Stays.of_below hBk)).at hlt
      simp only [Value.slice.injEq] at he
      obtain ⟨rfl,-,rfl⟩:=he
      have HNX:Hid (L0 ++ (g.temps.take (k+1)).map spillN=(L0 ++ (g.temps.take k).map spillN) ++ [spillN (at' g.temps k)]):=Lib.hid (by rw [List.take_succ_eq_append_getElem hlt,List.map_append,zax hlt,List.append_assoc];rfl)
      have hmea:g.temps.length - (k+1) < g.temps.length - k:=by omega
      have HME:=Lib.hid hmea
      have HSN:=Lib.hid hsn
      generalize hLL:L0 ++ (g.temps.take k).map spillN=LL at *
      clear hI hPBk hBk hSk hmea hLL
      cases hli:(at' g.temps k).list with
      | true=>
        rw [hli] at c1
        have HSP:Hid (spillN (at' g.temps k)=callN ⟨#[108,115,112,105,108,108]⟩ [(at' g.temps k).name,⟨#[103]⟩]):=Lib.hid (by unfold spillN;rw [if_pos hli])
        clear hli
        have HIV:Hid (∀ (w1:World) (gq:Nat),Below wr.heap.size wr w1→w1.heap[gq]?=some (.cells #[.string (at' g.temps k).name,.string ⟨#[103]⟩] 9 (0,0))→Calls Tryz.prog 60 #[.string ⟨#[108,115,112,105,108,108]⟩,.slice (some ⟨gq,0,none⟩) 2 2] w1 (fun e w'=>∃ ka kn kc,e=.returned (.agg #[.int .u8 50,.int .i64 0,.string ⟨#[108,115,112,105,108,108]⟩,.slice ka kn kc])∧NdAt (Up wr.heap.size) w' (.agg #[.int .u8 50,.int .i64 0,.string ⟨#[108,115,112,105,108,108]⟩,.slice ka kn kc]) (callN ⟨#[108,115,112,105,108,108]⟩ [(at' g.temps k).name,⟨#[103]⟩])∧Below w1.heap.size w1 w')):=Lib.hid (fun w1 gq h1 hg=>zgt wr.heap.size ⟨#[108,115,112,105,108,108]⟩ (some ⟨gq,0,none⟩) 2 2 [(at' g.temps k).name,⟨#[103]⟩] w1 (A:=Any) h1.size (ziz hg trivial HSN.out (by unfold maxLen;decide)) (by unfold maxLen;decide) (by simp))
        go_wp2_with (first
         | (at_builtin;refine zaF TNd rfl (by decide) rfl (.tmp 39) (.tmp 44) rfl rfl rfl HA6.out.1 HA6.out.2.1 HA6.out.2.2 (by simp;unfold maxLen;omega) (by simp;omega) (Nat.le_trans HSK.out (zaa (x:=.cells #[.int .u8 50,.int .i64 0,.string ⟨#[108,115,112,105,108,108]⟩,.slice xa xn xc] 34) HW6.out).size) ?_;intro a7 c7 w7 h7 hg7 hn7;have HI7:=Lib.hid (zfV HIK.out HPBK.out HBK.out HSK.out (zaa HW6.out) hg7 h7);clear h7 hg7 hn7)
         | (go_at_call 60;refine (HIV.out _ _ (by (repeat (with_reducible first|exact Below.refl _ _|refine zab ?_|refine zaa ?_|(apply zac;focus assumption)))) (by (repeat (with_reducible first|(refine zaj ?_;(simp;done))|(refine zaj ?_;rfl)|refine zai ?_|refine zag ?_|(apply zad;focus assumption))))).mono ?_;rintro e w6 ⟨xa,xn,xc,rfl,hn6,hb6⟩;have HW6:Hid (Below wr.heap.size wr w6):=Lib.hid (by (repeat (with_reducible first|exact Below.refl _ _|refine zab ?_|refine zaa ?_|(apply zac;focus assumption))));have HA6:=Lib.hid (zhl HIK.out HW6.out HSK.out hn6);clear hn6))
        go_roundw
        case rel=>exact ⟨k+1,by omega,by go_num,by rw [HNX.out,HSP.out];exact HI7.out⟩
        case measure=>simp [intOf];omega
      | false=>
        rw [hli] at c1
        have HSP:Hid (spillN (at' g.temps k)=nodeN 44 ⟨#[103]⟩ [vN (at' g.temps k).name]):=Lib.hid (by unfold spillN;rw [hli];rfl)
        clear hli
        have HNV:Hid (∀ (w5 w6:World),Below wr.heap.size wr w5→Below (w5.alloc (.cells #[.int .u8 2,.int .i64 0,.string (at' g.temps k).name,.slice none 0 0] 34)).heap.size (w5.alloc (.cells #[.int .u8 2,.int .i64 0,.string (at' g.temps k).name,.slice none 0 0] 34)) w6→NdAt (Up wr.heap.size) w6 (.agg #[.int .u8 44,.int .i64 0,.string ⟨#[103]⟩,.slice (some ⟨w5.heap.size,0,none⟩) 1 1]) (nodeN 44 ⟨#[103]⟩ [vN (at' g.temps k).name])):=Lib.hid (fun w5 w6 h5 h6=>
         zam (k:=44) (zbi (A:=Up wr.heap.size) (zad h6 (zah w5 _)) h5.size (nd_v HSN.out)) (by omega) (by unfold maxLen;decide))
        go_wp2_with (first
         | (at_builtin;refine zaF TNd rfl (by decide) rfl (.tmp 46) (.tmp 52) rfl rfl rfl HA6.out.1 HA6.out.2.1 HA6.out.2.2 (by simp;unfold maxLen;omega) (by simp;omega) (Nat.le_trans HSK.out (zaa (x:=.cells #[.int .u8 44,.int .i64 0,.string ⟨#[103]⟩,.slice (some ⟨w5.heap.size,0,none⟩) 1 1] 34) HW6.out).size) ?_;intro a7 c7 w7 h7 hg7 hn7;have HI7:=Lib.hid (zfV HIK.out HPBK.out HBK.out HSK.out (zaa HW6.out) hg7 h7);clear h7 hg7 hn7)
         | (go_at_call 62;refine (zdO _ _).mono ?_;rintro e w5 ⟨rfl,hb5⟩;have HW5:Hid (Below wr.heap.size wr w5):=Lib.hid (by (repeat (with_reducible first|exact Below.refl _ _|refine zab ?_|refine zaa ?_|(apply zac;focus assumption)))))
         | (go_at_call 61;refine (zdj 44 ⟨#[103]⟩ _ _ _ _).mono ?_;rintro e w6 ⟨rfl,hb6⟩;have HW6:Hid (Below wr.heap.size wr w6):=Lib.hid (by (repeat (with_reducible first|exact Below.refl _ _|refine zab ?_|refine zaa ?_|(apply zac;focus assumption))));have HA6:=Lib.hid (zhl HIK.out HW6.out HSK.out (HNV.out _ _ HW5.out hb6))))
        go_roundw
        case rel=>exact ⟨k+1,by omega,by go_num,by rw [HNX.out,HSP.out];exact HI7.out⟩
        case measure=>simp [intOf];omega
    · obtain rfl:k=g.temps.length:=by omega
      have hlt':¬ (g.temps.length:Int) < (g.temps.length:Int):=by omega
      obtain ⟨w5x,hw5x⟩:∃ w5x,w5x=wr:=⟨_,rfl⟩
      subst hw5x
      obtain ⟨LL,hLL⟩:∃ LL,LL=L0 ++ (g.temps.take g.temps.length).map spillN:=⟨_,rfl⟩
      rw [← hLL] at HIK hlk ⊢
      have HPK:Hid (procK g kept=localsN g.temps (blockN LL)):=Lib.hid (by unfold procK;rw [hLL,List.take_length,HL0.out])
      clear f0 f1 f2 f3 f4 f5 hI hPBk hBk hSk hLL HI0
      obtain ⟨f0,f1,f2,f3,f4,f5⟩:=cells6 HPBK.out.1
      have hb0:Below w5x.heap.size w5x (w5x.alloc (.cells #[.string ⟨#[103]⟩,.int .u8 3,.int .i64 0] 100)):=zaa (Below.refl _ _)
      have HB0:Hid (Below w.heap.size w (w5x.alloc (.cells #[.string ⟨#[103]⟩,.int .u8 3,.int .i64 0] 100))):=Lib.hid (HBK.out.trans (hb0.mono HBK.out.size))
      have HST:Hid (((w5x.alloc (.cells #[.string ⟨#[103]⟩,.int .u8 3,.int .i64 0] 100))).heap[w5x.heap.size]?=some (.cells #[.string ⟨#[103]⟩,.int .u8 3,.int .i64 0] 100 (0,0))):=Lib.hid (zah _ _)
      have HP0:Hid (PBox g pa ta ba pc tc bc w (w5x.alloc (.cells #[.string ⟨#[103]⟩,.int .u8 3,.int .i64 0] 100))):=Lib.hid (HPBK.out.below hb0)
      have HS0:Hid (w.heap.size+2≤((w5x.alloc (.cells #[.string ⟨#[103]⟩,.int .u8 3,.int .i64 0] 100))).heap.size):=Lib.hid (Nat.le_trans HSK.out hb0.size)
      have HSX:Hid (w5x.heap.size < ((w5x.alloc (.cells #[.string ⟨#[103]⟩,.int .u8 3,.int .i64 0] 100))).heap.size):=Lib.hid (by simp)
      have HI2:Hid (RowsOwn NdE 34 (Up (w.heap.size+2)) (w.heap.size+2) (w5x.alloc (.cells #[.string ⟨#[103]⟩,.int .u8 3,.int .i64 0] 100)) (.slice ja LL.length jc) LL):=Lib.hid (HIK.out.below hb0)
      go_wp2
      generalize (w5x.alloc (.cells #[.string ⟨#[103]⟩,.int .u8 3,.int .i64 0] 100))=W0 at *
      clear hb0 f0 f1 f2 f3 f4 f5
      have HF0:Hid (∀ w1,Near W0 (w.heap.size+1) w1→w1.cell? ⟨w.heap.size,0,none⟩=some (.string g.name)∧w1.cell? ⟨w.heap.size,1,none⟩=some (.slice pa g.params.length pc)∧w1.cell? ⟨w.heap.size,2,none⟩=some (.bool g.list)∧w1.cell? ⟨w.heap.size,3,none⟩=some (.slice ta g.temps.length tc)∧w1.cell? ⟨w.heap.size,4,none⟩=some (.slice ba g.body.length bc)∧w1.cell? ⟨w.heap.size,5,none⟩=some (.string g.result)∧w1.cell? ⟨w5x.heap.size,0,none⟩=some (.string ⟨#[103]⟩)∧w1.cell? ⟨w5x.heap.size,1,none⟩=some (.int .u8 3)∧w1.cell? ⟨w5x.heap.size,2,none⟩=some (.int .i64 0)):=Lib.hid (fun w1 ⟨w2,h1,h2⟩=>by
       have e1:w1.heap[w.heap.size]?=_:=(h2.block w.heap.size (by have:=h1.size;have:=HS0.out;omega) (by omega)).trans (zad h1 HP0.out.1)
       have e2:w1.heap[w5x.heap.size]?=_:=(h2.block w5x.heap.size (by have:=h1.size;have:=HSX.out;omega) (by have:=HSK.out;omega)).trans (zad h1 HST.out)
       obtain ⟨a0,a1,a2,a3,a4,a5⟩:=cells6 e1
       obtain ⟨b0,b1,b2⟩:=cells3 e2
       exact ⟨a0,a1,a2,a3,a4,a5,b0,b1,b2⟩)
      have HC5:Hid (∀ w1,Below W0.heap.size W0 w1→Calls Tryz.prog 45 #[.agg #[.string g.name,.slice pa g.params.length pc,.bool g.list,.slice ta g.temps.length tc,.slice ba g.body.length bc,.string g.result]] w1 (fun e w'=>∃ a c,e=.returned (.slice a (paramsN g).length c)∧RowsOwn DclE 100 Any w1.heap.size w' (.slice a (paramsN g).length c) (paramsN g)∧Below w1.heap.size w1 w')):=Lib.hid (fun w1 h=>zmX g pa ta ba pc tc bc w1 (HP.out.stays (Stays.of_below (HB0.out.trans (h.mono HB0.out.size)))) (by omega))
      have HC6:Hid (∀ w1,Below W0.heap.size W0 w1→Calls Tryz.prog 64 #[.slice ta g.temps.length tc,.agg #[.int .u8 57,.int .i64 0,.string ⟨#[]⟩,.slice ja LL.length jc]] w1 (fun e w'=>∃ ya yn yc,e=.returned (.agg #[.int .u8 57,.int .i64 0,.string ⟨#[]⟩,.slice ya yn yc])∧NdAt (Up (w.heap.size+2)) w' (.agg #[.int .u8 57,.int .i64 0,.string ⟨#[]⟩,.slice ya yn yc]) (procK g kept)∧Below w1.heap.size w1 w')):=Lib.hid (fun w1 h=>
       (zhf g.temps ta tc ja LL.length jc LL (Up (w.heap.size+2)) w1 (HT.out.stays (Stays.of_below (HB0.out.trans (h.mono HB0.out.size)))) (zam (k:=57) (zar.2 ((HI2.out.below h).shut (fun _ a=>a) (fun k e=>(HI2.out.lt e).1) (by unfold maxLen;omega))) (by omega) (Nat.zero_le _)) (by omega)).mono fun e w' ⟨a,n,c,he,hn,hb⟩=>⟨a,n,c,he,by
         rw [HPK.out]
         exact hn.stays ⟨Nat.le_refl _,fun b _ a=>⟨rfl,by rcases a with a|a;exact a;exact Nat.le_trans (Nat.le_trans HS0.out h.size) a⟩⟩,hb⟩)
      have HC8:Hid (∀ w1,Calls Tryz.prog 36 #[.string g.name] w1 (fun e w'=>e=.returned (.string (g.name ++ ⟨#[49]⟩))∧w1=w')):=Lib.hid (fun w1=>zku g.name w1 hn)
      have hpn:(paramsN g).length≤9:=by simp [paramsN];omega
      obtain ⟨LE,hLE⟩:∃ LE,LE=limE (paramsK g).length (procK g kept):=⟨_,rfl⟩
      have HC7:Hid (∀ w1 xa xc ya yn yc,NdAt (Up (w.heap.size+2)) w1 (.agg #[.int .u8 57,.int .i64 0,.string ⟨#[]⟩,.slice ya yn yc]) (procK g kept)→Calls Tryz.prog 63 #[prV (g.name ++ ⟨#[49]⟩) xa ((paramsN g).length+1) xc 57 0 ⟨#[]⟩ ya yn yc] w1 (fun e w'=>e=.returned (.tuple #[if LE=0 then prV (g.name ++ ⟨#[49]⟩) xa ((paramsN g).length+1) xc 57 0 ⟨#[]⟩ ya yn yc else zeroP,.int .i64 LE])∧Below w1.heap.size w1 w')):=Lib.hid (fun w1 xa xc ya yn yc h=>by
       have h1:=finish_K (g.name ++ ⟨#[49]⟩) xa ((paramsN g).length+1) xc 57 0 ⟨#[]⟩ ya yn yc (procK g kept) w1 (h.stays ⟨Nat.le_refl _,fun _ _ _=>⟨rfl,trivial⟩⟩) hsz (by omega)
       rw [← zbo,← hLE,zbo] at h1
       exact h1)
      have HLE:=Lib.hid hLE
      clear hLE
      by_cases hL0:LE=0
      · subst hL0
        simp only [if_true] at HC7
        go_region_held3 (fun w1=>w1.cell? ⟨w.heap.size,0,none⟩=some (.string g.name)∧w1.cell? ⟨w.heap.size,1,none⟩=some (.slice pa g.params.length pc)∧w1.cell? ⟨w.heap.size,2,none⟩=some (.bool g.list)∧w1.cell? ⟨w.heap.size,3,none⟩=some (.slice ta g.temps.length tc)∧w1.cell? ⟨w.heap.size,4,none⟩=some (.slice ba g.body.length bc)∧w1.cell? ⟨w.heap.size,5,none⟩=some (.string g.result)∧w1.cell? ⟨w5x.heap.size,0,none⟩=some (.string ⟨#[103]⟩)∧w1.cell? ⟨w5x.heap.size,1,none⟩=some (.int .u8 3)∧w1.cell? ⟨w5x.heap.size,2,none⟩=some (.int .i64 0)) (with_reducible refine HF0.out _ ?_;focus ((repeat (with_reducible first|refine zdw ?_|refine zej ?_));refine zel (by (repeat (with_reducible first|exact Below.refl _ _|refine zab ?_|refine zaa ?_|(apply zac;focus assumption))));done))
         (first
         | (refine zes TDcl rfl (by decide) (by rfl) (.tmp 60) (.tmp 62) (by rfl) (by rfl) (by rfl) (HO6.out.below (by (repeat (with_reducible first|exact Below.refl _ _|refine zab ?_|refine zaa ?_|(apply zac;focus assumption))))) (zoG (A:=fun b=>b=_) (by (repeat (with_reducible first|(refine zaj ?_;(simp;done))|(refine zaj ?_;rfl)|refine zai ?_|refine zag ?_|(apply zad;focus assumption)))) rfl) (fun b _ e=>⟨trivial,fun e2=>by have h:=HO6.out.lt e2;(try simp only [World.size_alloc,World.size_drew] at h);omega⟩) (by unfold maxLen;simp;omega) (by simp;omega) (by have h:=hb6.size;(try simp only [World.size_alloc,World.size_drew] at h ⊢);omega) ?_;intro a7 c7 w7 h7 hg7 hn7;have hb7:Below W0.heap.size W0 w7:=Below.grown (by (repeat (with_reducible first|exact Below.refl _ _|refine zab ?_|refine zaa ?_|(apply zac;focus assumption)))) hg7 (by have h:=hb6.size;(try simp only [World.size_alloc,World.size_drew] at h ⊢);omega) (fun k e=>by have h:=(HO6.out.lt e).1;(try simp only [World.size_alloc,World.size_drew] at h);omega);have HV7:=Lib.hid (zil (A:=Up (w.heap.size+2)) h7 (fun k h=>by have h1:=HS0.out;(try simp only [World.size_alloc,World.size_drew] at h);unfold Up;omega) (by unfold maxLen;simp;omega));clear h7 hg7 hn7 hb6)
         | (go_simp;first
         | (go_at_call 36;(with_reducible refine (HC8.out _).mono ?_);rintro e w5 ⟨rfl,rfl⟩)
         | (go_at_call 45;(with_reducible refine (HC5.out _ (by (repeat (with_reducible first|exact Below.refl _ _|refine zab ?_|refine zaa ?_|(apply zac;focus assumption))))).mono ?_);rintro e w6 ⟨a6,c6,rfl,hr6,hb6⟩;have HO6:=Lib.hid hr6;clear hr6)
         | (go_at_call 65;(with_reducible refine (zco _ _ _ _).mono ?_);rintro e w8 ⟨rfl,hb8⟩)
         | (go_at_call 64;(with_reducible refine (HC6.out _ (by (repeat (with_reducible first|exact Below.refl _ _|refine zab ?_|refine zaa ?_|(apply zac;focus assumption))))).mono ?_);rintro e w9 ⟨ya,yn,yc,rfl,hn9,hb9⟩;have HN9:=Lib.hid hn9;clear hn9)
         | (go_at_call 63;(with_reducible refine (HC7.out _ _ _ _ _ _ HN9.out).mono ?_);rintro e w10 ⟨rfl,hb10⟩;have HW10:Hid (Below W0.heap.size W0 w10):=Lib.hid (by (repeat (with_reducible first|exact Below.refl _ _|refine zab ?_|refine zaa ?_|(apply zac;focus assumption))));have HZ10:=Lib.hid (zad HW10.out HP0.out.2);obtain ⟨z0,z1,z2,z3,z4,z5⟩:=cells6 HZ10.out;have zf:=unfrozen HZ10.out)
         | fail))
        all_goals
         have hv10:=HV7.out.stays (Stays.of_below ((by (repeat (with_reducible first|exact Below.refl _ _|refine zab ?_|refine zaa ?_|(apply zac;focus assumption)))):Below w7.heap.size w7 w10))
         have hn10:=HN9.out.stays (Stays.of_below ((by (repeat (with_reducible first|exact Below.refl _ _|refine zab ?_|refine zaa ?_|(apply zac;focus assumption)))):Below w9.heap.size w9 w10))
         have HV10:Hid (RowsAt DclE (Up (w.heap.size+2)) w10 (.slice a7 (paramsK g).length c7) (paramsK g)):=Lib.hid (by rw [zbo];exact hv10)
         have HN10:=Lib.hid hn10
         have HBF:=Lib.hid (HB0.out.trans (HW10.out.mono HB0.out.size))
         clear hv10 hn10
         go_wp2
         (try simp only [Exit.inBlock,Exit.then])
         refine bodyPost_ret (zak (P:=Tryz.prog) rfl _ _ (w.heap.size+1) _ _ _ _ _ rfl (set6 HZ10.out _ _ _ _ _ _) rfl Tryz.underlying83 rfl (by kernel_rfl)) rfl ?_
         exact zlu HLE.out.symm HBF.out HV10.out HN10.out _ _ _ _ _ _
      · simp only [if_neg hL0] at HC7
        go_region_held3 (fun w1=>w1.cell? ⟨w.heap.size,0,none⟩=some (.string g.name)∧w1.cell? ⟨w.heap.size,1,none⟩=some (.slice pa g.params.length pc)∧w1.cell? ⟨w.heap.size,2,none⟩=some (.bool g.list)∧w1.cell? ⟨w.heap.size,3,none⟩=some (.slice ta g.temps.length tc)∧w1.cell? ⟨w.heap.size,4,none⟩=some (.slice ba g.body.length bc)∧w1.cell? ⟨w.heap.size,5,none⟩=some (.string g.result)∧w1.cell? ⟨w5x.heap.size,0,none⟩=some (.string ⟨#[103]⟩)∧w1.cell? ⟨w5x.heap.size,1,none⟩=some (.int .u8 3)∧w1.cell? ⟨w5x.heap.size,2,none⟩=some (.int .i64 0)) (with_reducible refine HF0.out _ ?_;focus ((repeat (with_reducible first|refine zdw ?_|refine zej ?_));refine zel (by (repeat (with_reducible first|exact Below.refl _ _|refine zab ?_|refine zaa ?_|(apply zac;focus assumption))));done))
         (first
         | (refine zes TDcl rfl (by decide) (by rfl) (.tmp 60) (.tmp 62) (by rfl) (by rfl) (by rfl) (HO6.out.below (by (repeat (with_reducible first|exact Below.refl _ _|refine zab ?_|refine zaa ?_|(apply zac;focus assumption))))) (zoG (A:=fun b=>b=_) (by (repeat (with_reducible first|(refine zaj ?_;(simp;done))|(refine zaj ?_;rfl)|refine zai ?_|refine zag ?_|(apply zad;focus assumption)))) rfl) (fun b _ e=>⟨trivial,fun e2=>by have h:=HO6.out.lt e2;(try simp only [World.size_alloc,World.size_drew] at h);omega⟩) (by unfold maxLen;simp;omega) (by simp;omega) (by have h:=hb6.size;(try simp only [World.size_alloc,World.size_drew] at h ⊢);omega) ?_;intro a7 c7 w7 h7 hg7 hn7;have hb7:Below W0.heap.size W0 w7:=Below.grown (by (repeat (with_reducible first|exact Below.refl _ _|refine zab ?_|refine zaa ?_|(apply zac;focus assumption)))) hg7 (by have h:=hb6.size;(try simp only [World.size_alloc,World.size_drew] at h ⊢);omega) (fun k e=>by have h:=(HO6.out.lt e).1;(try simp only [World.size_alloc,World.size_drew] at h);omega);have HV7:=Lib.hid (zil (A:=Up (w.heap.size+2)) h7 (fun k h=>by have h1:=HS0.out;(try simp only [World.size_alloc,World.size_drew] at h);unfold Up;omega) (by unfold maxLen;simp;omega));clear h7 hg7 hn7 hb6)
         | (go_simp;first
         | (go_at_call 36;(with_reducible refine (HC8.out _).mono ?_);rintro e w5 ⟨rfl,rfl⟩)
         | (go_at_call 45;(with_reducible refine (HC5.out _ (by (repeat (with_reducible first|exact Below.refl _ _|refine zab ?_|refine zaa ?_|(apply zac;focus assumption))))).mono ?_);rintro e w6 ⟨a6,c6,rfl,hr6,hb6⟩;have HO6:=Lib.hid hr6;clear hr6)
         | (go_at_call 65;(with_reducible refine (zco _ _ _ _).mono ?_);rintro e w8 ⟨rfl,hb8⟩)
         | (go_at_call 64;(with_reducible refine (HC6.out _ (by (repeat (with_reducible first|exact Below.refl _ _|refine zab ?_|refine zaa ?_|(apply zac;focus assumption))))).mono ?_);rintro e w9 ⟨ya,yn,yc,rfl,hn9,hb9⟩;have HN9:=Lib.hid hn9;clear hn9)
         | (go_at_call 63;(with_reducible refine (HC7.out _ _ _ _ _ _ HN9.out).mono ?_);rintro e w10 ⟨rfl,hb10⟩;have HW10:Hid (Below W0.heap.size W0 w10):=Lib.hid (by (repeat (with_reducible first|exact Below.refl _ _|refine zab ?_|refine zaa ?_|(apply zac;focus assumption))));have HZ10:=Lib.hid (zad HW10.out HP0.out.2);obtain ⟨z0,z1,z2,z3,z4,z5⟩:=cells6 HZ10.out;have zf:=unfrozen HZ10.out)
         | fail))
        all_goals
         have hv10:=HV7.out.stays (Stays.of_below ((by (repeat (with_reducible first|exact Below.refl _ _|refine zab ?_|refine zaa ?_|(apply zac;focus assumption)))):Below w7.heap.size w7 w10))
         have hn10:=HN9.out.stays (Stays.of_below ((by (repeat (with_reducible first|exact Below.refl _ _|refine zab ?_|refine zaa ?_|(apply zac;focus assumption)))):Below w9.heap.size w9 w10))
         have HV10:Hid (RowsAt DclE (Up (w.heap.size+2)) w10 (.slice a7 (paramsK g).length c7) (paramsK g)):=Lib.hid (by rw [zbo];exact hv10)
         have HN10:=Lib.hid hn10
         have HBF:=Lib.hid (HB0.out.trans (HW10.out.mono HB0.out.size))
         clear hv10 hn10
         go_wp2
         (try simp only [Exit.inBlock,Exit.then])
         refine bodyPost_ret (zak (P:=Tryz.prog) rfl _ _ (w.heap.size+1) _ _ _ _ _ rfl (set6 HZ10.out _ _ _ _ _ _) rfl Tryz.underlying83 rfl (by kernel_rfl)) rfl ?_
         exact zmw HLE.out hL0 HBF.out HV10.out HN10.out _ _ _ _ _ _
end Go.Proofs.YtpobmoegmdhbpaaGreatDoor
