/- Contracts and plain lemmas (PLawK, PLawK2, LwL, LwLo, LwLc): no statement of the seat is proved here. -/
import Derived.Test.YtpobmoegmdhbpaaGreatDoorXk5
import Derived.Test.YtpobmoegmdhbpaaGreatDoorXl2
import Derived.Test.YtpobmoegmdhbpaaGreatDoorXk3
import Derived.Test.YtpobmoegmdhbpaaGreatDoorXh1
import Derived.Test.YtpobmoegmdhbpaaGreatDoorTie
import Derived.Test.YtpobmoegmdhbpaaGreatDoorCards
import Derived.SizedLaws
import Derived.ChangeArms
import Derived.ProofKit
import Derived.LaidMore
import Derived.LaidLaws
import Derived.Lib.LaidTab
import Derived.SevenTiedAt
import Derived.OpenShut
import Derived.ChangeSame
import Derived.ChangeVars
import Derived.JoinedOf
import Derived.Stop.Joined
import Derived.MakeChecks
set_option linter.unusedSimpArgs false
set_option linter.unusedVariables false
set_option linter.unusedSectionVars false
set_option maxRecDepth 100000
set_option maxHeartbeats 6400000
namespace Go.Proofs.YtpobmoegmdhbpaaGreatDoor
open Go.RowKit
theorem zen (s:ByteArray):(s ++ (⟨#[49]⟩:ByteArray)).data.toList=s.data.toList ++ [49]:=by simp
theorem zoc (s:ByteArray):lowerB (s ++ ⟨#[49]⟩)=false:=by
 unfold lowerB
 rw [zen,List.all_append]
 have:([49]:List UInt8).all (fun c=>decide (97≤c) && decide (c≤122))=false:=by decide
 rw [this,Bool.and_false]
theorem zgO {s:ByteArray} (h:lowerB s=true) (t:ByteArray):s≠t ++ ⟨#[49]⟩:=fun e=>by rw [e,zoc] at h;cases h
theorem znB {s t:ByteArray} (h:s ++ (⟨#[49]⟩:ByteArray)=t ++ ⟨#[49]⟩):s=t:=by
 have h2:=congrArg (fun x:ByteArray=>x.data.toList) h
 simp only [zen] at h2
 have h3:=List.append_cancel_right h2
 exact ByteArray.ext (Array.ext' h3)
theorem zmj {s:ByteArray} (h:nameB s=true):lowerB s=true:=by
 unfold nameB at h
 simp only [Bool.and_eq_true,decide_eq_true_eq,Bool.not_eq_true'] at h
 exact h.2.2.2.1
theorem zkD {s:ByteArray} (h:nameB s=true):s.size≤12:=by
 unfold nameB at h
 simp only [Bool.and_eq_true,decide_eq_true_eq,Bool.not_eq_true'] at h
 exact h.2.1
theorem zoC {s:ByteArray} (h:nameB s=true):NmOk (s ++ ⟨#[49]⟩):=by
 have hs:=zkD h
 have hz:(s ++ (⟨#[49]⟩:ByteArray)).size=s.size+1:=by rw [ByteArray.size_append];rfl
 obtain ⟨n1,n2,n3,n4,_⟩:=zeG h
 have hat:∀ j (hj:j < (s ++ (⟨#[49]⟩:ByteArray)).size),(∃ h2:j < s.size,(s ++ (⟨#[49]⟩:ByteArray))[j]=s[j])∨j=s.size∧(s ++ (⟨#[49]⟩:ByteArray))[j]=49:=fun j hj=>by
  have e:(s ++ (⟨#[49]⟩:ByteArray))[j]=(s ++ (⟨#[49]⟩:ByteArray)).data.toList[j]'(by rw [hz] at hj;simpa using hj):=rfl
  have e2:(s ++ (⟨#[49]⟩:ByteArray)).data.toList[j]'(by rw [hz] at hj;simpa using hj)=(s.data.toList ++ [49])[j]'(by rw [← zen];rw [hz] at hj;simpa using hj):=by simp only [zen]
  rw [e,e2]
  by_cases h2:j < s.size
  · exact .inl ⟨h2,by rw [List.getElem_append_left (by simpa using h2)];rfl⟩
  · have h3:j=s.size:=by omega
    exact .inr ⟨h3,by rw [List.getElem_append_right (by simpa using h2)];simp [h3]⟩
 refine ⟨by omega,by omega,fun h0=>?_,fun j hj=>?_,?_⟩
 · rcases hat 0 h0 with ⟨h2,e⟩|⟨h2,e⟩
   · rw [e];exact n3 h2
   · omega
 · rcases hat j hj with ⟨h2,e⟩|⟨h2,e⟩
   · rw [e];exact n4 j h2
   · rw [e];exact .inr (by decide)
 · have key:∀ k ∈ keywords,lowerB k=true:=by decide
   unfold keyB inB
   rw [List.any_eq_false]
   intro x hx he
   simp only [decide_eq_true_eq] at he
   exact zgO (key x hx) s (by first|exact he|exact he.symm)
theorem zcD {α:Type} {l:List α} {x:α} (h:l.Nodup) (hx:x ∉ l):(l ++ [x]).Nodup:=List.nodup_append.2 ⟨h,by simp,fun a ha b hb e=>by rw [List.mem_singleton.1 hb] at e;exact hx (e ▸ ha)⟩
theorem zfz {lib:List Fn} {kept:List ByteArray} {k:Nat} {ps:List Prc} (h:MixR lib kept k ps):∀ q ∈ ps,∃ i,i < k∧LimP q∧((∃ B,q=cleanP (at' (normL lib) i) B∧(B=procB (at' (normL lib) i)∨B=procC (at' (normL lib) i) kept))∨q=keptP (at' (normL lib) i) kept∧inB kept (at' (normL lib) i).name=true):=by
 induction h with
 | zero=>intro q hq;cases hq
 | clean h hB hl hk ih=>
   intro q hq
   rcases List.mem_append.1 hq with hq|hq
   · obtain ⟨i,hi,r⟩:=ih q hq
     exact ⟨i,by omega,r⟩
   · rw [List.mem_singleton.1 hq]
     exact ⟨_,Nat.lt_succ_self _,hl,.inl ⟨_,rfl,hB⟩⟩
 | both h hB hl hk hl2 ih=>
   intro q hq
   rcases List.mem_append.1 hq with hq|hq
   · rcases List.mem_append.1 hq with hq|hq
     · obtain ⟨i,hi,r⟩:=ih q hq
       exact ⟨i,by omega,r⟩
     · rw [List.mem_singleton.1 hq]
       exact ⟨_,Nat.lt_succ_self _,hl,.inl ⟨_,rfl,hB⟩⟩
   · rw [List.mem_singleton.1 hq]
     exact ⟨_,Nat.lt_succ_self _,hl2,.inr ⟨rfl,hk⟩⟩
theorem znq {lib:List Fn} {kept:List ByteArray} {k:Nat} {ps:List Prc} (h:MixR lib kept k ps):∀ i,i < k→(∃ B,cleanP (at' (normL lib) i) B ∈ ps)∧(inB kept (at' (normL lib) i).name=true→keptP (at' (normL lib) i) kept ∈ ps):=by
 induction h with
 | zero=>intro i hi;omega
 | @clean k ps B h hB hl hk ih=>
   intro i hi
   by_cases e:i=k
   · subst e
     exact ⟨⟨B,by simp⟩,fun h2=>by rw [hk] at h2;cases h2⟩
   · obtain ⟨⟨B2,h1⟩,h2⟩:=ih i (by omega)
     exact ⟨⟨B2,List.mem_append_left _ h1⟩,fun h3=>List.mem_append_left _ (h2 h3)⟩
 | @both k ps B h hB hl hk hl2 ih=>
   intro i hi
   by_cases e:i=k
   · subst e
     exact ⟨⟨B,by simp⟩,fun h2=>by simp⟩
   · obtain ⟨⟨B2,h1⟩,h2⟩:=ih i (by omega)
     exact ⟨⟨B2,List.mem_append_left _ (List.mem_append_left _ h1)⟩,fun h3=>List.mem_append_left _ (List.mem_append_left _ (h2 h3))⟩
theorem zlh {lib:List Fn} {kept:List ByteArray} (hap:∀ a b,a < lib.length→b < lib.length→a≠b→(at' (normL lib) a).name≠(at' (normL lib) b).name) (hlow:∀ i,i < lib.length→lowerB (at' (normL lib) i).name=true) {k:Nat} {ps:List Prc} (h:MixR lib kept k ps) (hk:k≤lib.length):(ps.map Prc.name).Nodup:=by
 have old:∀ {j:Nat} {ps:List Prc},MixR lib kept j ps→j < lib.length→(at' (normL lib) j).name ∉ ps.map Prc.name∧(at' (normL lib) j).name ++ (⟨#[49]⟩:ByteArray) ∉ ps.map Prc.name:=fun {j ps} h hj=>by
  have key:∀ q ∈ ps,∃ i,i < j∧(q.name=(at' (normL lib) i).name∨q.name=(at' (normL lib) i).name ++ (⟨#[49]⟩:ByteArray)):=fun q hq=>by
   obtain ⟨i,hi,_,⟨B,rfl,_⟩|⟨rfl,_⟩⟩:=zfz h q hq
   · exact ⟨i,hi,.inl rfl⟩
   · exact ⟨i,hi,.inr rfl⟩
  refine ⟨fun hm=>?_,fun hm=>?_⟩
  · obtain ⟨q,hq,e⟩:=List.mem_map.1 hm
    obtain ⟨i,hi,e2|e2⟩:=key q hq
    · exact hap i j (by omega) hj (by omega) (e2.symm.trans e)
    · exact zgO (hlow j hj) _ (e.symm.trans e2)
  · obtain ⟨q,hq,e⟩:=List.mem_map.1 hm
    obtain ⟨i,hi,e2|e2⟩:=key q hq
    · exact zgO (hlow i (by omega)) _ (e2.symm.trans e)
    · exact hap i j (by omega) hj (by omega) (znB (e2.symm.trans e))
 induction h with
 | zero=>simp
 | clean h hB hl hb ih=>
   rw [List.map_append]
   exact zcD (ih (by omega)) (old h (by omega)).1
 | both h hB hl hb hl2 ih=>
   rw [List.map_append,List.map_append]
   refine zcD (zcD (ih (by omega)) (old h (by omega)).1) (fun hm=>?_)
   rcases List.mem_append.1 hm with hm|hm
   · exact (old h (by omega)).2 hm
   · exact zgO (hlow _ (by omega)) _ (List.mem_singleton.1 hm).symm
end Go.Proofs.YtpobmoegmdhbpaaGreatDoor
namespace Go.Proofs.YtpobmoegmdhbpaaGreatDoor
open Go.RowKit
theorem znz {lib:List Fn} (h:GreatOk lib) (hv:(validE lib).2=0):FnsOkK lib:=fun k hk=>by
 obtain ⟨g1,g2,g3⟩:=zbg hv hk
 have hb:=h.bod k hk
 have hn:=h.nam k hk
 rw [zbA hk]
 exact ⟨g1.body,by omega,by omega,g1.plen,Nat.le_trans hn (by omega)⟩
theorem ziW {lib:List Fn} (hv:(validE lib).2=0) (a b:Nat) (ha:a < lib.length) (hb:b < lib.length) (hab:a≠b):(at' (normL lib) a).name≠(at' (normL lib) b).name:=by
 rw [zbA ha,zbA hb]
 show (at' lib a).name≠(at' lib b).name
 rcases Nat.lt_or_gt_of_ne hab with h|h
 · exact zeD hv a b h hb
 · exact (zeD hv b a h ha).symm
theorem zgw {lib:List Fn} (hv:(validE lib).2=0) {i:Nat} (hi:i < lib.length):nameB (at' (normL lib) i).name=true:=by
 rw [zbA hi];exact (zaR hv hi).name
theorem zeK {lib:List Fn} {kept:List ByteArray} {ps:List Prc} (h:(validE lib).2=0) (hm:MixR lib kept lib.length ps):((libPrcs ++ ps).map Prc.name).Nodup:=by
 have e:libPrcs.map Prc.name=[lcopyS,lspillS]:=rfl
 rw [List.map_append,e]
 refine List.nodup_append.2 ⟨by simp [lcopyS,lspillS,zay],zlh (ziW h) (fun i hi=>zmj (zgw h hi)) hm (Nat.le_refl _),fun a ha b hb e2=>?_⟩
 subst e2
 obtain ⟨q,hq,rfl⟩:=List.mem_map.1 hb
 have hlo:lowerB q.name=true:=by
  simp only [List.mem_cons,List.not_mem_nil,or_false] at ha
  rcases ha with ha|ha <;> (rw [ha];decide)
 obtain ⟨i,hi,_,⟨B,rfl,_⟩|⟨rfl,_⟩⟩:=zfz hm q hq
 · obtain ⟨_,_,h3,h4,_⟩:=zfc (zgw h hi)
   simp only [List.mem_cons,List.not_mem_nil,or_false] at ha
   rcases ha with ha|ha
   · exact h3 ha
   · exact h4 ha
 · exact zgO hlo _ rfl
theorem kindsK (g:AFn):(paramsK g).map (fun d=>decide (d.kind=3))=g.params.map Par.list ++ [g.list] ++ [true]:=by
 unfold paramsK
 rw [List.map_append,zdX];rfl
theorem zmZ {lib:List Fn} {kept:List ByteArray} {ps:List Prc} (h:(validE lib).2=0) (hm:MixR lib kept lib.length ps) (nm:ByteArray) (hnm:0≤findF lib nm):
 (prcT (libPrcs ++ ps) nm=some ((fnAt lib (findF lib nm)).params.map Par.list ++ [(fnAt lib (findF lib nm)).list])∧(fnAt lib (findF lib nm)).params.length+1≤8)∧
 (inB kept nm=true→prcT (libPrcs ++ ps) (nm ++ ⟨#[49]⟩)=some ((fnAt lib (findF lib nm)).params.map Par.list ++ [(fnAt lib (findF lib nm)).list] ++ [true])∧(fnAt lib (findF lib nm)).params.length+1+1≤8):=by
 rcases zcI lib nm with ⟨k,hk,h1,h2,h3⟩|h0
 · rw [h2]
   obtain ⟨⟨B,hc⟩,hkp⟩:=znq hm k hk
   have hnd:=zeK h hm
   have hlen:(paramsN (normF lib (at' lib k))).length=(at' lib k).params.length+1:=by simp [paramsN,normF]
   have lim:∀ q ∈ ps,q.params.length≤8:=fun q hq=>by
    obtain ⟨i,_,hl,_⟩:=zfz hm q hq
    exact hl.1
   refine ⟨?_,fun hb=>?_⟩
   · have t:=zek hnd (List.mem_append_right _ hc)
     have hl:=lim _ hc
     rw [zbA hk] at t hl
     have e:(cleanP (normF lib (at' lib k)) B).name=nm:=h3
     rw [e] at t
     refine ⟨t.trans ?_,by show (at' lib k).params.length+1≤8;rw [← hlen];exact hl⟩
     show some ((paramsN (normF lib (at' lib k))).map _)=_
     rw [zdX];rfl
   · have hn:(at' (normL lib) k).name=nm:=by rw [zbA hk];exact h3
     have hq:=hkp (by rw [hn];exact hb)
     have t:=zek hnd (List.mem_append_right _ hq)
     have hl:=lim _ hq
     rw [zbA hk] at t hl
     have e:(keptP (normF lib (at' lib k)) kept).name=nm ++ ⟨#[49]⟩:=by show (at' lib k).name ++ _=_;rw [h3]
     rw [e] at t
     refine ⟨t.trans ?_,?_⟩
     · show some ((paramsK (normF lib (at' lib k))).map _)=_
       rw [kindsK];rfl
     · have hl2:(paramsK (normF lib (at' lib k))).length≤8:=hl
       rw [zbo,hlen] at hl2
       exact hl2
 · omega
theorem nm_g:NmOk gS:=zeA (by decide) (by decide) (by decide) (by decide)
theorem zov {lib:List Fn} (h:(validE lib).2=0) {i:Nat} (hi:i < lib.length) (L:List Dcl):visF (normF lib (at' lib i)) L gS=visD L gS:=by
 obtain ⟨hg,_,_⟩:=zbg h hi
 unfold visF
 exact zbN _ _ _ (fun t ht e=>by
  obtain ⟨k,hk,e2⟩:=zcG hg.temps ht
  exact ziK k (e2.symm.trans e))
def KeptFn (lib:List Fn) (kept:List ByteArray) (P:ByteArray→Option (List Bool)):Prop:=∀ nm,0≤findF lib nm→P (keptF kept nm).1=some ((fnAt lib (findF lib nm)).params.map Par.list ++ [(fnAt lib (findF lib nm)).list] ++ (keptF kept nm).2.map (fun _=>true))∧(fnAt lib (findF lib nm)).params.length+1+(keptF kept nm).2.length≤8
theorem zhg {lib:List Fn} {kept:List ByteArray} {ps:List Prc} (h:(validE lib).2=0) (hm:MixR lib kept lib.length ps):KeptFn lib kept (prcT (libPrcs ++ ps)):=fun nm hnm=>by
 obtain ⟨⟨a1,a2⟩,hk⟩:=zmZ h hm nm hnm
 cases hb:inB kept nm with
 | true=>rw [zei hb];exact hk hb
 | false=>rw [zfX hb];exact ⟨by simpa using a1,a2⟩
theorem zkv (kept:List ByteArray) {V:Vis} (hV:V gS=some true) (nm:ByteArray):(keptF kept nm).2=[]∨(keptF kept nm).2=[gS]∧V gS=some true:=by
 cases hb:inB kept nm with
 | true=>rw [zei hb];exact .inr ⟨rfl,hV⟩
 | false=>rw [zfX hb];exact .inl rfl
theorem zjg {lib:List Fn} {kept:List ByteArray} (h:(validE lib).2=0) {i:Nat} (hi:i < lib.length) {P:ByteArray→Option (List Bool)} (hc:P lcopyS=some [true,true]) (hfn:KeptFn lib kept P):BOk P (visD (paramsN (normF lib (at' lib i)))) (procC (normF lib (at' lib i)) kept):=by
 have hne:=zdp h hi
 obtain ⟨hg,_,_⟩:=zbg h hi
 have hg0:visF (normF lib (at' lib i)) (paramsN (normF lib (at' lib i))) gS=none:=by rw [zov h hi];exact zgd (fun d hd=>(hne d hd).2.1)
 have hput:∀ s b,visF (normF lib (at' lib i)) (paramsN (normF lib (at' lib i))) s=some b→((visF (normF lib (at' lib i)) (paramsN (normF lib (at' lib i)))).put gS true) s=some b:=fun s b hs=>by
  unfold Vis.put
  rw [if_neg (fun e=>by rw [e,hg0] at hs;cases hs)];exact hs
 have hgt:((visF (normF lib (at' lib i)) (paramsN (normF lib (at' lib i)))).put gS true) gS=some true:=by unfold Vis.put;rw [if_pos rfl]
 have hE:=zkd h hi (cf:=keptF kept) (zbl h hi) (fun d hd=>hd) (fun d hd=>(hne d hd).1) hc hfn hput (by
  unfold Vis.put
  rw [if_neg (by simp [headS,gS,zay])]
  exact zfY h hi (fun d hd=>(hne d hd).1)) (zkv kept hgt)
 have hb:=zbM hE _ hg.body (zef h hi).1
 unfold procC
 refine zfT h hi (fun d hd=>(hne d hd).2.2) ⟨_,rfl,fun s hs=>?_⟩
 rw [List.mem_singleton.1 hs]
 refine .locs gS _ nm_g hg0 (fun s hs=>?_)
 unfold cleanIn at hs
 rcases List.mem_append.1 hs with hs|hs
 · rcases List.mem_append.1 hs with hs|hs
   · exact hb s hs
   · rw [List.mem_singleton.1 hs]
     exact zdM h hi hc hE.ty (hput _ _ (zhz h hi (zbl h hi) (fun d hd=>hd)))
 · exact zeX (fun s hs=>zkU (hb s hs)) s hs
theorem zda {lib:List Fn} (h:(validE lib).2=0) {i:Nat} (hi:i < lib.length):DeclsOk (paramsK (normF lib (at' lib i))):=by
 obtain ⟨h1,h2⟩:=zbl h hi
 have hne:=zdp h hi
 refine ⟨fun d hd=>?_,?_⟩
 · rcases List.mem_append.1 hd with hd|hd
   · exact h1 d hd
   · rw [List.mem_singleton.1 hd]
     exact ⟨nm_g,by simp⟩
 · show ((paramsN _ ++ [_]).map Dcl.name).Nodup
   rw [List.map_append]
   refine zcD h2 (fun hm=>?_)
   obtain ⟨d,hd,e⟩:=List.mem_map.1 hm
   exact (hne d hd).2.1 e
theorem zjZ {lib:List Fn} {kept:List ByteArray} (h:(validE lib).2=0) {i:Nat} (hi:i < lib.length) {P:ByteArray→Option (List Bool)} (hc:P lcopyS=some [true,true]) (hsp:P lspillS=some [true,true]) (hfn:KeptFn lib kept P):BOk P (visD (paramsK (normF lib (at' lib i)))) (procK (normF lib (at' lib i)) kept):=by
 have hD:=zda h hi
 have hne:=zdp h hi
 obtain ⟨hg,_,_⟩:=zbg h hi
 have hsub:∀ d ∈ paramsN (normF lib (at' lib i)),d ∈ paramsK (normF lib (at' lib i)):=fun d hd=>List.mem_append_left _ hd
 have hhd:∀ d ∈ paramsK (normF lib (at' lib i)),d.name≠headS:=fun d hd=>by
  rcases List.mem_append.1 hd with hd|hd
  · exact (hne d hd).1
  · rw [List.mem_singleton.1 hd];show gS≠headS;simp [headS,gS,zay]
 have hgm:(⟨gS,3⟩:Dcl) ∈ paramsK (normF lib (at' lib i)):=List.mem_append_right _ (List.mem_singleton.2 rfl)
 have hgt:visF (normF lib (at' lib i)) (paramsK (normF lib (at' lib i))) gS=some true:=by rw [zov h hi];exact hD.look hgm
 have hE:=zkd h hi (cf:=keptF kept) hD hsub hhd hc hfn (fun s b hs=>hs) (zfY h hi hhd) (zkv kept hgt)
 have hb:=zbM hE _ hg.body (zef h hi).1
 unfold procK
 refine zfT h hi (fun d hd k=>?_) ⟨_,rfl,fun s hs=>?_⟩
 · rcases List.mem_append.1 hd with hd|hd
   · exact (hne d hd).2.2 k
   · rw [List.mem_singleton.1 hd];exact (ziK k).symm
 · rcases List.mem_append.1 hs with hs|hs
   · rcases List.mem_append.1 hs with hs|hs
     · exact hb s hs
     · rw [List.mem_singleton.1 hs]
       exact zdM h hi hc hE.ty (zhz h hi hD hsub)
   · obtain ⟨t,ht,rfl⟩:=List.mem_map.1 hs
     obtain ⟨j,hj,rfl⟩:=List.getElem_of_mem ht
     rw [← zax hj]
     have hty:=hE.ty (tname j) (at' (normF lib (at' lib i)).temps j).list (.inr ⟨j,Nat.zero_le _,hj,rfl,rfl⟩)
     have hnj:=hg.temps j hj
     rw [← hnj] at hty
     have hng:(at' (normF lib (at' lib i)).temps j).name≠gS:=by rw [hnj];exact ziK j
     unfold spillN
     cases hl:(at' (normF lib (at' lib i)).temps j).list with
     | true=>
       rw [hl] at hty
       rw [if_pos rfl]
       exact .call 50 lspillS [_,gS] [true,true] (.inl rfl) hsp rfl (by simp) (fun i hi=>by
        match i,hi with
        | 0,_=>exact hty
        | 1,_=>exact hgt) (by simp [hng])
     | false=>
       rw [hl] at hty
       rw [if_neg (by simp)]
       exact .stk 44 gS _ (.inl rfl) hgt hty
theorem zmv {lib:List Fn} {kept:List ByteArray} {ps:List Prc} (h:(validE lib).2=0) (h8:lib.length≤8) (hm:MixR lib kept lib.length ps):ProgOk ⟨[],libPrcs ++ ps,blockN []⟩:=by
 have hnd:=zeK h hm
 have hlen:∀ {k:Nat} {ps:List Prc},MixR lib kept k ps→ps.length≤2 * k:=fun {k ps} h=>by
  induction h with
  | zero=>simp
  | clean h _ _ _ ih=>simp;omega
  | both h _ _ _ _ ih=>simp;omega
 have hl:=hlen hm
 have hc:prcT (libPrcs ++ ps) lcopyS=some [true,true]:=zek hnd (q:=copyPrc) (List.mem_append_left _ (by simp [libPrcs]))
 have hsp:prcT (libPrcs ++ ps) lspillS=some [true,true]:=zek hnd (q:=spillPrc) (List.mem_append_left _ (by simp [libPrcs]))
 refine zno (by simp) (by show (libPrcs ++ ps).length≤64;simp [libPrcs];omega) ⟨(fun d hd=>nomatch hd),List.nodup_nil⟩ hnd (fun q hq=>?_) ⟨[],rfl,(fun s hs=>nomatch hs)⟩ ?_ ?_
 · rcases List.mem_append.1 hq with hq|hq
   · exact zlV _ q hq
   · obtain ⟨i,hi,⟨l1,l2,l3⟩,⟨B,rfl,hB⟩|⟨rfl,hb⟩⟩:=zfz hm q hq
     · rw [zbA hi] at l1 l2 l3 hB ⊢
       refine ⟨zeG (zaR h hi).name,l1,zbl h hi,l2,l3,?_⟩
       rcases hB with rfl|rfl
       · exact zkh h hi hc (fun nm hnm=>(zmZ h hm nm hnm).1)
       · exact zjg h hi hc (zhg h hm)
     · rw [zbA hi] at l1 l2 l3 ⊢
       exact ⟨zoC (zaR h hi).name,l1,zda h hi,l2,l3,zjZ h hi hc hsp (zhg h hm)⟩
 · show depthN (blockN [])≤80
   rw [blockN,nodeN,depthN,depthL];omega
 · show sizeN (blockN [])≤2000
   rw [blockN,zaO,sizeL];omega
end Go.Proofs.YtpobmoegmdhbpaaGreatDoor
namespace Go.Proofs.YtpobmoegmdhbpaaGreatDoor
open Go.RowKit
theorem walk_keepgenAccepted (w:World) (ht:Tab w) (lv:Value) (lib:List Fn) (hl:FnsAt Any w lv lib) (kv:Value) (kept:List ByteArray) (hkt:StrsAt Any w kv kept) (hks:∀ s ∈ kept,s.size≤140737488355328):
 Calls Tryz.prog 3 #[lv,kv] w fun e w'=>e=.returned (.bool true)∧Below w.heap.size w w':=by
 obtain ⟨hll,la,lc,rfl⟩:=hl.form
 obtain ⟨hkl,ka,kc,rfl⟩:=hkt.form
 have HAW:=Lib.hid (zhu w ht)
 have HNM:Hid (∀ w1,Below w.heap.size w w1→Calls Tryz.prog 11 #[.slice la lib.length lc] w1 (Normal41 lib w1)):=Lib.hid (fun w1 h=>normal41_any _ lib Any w1 (hl.stays (Stays.of_below h)) (ht.below h))
 have HKT:=Lib.hid hkt
 clear hl hkt ht
 go_enter Tryz.func3,Tryz.ntmps3
 go_wp2_with fail
 refine HAW.out.mono ?_
 rintro e w1 ⟨rfl,hb1⟩
 have HN1:=Lib.hid (HNM.out w1 hb1)
 have HB1:=Lib.hid hb1
 clear hb1
 go_wp2_with fail
 refine HN1.out.mono ?_
 rintro e w2 ⟨hb2,⟨xa,xn,xc,rfl⟩|⟨xa,xc,rfl,⟨hgr,hv0⟩,hafn⟩⟩
 · have HB2:=Lib.hid (HB1.out.trans (hb2.mono HB1.out.size))
   clear hb2
   go_wp2
   go_ret
   exact ⟨rfl,HB2.out⟩
 · have HB2:=Lib.hid (HB1.out.trans (hb2.mono HB1.out.size))
   have hnl:(normL lib).length=lib.length:=by simp [normL]
   have hlen:=hgr.len
   have HMX:=Lib.hid (znp lib kept (znz hgr hv0) (by omega) xa ka xc kc w2 (by rw [← hnl];exact hafn) (HKT.out.stays (Stays.of_below HB2.out)) hks)
   rw [hnl]
   have HV0:=Lib.hid hv0
   have HLN:=Lib.hid hlen
   clear hb2 hafn hgr hv0 hnl hlen
   by_cases h10:10 < kept.length
   · have d10:decide ((10:Int) < (kept.length:Int))=true:=by simp;omega
     clear h10
     go_wp2
     go_ret
     exact ⟨rfl,HB2.out⟩
   · have d10:decide ((10:Int) < (kept.length:Int))=false:=by simp;omega
     clear h10
     go_wp2_with fail
     refine HMX.out.mono ?_
     rintro e w3 ⟨hb3,a,n,c,b,rfl,hp⟩
     have HB3:=Lib.hid (HB2.out.trans (hb3.mono HB2.out.size))
     cases b with
     | false=>
       clear hb3 hp
       go_wp2
       go_ret
       exact ⟨rfl,HB3.out⟩
     | true=>
       obtain ⟨ps,hm,hn,hr⟩:=hp rfl
       obtain ⟨Q,hQ⟩:∃ Q,Q=libPrcs ++ ps:=⟨_,rfl⟩
       have hpo:=zmv HV0.out (by have:=HLN.out;omega) hm
       rw [← hQ] at hn hr hpo
       subst hn
       have HCK:Hid (Calls Tryz.prog 13 #[.agg #[.slice none 0 0,.slice a Q.length c,.int .u8 57,.int .i64 0,.string ⟨#[]⟩,.slice none 0 0]] w3 (TruB w3)):=Lib.hid (zjG ⟨[],Q,blockN []⟩ hpo none 0 a c none 0 w3 ⟨RowsAt.nil _ _ _,hr,zam (k:=57) (s:=⟨#[]⟩) (KidsAt.nil w3) (by omega) (Nat.zero_le _)⟩)
       clear hb3 hp hm hr hpo hQ
       go_wp2_with fail
       refine HCK.out.mono ?_
       rintro e w4 ⟨rfl,hb4⟩
       have HB4:=Lib.hid (HB3.out.trans (hb4.mono HB3.out.size))
       clear hb4
       go_wp2
       go_ret
       exact ⟨rfl,HB4.out⟩
end Go.Proofs.YtpobmoegmdhbpaaGreatDoor
namespace Go.Proofs.YtpobmoegmdhbpaaGreatDoor
open Go.ChangeShapes Go.WideShapes Go.ChangeAt Go.RowKit
theorem zcO {H:Type} {P:Program} {e:TypeId} {d:DataW H} {n:Nat} (hn:n ∈ d.weights P e):∀ l:List (DataW H),d ∈ l→n ∈ DataW.weightsAll P e l
 | [],h=>by simp at h
 | x :: r,h=>by
   simp only [DataW.weightsAll,List.mem_append]
   rcases List.mem_cons.1 h with rfl|h
   · exact .inl hn
   · exact .inr (zcO hn r h)
section
variable {H:Type} {enc:TypeId × Value→H} {W:World} {spare:Nat→Bool} {held:Bool}
theorem openStrsW {fuel:Nat} {cs:List Value} {x:DataW H × List MemPlace} (h:DataW.trod enc Tryz.prog W 0 spare held fuel 23 cs=some x) (hw:∀ n ∈ x.1.weights Tryz.prog 23,n≤reachBytes):∃ v l,cs=[v]∧StrsAt Any W v l∧∀ s ∈ l,s.size≤140737488355328:=by
 obtain ⟨v,l,rfl,hs⟩:=openStrs h
 refine ⟨v,l,rfl,hs,fun s hm=>?_⟩
 obtain ⟨j,hj,rfl⟩:=List.getElem_of_mem hm
 obtain ⟨csF,hrow,hf⟩:=hs
 obtain ⟨b,off,cap,rfl,hb,hcap,_,hcell⟩:=hrow.at hj
 have h0:=hcell 0 (by omega)
 rw [(hf j hj).1] at h0
 rcases DataW.trod_slice Tryz.underlying23 h with ⟨e1,_⟩|⟨a,len,cap,elems,rest,n,rfl,e1,rfl,_,hlc,hl,hlen,hel,_,_⟩
 · simp at e1
 · simp only [List.cons.injEq,Value.slice.injEq,Option.some.injEq,and_true] at e1
   obtain ⟨rfl,rfl,rfl⟩:=e1
   have key:=hel j hj
   rw [show Tryz.prog.cellsOf 9=1 by kernel_rfl,List.getElem?_eq_getElem (by omega)] at key
   obtain ⟨cs',h1,h2⟩:=Option.bind_eq_some_iff.1 key
   obtain ⟨s',rfl,he,_⟩:=DataW.trod_string Tryz.underlying9 h2
   obtain ⟨_,hlen',hc⟩:=World.cells?_some h1
   have hc0:=hc 0 (by omega)
   have e3:s'=at' l j:=by
    have e4:W.cell? ⟨b,off+j * 1+0,none⟩=some (.string s'):=by
     have:=hc0
     simp only [Go.WideShapes.add_plain] at this
     exact this
    rw [e4] at h0
    simpa using h0
   have hmem:s'.data.toList.length ∈ (DataW.slice (elems.map (·.1)) (rest.map (·.1))).weights Tryz.prog 23:=by
    unfold DataW.weights
    rw [show Tryz.prog.underlying 23=some (.slice 9) from Tryz.underlying23]
    simp only [List.mem_cons,List.mem_append]
    refine .inr (.inl (zcO (d:=.lit (.string s'.data.toList)) (by simp [DataW.weights]) _ ?_))
    refine List.mem_map.2 ⟨elems[j]'(by omega),List.getElem_mem _,by rw [he]⟩
   have:=hw _ hmem
   have e5:l[j]=s':=by rw [e3,zax hj]
   rw [e5]
   have e6:s'.size=s'.data.toList.length:=by rw [Array.length_toList];rfl
   rw [e6]
   unfold reachBytes at this
   omega
end
end Go.Proofs.YtpobmoegmdhbpaaGreatDoor
namespace Go.Proofs.YtpobmoegmdhbpaaGreatDoor
open Go.ChangeShapes Go.WideShapes Go.ChangeAt Go.WideMaps Go.WideElems Go.RowKit
abbrev laid_keepgenAccepted:List (String × DataW Unit):=[("math/bits.deBruijn32tab",Rows.laid_math_bits_deBruijn32tab),("math/bits.deBruijn64tab",Rows.laid_math_bits_deBruijn64tab),("internal/strconv.uint64pow10",Rows.laid_internal_strconv_uint64pow10)]
theorem gPow:Tryz.prog.globalNamed "internal/strconv.uint64pow10"=some 0:=by kernel_rfl
theorem zml (os:Os) (args:Array Value):laidMetH Tryz.prog laid_keepgenAccepted ((World.doorLaid Tryz.prog 24 os).forCall (fun _ _=>0) ⟨#[],args,[]⟩).memory:=
 laidMetH_of_parts3 (fuel:=8) (laidMet_of_run' 8 (by kernel_rfl) (by kernel_rfl)) (by kernel_rfl) (by kernel_rfl)
theorem zhm {W:World} (h:laidMetH Tryz.prog laid_keepgenAccepted W):Tab W:=by
 rw [MakeChecks.laidMetH_plain _ _ _ (by kernel_rfl)] at h
 obtain ⟨ps,⟨g0,t0,cs0,f0,p0,q0,hg0,ht0,hv0,hd0,⟨g1,t1,cs1,f1,p1,q1,hg1,ht1,hv1,hd1,⟨g2,t2,cs2,f2,p2,q2,hg2,ht2,hv2,hd2,_,_⟩,_⟩,_⟩,_,_⟩:=h
 obtain rfl:=Option.some.inj (gPow.symm.trans hg2)
 obtain rfl:=Option.some.inj ((show (Tryz.prog.globals[0]?).map (·.type)=some 307 by kernel_rfl).symm.trans ht2)
 unfold Tab Lib.TabIs
 rw [hv2,← Lib.cells_of_tab (k:=.u64) (zs:=Lib.pow10Tab) Tryz.underlying307 Tryz.underlying288 (by kernel_rfl) (by kernel_rfl) hd2]
theorem lifted_keepgenAccepted (os:Os) (started:os.Started) (H:Type) (enc:TypeId × Value→H):
 ReturnsInHanded {} Tryz.checked os 3 .any (fun w args=>(Rows.keepgenAcceptedSpec.pre enc Tryz.prog Tryz.f3 [] false w args∧laidMetH Tryz.prog laid_keepgenAccepted w)∧sizedMet enc Tryz.prog Tryz.f3 (OpenSpec.ofChange Rows.keepgenAcceptedSpec) false w args)
  (Rows.keepgenAcceptedSpec.post enc Tryz.prog Tryz.f3 false true false false):=by
 refine returnsInHanded_of_change_and (C:=Tryz.checked) (X:=fun w _=>laidMetH Tryz.prog laid_keepgenAccepted w) (fun _ _ _ hh h=>h.of_heap hh) own started (by kernel_rfl) Tryz.func3
  (ChangeSpec.witness_shaped (enc:=enc) (C:=Tryz.checked) (os:=os) (X:=fun w _=>laidMetH Tryz.prog laid_keepgenAccepted w) false (World.doorLaid Tryz.prog 24 os) #[.slice none 0 0,.slice none 0 0] 8 rfl (World.shaped_of_RefB (by kernel_rfl) (by kernel_rfl)) (by kernel_rfl) (by kernel_rfl) (by kernel_rfl) (zml os _)) ?_
 intro W base args ds gs before hval0 hW hcnd hsz0 hL _
 have hval:∀ (j:Nat) t v,Tryz.f3.params[j]?=some t→args[j]?=some v→Value.okWide Tryz.prog W .any base t v:=hval0
 have HT:=zhm hL
 have hW':=hW
 obtain ⟨p,q,hA0,hV,rfl,hfz,hnd⟩:=hW
 have hA:DataW.TrodAll enc Tryz.prog W 0 (fun _=>true) true Tryz.f3.params.toList args.toList ds p:=hA0
 rw [Tryz.params3] at hA hval
 obtain ⟨v0,vs0,d0,ds0,p0,q0,hargs,rfl,rfl,h0,r0⟩:=trodAll_cons hA
 obtain ⟨v1,vs1,d1,ds1,p1,q1,rfl,rfl,rfl,h1,r1⟩:=trodAll_cons r0
 obtain ⟨rfl,rfl,rfl⟩:=trodAll_nil r1
 obtain rfl:args=#[v0,v1]:=by cases args;simp_all
 obtain ⟨rfl,rfl⟩:=trodVars_none hV
 have k0:=h0
 have lt0:∀ x ∈ p0,x.block < W.heap.size:=by obtain ⟨m,hm⟩:=k0;exact DataW.trod_lt m _ _ _ hm
 obtain ⟨l0,i0⟩:∃ l,FnsAt Any W v0 l:=by
  obtain ⟨a,len,cap,rfl⟩:=okWide_slice Tryz.underlying22 (hval 0 22 v0 rfl rfl)
  obtain ⟨m,hm⟩:=h0
  obtain ⟨v,l,e,hl⟩:=openFns hm
  have e2:Value.slice a len cap=v:=by simpa [Value.cells] using e
  rw [e2]
  exact ⟨l,hl⟩
 have k1:=h1
 have lt1:∀ x ∈ p1,x.block < W.heap.size:=by obtain ⟨m,hm⟩:=k1;exact DataW.trod_lt m _ _ _ hm
 have wt1:∀ n ∈ d1.weights Tryz.prog 23,n≤reachBytes:=fun n hn=>by
  have:=List.all_eq_true.1 hsz0 _ (DataW.weights_mem_each (j:=1) (t:=23) (d:=d1) rfl rfl n hn)
  simpa using this
 obtain ⟨l1,i1,z1⟩:∃ l,StrsAt Any W v1 l∧∀ s ∈ l,s.size≤140737488355328:=by
  obtain ⟨a,len,cap,rfl⟩:=okWide_slice Tryz.underlying23 (hval 1 23 v1 rfl rfl)
  obtain ⟨m,hm⟩:=h1
  obtain ⟨v,l,e,hl,hz⟩:=openStrsW hm wt1
  have e2:Value.slice a len cap=v:=by simpa [Value.cells] using e
  rw [e2]
  exact ⟨l,hl,hz⟩
 clear hA0 hval0
 refine (walk_keepgenAccepted W HT v0 l0 i0 v1 l1 i1 z1).mono fun e W' ⟨he,bel⟩=>?_
 subst he
 exact ⟨_,rfl,_,_,_,[],_,[],hW',trodAll_mk1 (shut_bool Tryz.underlying4 _),(trodAll_cons_mk (Below.trod laidOut (by kernel_rfl) (of_decide_eq_true (by kernel_rfl)) k0 bel lt0) (trodAll_cons_mk (Below.trod laidOut (by kernel_rfl) (of_decide_eq_true (by kernel_rfl)) k1 bel lt1) trodAll_mk0)),rfl,bel.frame _,fun h=>by cases h⟩
theorem said_keepgenAccepted:Rows.KeepgenAcceptedSaid:=
 OpenClaim.holds_of_wide 3 Tryz.f3 rfl rfl rfl rfl rfl rfl rfl ⟨rfl,rfl,rfl,rfl,rfl⟩ rfl rfl rfl rfl rfl (by kernel_rfl) Tryz.func3 (by kernel_rfl)
  (of_decide_eq_true (by kernel_rfl)) (by unfold Func.isWrapper;first|(rw [if_pos (by decide +kernel)];kernel_rfl)|(rw [if_neg (by decide +kernel)];exact ⟨rfl,rfl⟩))
  (fun os started H enc _=>lifted_keepgenAccepted os started H enc)
theorem proved_keepgenAccepted:Rows.KeepgenAcceptedCardSaid:=
 Claim7.holds_tied_plain_at .later [] [.data,.data,.data] true (Rows.keepgenAcceptedCard.stood.harness) (Rows.keepgenAcceptedCard.stood.looks)
  said_keepgenAccepted (fun _ h=>by cases h) (by kernel_rfl) (fun _ h=>by cases h) keepgenAccepted_row_tie rfl ⟨rfl,rfl⟩ (by kernel_rfl) rfl
  (fun f fn hf hfn=>by
    obtain rfl:f=3:=Option.some.inj ((show Tryz.prog.funcNamed "backstep/backsteplaw41.KeepgenAccepted"=some 3 by kernel_rfl).symm.trans hf) |>.symm
    obtain rfl:fn=Tryz.f3:=(Option.some.inj (Tryz.func3.symm.trans hfn)).symm
    exact ⟨by kernel_rfl,fun j t ht=>by
     rw [Tryz.params3] at ht
     have hm:=Array.mem_of_getElem? ht
     have hall:(#[22,23].all fun u=>!Tryz.prog.wantsStandIn u)=true:=by kernel_rfl
     rw [Array.all_eq_true_iff_forall_mem] at hall
     exact (show Tryz.prog.wantsStandIn t=false by simpa using hall t hm)⟩)
  (by kernel_rfl)
#print axioms proved_keepgenAccepted
end Go.Proofs.YtpobmoegmdhbpaaGreatDoor
