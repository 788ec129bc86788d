/- Contracts and plain lemmas (CcS, CgI): no statement of the seat is proved here. -/
import Derived.Test.YtpobmoegmdhbpaaGreatDoorXq07
import Derived.Lib.AppendZerosOnto
import Derived.WalkSpells
/- slices.Grow at nil,slices.Concat at strings. -/
set_option linter.unusedSimpArgs false
set_option linter.unusedVariables false
set_option linter.unusedSectionVars false
set_option maxRecDepth 100000
set_option maxHeartbeats 3200000
namespace Go.Proofs.YtpobmoegmdhbpaaGreatDoor
open Go.RowKit
theorem zop (n:Nat) (w:World) (hn:n≤1000000):
 Calls Tryz.prog 243 #[.slice none 0 0,.int .i64 n] w fun e w'=>∃ a c,e=.returned (.slice a 0 c)∧w'.ownsRow w.heap.size 9 1 (.slice a 0 c) 0 []∧Below w.heap.size w w':=by
 have h1:¬ ((n:Int) < 0):=by omega
 by_cases hp:0 < n
 · obtain ⟨i,hi,hz,hsize,hby⟩:=info_parts TStr.inf
   have hrz:∀ ty,(Builtin.append_ #[23,3] ty #[.slice none 0 0,.int .i64 n]).run Tryz.prog w=_:=fun ty=>
    Lib.run_append_grow_zeros w 23 3 ty 9 i _ .i64 .i64 TStr.und Tryz.underlying3 hi hz none 0 0 [] (run_firstCells_none w.drew i.size 0 0 0) n hp (by omega) (by omega) (by omega) (by rw [hby];omega) (growslice_fits (by omega) (by rw [hby];omega))
   rw [Nat.zero_add] at hrz
   have HG:=grownCap_ge w n 0 9
   have HM:=grownCap_le_maxLen w n 0 9 (by unfold maxLen;omega)
   have hzc:∀ k,(Builtin.zeroCells (.string ByteArray.empty:Value).cells k).size=k * 1:=fun k=>by simp [Builtin.zeroCells,Value.cells]
   have HOWN:Hid ((w.drew.alloc (.cells (([]:List Value).toArray ++ Builtin.zeroCells (.string ByteArray.empty:Value).cells n ++ Builtin.zeroCells (.string ByteArray.empty:Value).cells (grownCap w n 0 9 - n)) 9)).ownsRow w.heap.size 9 1 (.slice (some ⟨w.heap.size,0,none⟩) 0 (grownCap w n 0 9)) 0 []):=Lib.hid
    ⟨rfl,.inr ⟨w.heap.size,_,_,rfl,Nat.le_refl _,heap_alloc_new w.drew _,Nat.zero_le _,HM,by simp only [Array.size_append,hzc];simp;omega,rfl⟩⟩
   generalize (([]:List Value).toArray ++ Builtin.zeroCells (.string ByteArray.empty:Value).cells n ++ Builtin.zeroCells (.string ByteArray.empty:Value).cells (grownCap w n 0 9 - n))=C at *
   generalize grownCap w n 0 9=G at *
   have hG:G≤9223372036854775807:=by unfold maxLen at HM;omega
   have hGn:n≤G:=HG
   have h4:(0:Int) < (n:Int):=by omega
   clear HM HG hzc hi hz hsize hby
   go_enter Tryz.func243,Tryz.ntmps243
   go_wp2_with (at_builtin;refine Lib.wpList_append_run _ rfl _ _ _ _ rfl _ _ rfl rfl _ _ (hrz _) ?_)
   go_ret
   exact ⟨_,_,rfl,HOWN.out,((zal (Below.refl _ _) 1).alloc (Nat.le_refl _) _)⟩
 · obtain rfl:n=0:=by omega
   go_enter Tryz.func243,Tryz.ntmps243
   go_wp2
   go_ret
   exact ⟨_,_,rfl,World.ownsRow_nil _ _ _ _,Below.refl _ _⟩
def catN {α:Type} (ls:Nat→List α):Nat→List α
 | 0=>[]
 | k+1=>catN ls k ++ ls k
theorem zfB {α:Type} {ls:Nat→List α} {n:Nat} (h:∀ j,j < n→(ls j).length≤100000):∀ {k:Nat},k≤n→(catN ls k).length≤100000 * k
 | 0,_=>by simp [catN]
 | k+1,hk=>by
   rw [catN,List.length_append]
   have:=zfB h (k:=k) (by omega)
   have:=h k (by omega)
   omega
theorem zmN (g n:Nat) (vs:Nat→Value) (ls:Nat→List ByteArray) (A:Nat→Prop) (w:World) (hn:n≤10) (hg:g < w.heap.size) (hc:∀ j,j < n→w.cell? ⟨g,j,none⟩=some (vs j)) (hv:∀ j,j < n→RowsAt StrE A w (vs j) (ls j)) (hl:∀ j,j < n→(ls j).length≤100000):
 Calls Tryz.prog 211 #[.slice (some ⟨g,0,none⟩) n n] w fun e w'=>∃ a c,e=.returned (.slice a (catN ls n).length c)∧RowsAt StrE (NewB A w) w' (.slice a (catN ls n).length c) (catN ls n)∧Below w.heap.size w w':=by
 have HC:=Lib.hid hc
 have HV:=Lib.hid hv
 have HLB:=Lib.hid hl
 have HCL:Hid (∀ k,k≤n→(catN ls k).length≤100000 * k):=Lib.hid (fun k hk=>zfB hl hk)
 clear hc hv hl
 go_enter Tryz.func211,Tryz.ntmps211
 go_wp2
 go_loop [3,11] (fun s i=>∃ k:Nat,i=.int .i64 k∧k≤n∧s=.int .i64 (catN ls k).length) (fun _ i=>n - (intOf i).toNat)
 case atStart=>exact ⟨0,rfl,Nat.zero_le _,rfl⟩
 case round=>
  obtain ⟨k,rfl,hk,rfl⟩:=hrel
  have hck:=HCL.out k hk
  by_cases hlt:k < n
  · have c0:=HC.out k hlt
    obtain ⟨_,sa,sc,hs⟩:=(HV.out k hlt).form
    have hlk:=HLB.out k hlt
    rw [hs] at c0
    have HCS:Hid ((catN ls (k+1)).length=(catN ls k).length+(ls k).length):=Lib.hid (by rw [catN,List.length_append])
    clear hs
    go_wp2
    go_round
    case rel=>exact ⟨k+1,by go_num,by omega,by rw [HCS.out];go_num⟩
    case measure=>simp [intOf];omega
  · obtain rfl:k=n:=by omega
    have hlt':¬ (k:Int) < (k:Int):=by omega
    have hck2:(catN ls k).length≤1000000:=by omega
    have HGR:=Lib.hid (zop (catN ls k).length w hck2)
    go_wp2_with (go_at_call 243;refine HGR.out.mono ?_;rintro e w1 ⟨ga,gc,rfl,hown1,hb1⟩;have HO1:=Lib.hid hown1;clear hown1)
    go_loopw [27,6] (fun i v wr=>∃ q:Nat,i=.int .i64 q∧q≤k∧Below w.heap.size w wr∧RowsOwn StrE 9 (fun j=>A j∧j < w.heap.size) w.heap.size wr v (catN ls q)) (fun i _ _=>k - (intOf i).toNat)
    case atStart=>exact ⟨0,rfl,Nat.zero_le _,hb1,⟨[],HO1.out,fun j hj=>by simp [catN] at hj⟩⟩
    case round=>
     obtain ⟨q,rfl,hq,hbl,hown⟩:=hrel
     obtain ⟨va,vc,rfl⟩:=hown.form
     have HOWN:=Lib.hid hown
     have hqk:=HCL.out q hq
     clear hown
     by_cases hlt2:q < k
     · have c0:=(hbl.cell (p:=⟨g,q,none⟩) hg).trans (HC.out q hlt2)
       have hrow:=(HV.out q hlt2)
       obtain ⟨_,sa,sc,hs⟩:=hrow.form
       have hlq:=HLB.out q hlt2
       have HCS:Hid (catN ls (q+1)=catN ls q ++ ls q):=Lib.hid (by rw [catN])
       have HR:Hid (RowsAt StrE (fun j=>A j∧j < w.heap.size) wr (vs q) (ls q)):=Lib.hid (hrow.stays ⟨hbl.size,fun b hb a=>⟨hbl.block b hb,a,hb⟩⟩)
       rw [hs] at c0 HR
       have HD:Hid (∀ b,b < wr.heap.size→(A b∧b < w.heap.size)→(A b∧b < w.heap.size)∧(Value.slice va (catN ls q).length vc).ownBlock≠some b):=Lib.hid (fun b _ a=>⟨a,fun e=>by have:=(HOWN.out.lt e).1;omega⟩)
       clear hs hrow
       go_wp2_with (at_builtin;refine zaF TStr rfl (by decide) rfl (.tmp 31) (.tmp 32) rfl rfl rfl HOWN.out HR.out HD.out (by unfold maxLen;omega) (by omega) hbl.size ?_;intro a' c' w3 h3 hg3 hn3;have H3:=Lib.hid h3;have HG3:Hid (World.grownBy _ w3 (Value.slice va (catN ls q).length vc).ownBlock):=Lib.hid hg3;clear h3 hg3 hn3)
       go_roundw
       case rel=>exact ⟨q+1,by go_num,by omega,hbl.grown HG3.out hbl.size (fun j e=>(HOWN.out.lt e).1),by rw [HCS.out];exact H3.out⟩
       case measure=>simp [intOf];omega
     · obtain rfl:q=k:=by omega
       have hlt2':¬ (q:Int) < (q:Int):=by omega
       go_wp2
       go_ret
       exact ⟨_,_,rfl,HOWN.out.shut (fun j a=>.inl a.1) (fun j e=>.inr (HOWN.out.lt e).1) (by unfold maxLen;omega),hbl⟩
theorem zkn (g:Nat) (v0 v1 v2:Value) (l0 l1 l2:List ByteArray) (A:Nat→Prop) (w:World) (hg:w.heap[g]?=some (.cells #[v0,v1,v2] 23 (0,0))) (h0:RowsAt StrE A w v0 l0) (h1:RowsAt StrE A w v1 l1) (h2:RowsAt StrE A w v2 l2) (k0:l0.length≤100000) (k1:l1.length≤100000) (k2:l2.length≤100000):
 Calls Tryz.prog 211 #[.slice (some ⟨g,0,none⟩) 3 3] w fun e w'=>∃ a n c,e=.returned (.slice a n c)∧RowsAt StrE (NewB A w) w' (.slice a n c) (l0 ++ l1 ++ l2)∧Below w.heap.size w w':=by
 have hgl:g < w.heap.size:=by rw [Array.getElem?_eq_some_iff] at hg;exact hg.1
 have hcat:catN (fun j=>[l0,l1,l2].getD j []) 3=l0 ++ l1 ++ l2:=by simp [catN]
 refine (zmN g 3 (fun j=>[v0,v1,v2].getD j undef) (fun j=>[l0,l1,l2].getD j []) A w (by omega) hgl (fun j hj=>?_) (fun j hj=>?_) (fun j hj=>?_)).mono fun e w' h=>?_
 · match j,hj with
   | 0,_=>exact zae hg 0 rfl
   | 1,_=>exact zae hg 1 rfl
   | 2,_=>exact zae hg 2 rfl
 · match j,hj with
   | 0,_=>exact h0
   | 1,_=>exact h1
   | 2,_=>exact h2
 · match j,hj with
   | 0,_=>exact k0
   | 1,_=>exact k1
   | 2,_=>exact k2
 · rw [hcat] at h
   obtain ⟨a,c,he,hr,hb⟩:=h
   exact ⟨a,_,c,he,hr,hb⟩
end Go.Proofs.YtpobmoegmdhbpaaGreatDoor
/- Walks of cleangen.bind. -/
namespace Go.Proofs.YtpobmoegmdhbpaaGreatDoor
open Go.RowKit
theorem znn (fv:Value) (tn nm:ByteArray) (l:Bool) (num:Int) (av ha ea:Option Addr) (ac hn hc en ec:Nat) (args:List ByteArray) (cf:CallF) (thn els:List Bd) (w:World) (hs:StrsAt Any w (.slice av args.length ac) args) (htn:tn.size≤maxLen) (hnum:In64 num) (HT1:Hid (∀ w1,Below w.heap.size w w1→Calls Tryz.prog 106 #[.slice ha hn hc,fv] w1 (StmtsPost (bindsN cf thn) w1))) (HT2:Hid (∀ w1,Below w.heap.size w w1→Calls Tryz.prog 106 #[.slice ea en ec,fv] w1 (StmtsPost (bindsN cf els) w1))):
 Calls Tryz.prog 160 #[.agg #[.string tn,.bool l,.int .u8 83,.int .i64 num,.string nm,.slice av args.length ac,.slice ha hn hc,.slice ea en ec],fv] w (StmtsPost (bindN cf (.mk tn l 83 num nm args thn els)) w):=by
 have hA:Below w.heap.size w (w.alloc (.cells #[.string tn,.bool l,.int .u8 83,.int .i64 num,.string nm,.slice av args.length ac,.slice ha hn hc,.slice ea en ec] 116)):=(Below.refl _ _).alloc (Nat.le_refl _) _
 have hn0:=zah w (.cells #[.string tn,.bool l,.int .u8 83,.int .i64 num,.string nm,.slice av args.length ac,.slice ha hn hc,.slice ea en ec] 116)
 have hws:w.heap.size < (w.alloc (.cells #[.string tn,.bool l,.int .u8 83,.int .i64 num,.string nm,.slice av args.length ac,.slice ha hn hc,.slice ea en ec] 116)).heap.size:=by simp
 have hz0:=zas hs 0
 have hz1:=zas hs 1
 have HS:=Lib.hid hs
 have HN:=Lib.hid hn0
 clear hs hn0
 go_enter Tryz.func160,Tryz.ntmps160
 go_wp2
 generalize (w.alloc (.cells #[.string tn,.bool l,.int .u8 83,.int .i64 num,.string nm,.slice av args.length ac,.slice ha hn hc,.slice ea en ec] 116))=W at *
 go_region_held3 (fun w1=>w1.cell? ⟨w.heap.size,0,none⟩=some (.string tn)∧w1.cell? ⟨w.heap.size,1,none⟩=some (.bool l)∧w1.cell? ⟨w.heap.size,2,none⟩=some (.int .u8 83)∧w1.cell? ⟨w.heap.size,3,none⟩=some (.int .i64 num)∧w1.cell? ⟨w.heap.size,4,none⟩=some (.string nm)∧w1.cell? ⟨w.heap.size,5,none⟩=some (.slice av args.length ac)∧w1.cell? ⟨w.heap.size,6,none⟩=some (.slice ha hn hc)∧w1.cell? ⟨w.heap.size,7,none⟩=some (.slice ea en ec))
  ((refine cellsB (e:=116) ?_;(repeat (with_reducible first|exact HN.out|(refine zaj ?_;(simp;done))|refine zai ?_|refine zag ?_|(apply zad;focus assumption)))))
  (first
  | (go_at_call 208;with_reducible refine (zcA tn nm l 83 num av ha ea ac hn hc en ec args Any _ (HS.out.stays (Stays.of_below (by (repeat (with_reducible first|exact hA|exact Below.refl _ _|refine zab ?_|refine zaa ?_|(apply zac;focus assumption))))))).mono ?_;rintro e w1 ⟨rfl,hb1⟩)
  | (go_at_call 208;with_reducible refine (zcq tn nm l 83 num av ha ea ac hn hc en ec args Any _ (HS.out.stays (Stays.of_below (by (repeat (with_reducible first|exact hA|exact Below.refl _ _|refine zab ?_|refine zaa ?_|(apply zac;focus assumption))))))).mono ?_;rintro e w2 ⟨rfl,hb2⟩))
 have HB2:Hid (w2.heap[w.heap.size]?=some (.cells #[.string tn,.bool l,.int .u8 83,.int .i64 num,.string nm,.slice av args.length ac,.slice ha hn hc,.slice ea en ec] 116)):=Lib.hid (by (repeat (with_reducible first|exact HN.out|(refine zaj ?_;(simp;done))|refine zai ?_|refine zag ?_|(apply zad;focus assumption))))
 obtain ⟨k0,k1,k2,k3,k4,k5,k6,k7⟩:=cellsB HB2.out
 go_wp2
 go_region_held3 (fun w1=>w1.cell? ⟨w.heap.size,0,none⟩=some (.string tn)∧w1.cell? ⟨w.heap.size,1,none⟩=some (.bool l)∧w1.cell? ⟨w.heap.size,2,none⟩=some (.int .u8 83)∧w1.cell? ⟨w.heap.size,3,none⟩=some (.int .i64 num)∧w1.cell? ⟨w.heap.size,4,none⟩=some (.string nm)∧w1.cell? ⟨w.heap.size,5,none⟩=some (.slice av args.length ac)∧w1.cell? ⟨w.heap.size,6,none⟩=some (.slice ha hn hc)∧w1.cell? ⟨w.heap.size,7,none⟩=some (.slice ea en ec))
  ((refine cellsB (e:=116) ?_;(repeat (with_reducible first|exact HN.out|(refine zaj ?_;(simp;done))|refine zai ?_|refine zag ?_|(apply zad;focus assumption)))))
  (first
  | (go_at_call 106;(with_reducible refine (HT1.out _ (by (repeat (with_reducible first|exact hA|exact Below.refl _ _|refine zab ?_|refine zaa ?_|(apply zac;focus assumption))))).mono ?_);rintro e w3 ⟨ya,yn,yc,rfl,hq3,hb3⟩;have hk3:KidsAt (Up w.heap.size) w3 (.slice ya yn yc) (bindsN cf thn):=hq3.stays (zaJ (zeB (by (repeat (with_reducible first|exact hA|exact Below.refl _ _|refine zab ?_|refine zaa ?_|(apply zac;focus assumption)))) (Nat.le_refl _)));clear hq3)
  | (go_at_call 106;(with_reducible refine (HT2.out _ (by (repeat (with_reducible first|exact hA|exact Below.refl _ _|refine zab ?_|refine zaa ?_|(apply zac;focus assumption))))).mono ?_);rintro e w4 ⟨na,nn,nc,rfl,hq4,hb4⟩;have hk4:KidsAt (Up w.heap.size) w4 (.slice na nn nc) (bindsN cf els):=hq4.stays (zaJ (zeB (by (repeat (with_reducible first|exact hA|exact Below.refl _ _|refine zab ?_|refine zaa ?_|(apply zac;focus assumption)))) (Nat.le_refl _)));clear hq4)
)
 all_goals
  have HK3:=Lib.hid hk3
  have HK4:=Lib.hid hk4
  clear hk3 hk4
  go_wp2_with (first
  | (go_at_call 138;refine (zbe _ _).mono ?_;rintro e w5 ⟨rfl,hb5⟩)
  | (go_at_call 86;refine (zcr _ _ _ _).mono ?_;rintro e w8 ⟨rfl,hb8⟩)
  | (go_at_call 136;refine (zbx _ _ _ _ _ _).mono ?_;rintro e w6 ⟨rfl,hb6⟩)
  | (go_at_call 210;refine (zfm _ _ _ _).mono ?_;rintro e w7 ⟨rfl,rfl⟩))
  go_ret
  refine ⟨_,_,_,rfl,(?_:KidsAt (Up w.heap.size) _ _ [nodeN 52 ⟨#[]⟩ [vN (argN args 0),nodeN 57 ⟨#[]⟩ (bindsN cf thn),nodeN 57 ⟨#[]⟩ (bindsN cf els),vN (argN args 0)]]),by (repeat (with_reducible first|exact hA|exact Below.refl _ _|refine zab ?_|refine zaa ?_|(apply zac;focus assumption)))⟩
  exact kidsU1 (by (repeat (with_reducible first|(refine zaE ?_ ?_;rotate_left;(focus (simp;done));(focus ((repeat (with_reducible first|exact hA|exact Below.refl _ _|refine zab ?_|refine zaa ?_|(apply zac;focus assumption)));done)))|refine zav ?_|refine zan ?_|(apply zao;focus assumption)))) (zam (kidsU4 (by (repeat (with_reducible first|(refine zaE ?_ ?_;rotate_left;(focus (simp;done));(focus ((repeat (with_reducible first|exact hA|exact Below.refl _ _|refine zab ?_|refine zaa ?_|(apply zac;focus assumption)));done)))|refine zav ?_|refine zan ?_|(apply zao;focus assumption)))) (nd_v hz0) (zam (HK3.out.stays (zcH (by (repeat (with_reducible first|exact hA|exact Below.refl _ _|refine zab ?_|refine zaa ?_|(apply zac;focus assumption)))))) (by omega) (Nat.zero_le _)) (zam (HK4.out.stays (zcH (by (repeat (with_reducible first|exact hA|exact Below.refl _ _|refine zab ?_|refine zaa ?_|(apply zac;focus assumption)))))) (by omega) (Nat.zero_le _)) (nd_v hz0)) (by omega) (Nat.zero_le _))
theorem zkm (fv:Value) (tn nm:ByteArray) (l:Bool) (num:Int) (av ha ea:Option Addr) (ac hn hc en ec:Nat) (args:List ByteArray) (cf:CallF) (thn els:List Bd) (w:World) (hs:StrsAt Any w (.slice av args.length ac) args) (htn:tn.size≤maxLen) (hnum:In64 num) (hnm:nm.size≤maxLen) (hal:args.length≤100000) (HC:Hid (ClosOk fv cf w)):
 Calls Tryz.prog 160 #[.agg #[.string tn,.bool l,.int .u8 85,.int .i64 num,.string nm,.slice av args.length ac,.slice ha hn hc,.slice ea en ec],fv] w (StmtsPost (bindN cf (.mk tn l 85 num nm args thn els)) w):=by
 have hA:Below w.heap.size w (w.alloc (.cells #[.string tn,.bool l,.int .u8 85,.int .i64 num,.string nm,.slice av args.length ac,.slice ha hn hc,.slice ea en ec] 116)):=(Below.refl _ _).alloc (Nat.le_refl _) _
 have hn0:=zah w (.cells #[.string tn,.bool l,.int .u8 85,.int .i64 num,.string nm,.slice av args.length ac,.slice ha hn hc,.slice ea en ec] 116)
 have hws:w.heap.size < (w.alloc (.cells #[.string tn,.bool l,.int .u8 85,.int .i64 num,.string nm,.slice av args.length ac,.slice ha hn hc,.slice ea en ec] 116)).heap.size:=by simp
 have hz0:=zas hs 0
 have hz1:=zas hs 1
 have HS:=Lib.hid hs
 have HN:=Lib.hid hn0
 clear hs hn0
 obtain ⟨F,caps,rfl,hE,hF⟩:=HC.out
 have HF:=Lib.hid hF
 clear HC hF
 go_enter Tryz.func160,Tryz.ntmps160
 go_wp2
 generalize (w.alloc (.cells #[.string tn,.bool l,.int .u8 85,.int .i64 num,.string nm,.slice av args.length ac,.slice ha hn hc,.slice ea en ec] 116))=W at *
 go_region_held3 (fun w1=>w1.cell? ⟨w.heap.size,0,none⟩=some (.string tn)∧w1.cell? ⟨w.heap.size,1,none⟩=some (.bool l)∧w1.cell? ⟨w.heap.size,2,none⟩=some (.int .u8 85)∧w1.cell? ⟨w.heap.size,3,none⟩=some (.int .i64 num)∧w1.cell? ⟨w.heap.size,4,none⟩=some (.string nm)∧w1.cell? ⟨w.heap.size,5,none⟩=some (.slice av args.length ac)∧w1.cell? ⟨w.heap.size,6,none⟩=some (.slice ha hn hc)∧w1.cell? ⟨w.heap.size,7,none⟩=some (.slice ea en ec))
  ((refine cellsB (e:=116) ?_;(repeat (with_reducible first|exact HN.out|(refine zaj ?_;(simp;done))|refine zai ?_|refine zag ?_|(apply zad;focus assumption)))))
  (first
  | (go_at_call 208;with_reducible refine (zcA tn nm l 85 num av ha ea ac hn hc en ec args Any _ (HS.out.stays (Stays.of_below (by (repeat (with_reducible first|exact hA|exact Below.refl _ _|refine zab ?_|refine zaa ?_|(apply zac;focus assumption))))))).mono ?_;rintro e w1 ⟨rfl,hb1⟩)
  | (go_at_call 208;with_reducible refine (zcq tn nm l 85 num av ha ea ac hn hc en ec args Any _ (HS.out.stays (Stays.of_below (by (repeat (with_reducible first|exact hA|exact Below.refl _ _|refine zab ?_|refine zaa ?_|(apply zac;focus assumption))))))).mono ?_;rintro e w2 ⟨rfl,hb2⟩))
 have HB2:Hid (w2.heap[w.heap.size]?=some (.cells #[.string tn,.bool l,.int .u8 85,.int .i64 num,.string nm,.slice av args.length ac,.slice ha hn hc,.slice ea en ec] 116)):=Lib.hid (by (repeat (with_reducible first|exact HN.out|(refine zaj ?_;(simp;done))|refine zai ?_|refine zag ?_|(apply zad;focus assumption))))
 obtain ⟨k0,k1,k2,k3,k4,k5,k6,k7⟩:=cellsB HB2.out
 go_wp2_with fail
 obtain ⟨hF,hf1,hf2⟩:=HF.out nm w2 hnm (by (repeat (with_reducible first|exact hA|exact Below.refl _ _|refine zab ?_|refine zaa ?_|(apply zac;focus assumption))))
 refine hF.mono ?_
 rintro e w3 ⟨xa,xn,xc,rfl,hx3,hb3⟩
 have HX3:=Lib.hid hx3
 have HB3:Hid (w3.heap[w.heap.size]?=some (.cells #[.string tn,.bool l,.int .u8 85,.int .i64 num,.string nm,.slice av args.length ac,.slice ha hn hc,.slice ea en ec] 116)):=Lib.hid (zad hb3 HB2.out)
 obtain ⟨j0,j1,j2,j3,j4,j5,j6,j7⟩:=cellsB HB3.out
 clear hF hx3 k0 k1 k2 k3 k4 k5 k6 k7
 go_wp2_with (first
  | (go_at_call 211;refine (zkn _ _ _ _ args [tn] (cf nm).2 Any _ (by (repeat (with_reducible first|exact HN.out|(refine zaj ?_;(simp;done))|refine zai ?_|refine zag ?_|(apply zad;focus assumption)))) (HS.out.stays (Stays.of_below (by (repeat (with_reducible first|exact hA|exact Below.refl _ _|refine zab ?_|refine zaa ?_|(apply zac;focus assumption)))))) (zoH (by (repeat (with_reducible first|exact HN.out|(refine zaj ?_;(simp;done))|refine zai ?_|refine zag ?_|(apply zad;focus assumption)))) trivial htn) (HX3.out.stays (Stays.of_below (by (repeat (with_reducible first|exact Below.refl _ _|refine zab ?_|refine zaa ?_|(apply zac;focus assumption)))))) hal (by simp) (by omega)).mono ?_;rintro e w4 ⟨za,zn,zc,rfl,hz4,hb4⟩;have HZ4:=Lib.hid hz4;clear hz4)
  | (go_at_call 137;refine (zfD w.heap.size _ _ _ _ (args ++ [tn] ++ (cf nm).2) _ (zeB (by (repeat (with_reducible first|exact hA|exact Below.refl _ _|refine zab ?_|refine zaa ?_|(apply zac;focus assumption)))) (Nat.le_refl _)) (zhk.2 HZ4.out) hf1 (by simp;omega)).mono ?_;rintro e w6 ⟨ja,jn,jc,rfl,hk6,hb6⟩;have HK6:=Lib.hid hk6;clear hk6)
  | (go_at_call 210;refine (zfm _ _ _ _).mono ?_;rintro e w7 ⟨rfl,rfl⟩))
 go_ret
 exact ⟨_,_,_,rfl,kidsU1 (by (repeat (with_reducible first|(refine zaE ?_ ?_;rotate_left;(focus (simp;done));(focus ((repeat (with_reducible first|exact hA|exact Below.refl _ _|refine zab ?_|refine zaa ?_|(apply zac;focus assumption)));done)))|refine zav ?_|refine zan ?_|(apply zao;focus assumption)))) (HK6.out.stays (zcH (by (repeat (with_reducible first|exact hA|exact Below.refl _ _|refine zab ?_|refine zaa ?_|(apply zac;focus assumption)))))),by (repeat (with_reducible first|exact hA|exact Below.refl _ _|refine zab ?_|refine zaa ?_|(apply zac;focus assumption)))⟩
end Go.Proofs.YtpobmoegmdhbpaaGreatDoor
