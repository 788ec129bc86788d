/- Contracts and plain lemmas (CgH): no statement of the seat is proved here. -/
import Derived.Test.YtpobmoegmdhbpaaGreatDoorXq07
/- Walks of cleangen.bind. -/
set_option linter.unusedSimpArgs false
set_option linter.unusedVariables false
set_option linter.unusedSectionVars false
set_option maxRecDepth 100000
set_option maxHeartbeats 3200000
namespace Go.Proofs.YtpobmoegmdhbpaaGreatDoor
open Go.RowKit
theorem zls (fv:Value) (tn nm:ByteArray) (l:Bool) (num:Int) (av ha ea:Option Addr) (ac hn hc en ec:Nat) (args:List ByteArray) (cf:CallF) (thn els:List Bd) (w:World) (hs:StrsAt Any w (.slice av args.length ac) args) (htn:tn.size≤maxLen) (hnum:In64 num):
 Calls Tryz.prog 160 #[.agg #[.string tn,.bool l,.int .u8 87,.int .i64 num,.string nm,.slice av args.length ac,.slice ha hn hc,.slice ea en ec],fv] w (StmtsPost (bindN cf (.mk tn l 87 num nm args thn els)) w):=by
 have hA:Below w.heap.size w (w.alloc (.cells #[.string tn,.bool l,.int .u8 87,.int .i64 num,.string nm,.slice av args.length ac,.slice ha hn hc,.slice ea en ec] 116)):=(Below.refl _ _).alloc (Nat.le_refl _) _
 have hn0:=zah w (.cells #[.string tn,.bool l,.int .u8 87,.int .i64 num,.string nm,.slice av args.length ac,.slice ha hn hc,.slice ea en ec] 116)
 have hws:w.heap.size < (w.alloc (.cells #[.string tn,.bool l,.int .u8 87,.int .i64 num,.string nm,.slice av args.length ac,.slice ha hn hc,.slice ea en ec] 116)).heap.size:=by simp
 have hz0:=zas hs 0
 have hz1:=zas hs 1
 have HS:=Lib.hid hs
 have HN:=Lib.hid hn0
 clear hs hn0
 go_enter Tryz.func160,Tryz.ntmps160
 go_wp2
 generalize (w.alloc (.cells #[.string tn,.bool l,.int .u8 87,.int .i64 num,.string nm,.slice av args.length ac,.slice ha hn hc,.slice ea en ec] 116))=W at *
 go_region_held3 (fun w1=>w1.cell? ⟨w.heap.size,0,none⟩=some (.string tn)∧w1.cell? ⟨w.heap.size,1,none⟩=some (.bool l)∧w1.cell? ⟨w.heap.size,2,none⟩=some (.int .u8 87)∧w1.cell? ⟨w.heap.size,3,none⟩=some (.int .i64 num)∧w1.cell? ⟨w.heap.size,4,none⟩=some (.string nm)∧w1.cell? ⟨w.heap.size,5,none⟩=some (.slice av args.length ac)∧w1.cell? ⟨w.heap.size,6,none⟩=some (.slice ha hn hc)∧w1.cell? ⟨w.heap.size,7,none⟩=some (.slice ea en ec))
  ((refine cellsB (e:=116) ?_;(repeat (with_reducible first|exact HN.out|(refine zaj ?_;(simp;done))|refine zai ?_|refine zag ?_|(apply zad;focus assumption)))))
  (first
  | (go_at_call 208;with_reducible refine (zcA tn nm l 87 num av ha ea ac hn hc en ec args Any _ (HS.out.stays (Stays.of_below (by (repeat (with_reducible first|exact hA|exact Below.refl _ _|refine zab ?_|refine zaa ?_|(apply zac;focus assumption))))))).mono ?_;rintro e w1 ⟨rfl,hb1⟩)
  | (go_at_call 208;with_reducible refine (zcq tn nm l 87 num av ha ea ac hn hc en ec args Any _ (HS.out.stays (Stays.of_below (by (repeat (with_reducible first|exact hA|exact Below.refl _ _|refine zab ?_|refine zaa ?_|(apply zac;focus assumption))))))).mono ?_;rintro e w2 ⟨rfl,hb2⟩))
 have HB2:Hid (w2.heap[w.heap.size]?=some (.cells #[.string tn,.bool l,.int .u8 87,.int .i64 num,.string nm,.slice av args.length ac,.slice ha hn hc,.slice ea en ec] 116)):=Lib.hid (by (repeat (with_reducible first|exact HN.out|(refine zaj ?_;(simp;done))|refine zai ?_|refine zag ?_|(apply zad;focus assumption))))
 obtain ⟨k0,k1,k2,k3,k4,k5,k6,k7⟩:=cellsB HB2.out
 go_wp2
 go_cut [11] (fun s11 wx=>CutP w (.cells #[.string tn,.bool l,.int .u8 87,.int .i64 num,.string nm,.slice av args.length ac,.slice ha hn hc,.slice ea en ec] 116) (.int .u8 44) (.int .i64 0) (.string tn) (.int .u8 2) (.int .i64 0) (.string ⟨#[104,48]⟩) (.slice none 0 0) s11 wx)
 case first=>
  go_region_held3 (fun w1=>w1.cell? ⟨w.heap.size,0,none⟩=some (.string tn)∧w1.cell? ⟨w.heap.size,1,none⟩=some (.bool l)∧w1.cell? ⟨w.heap.size,2,none⟩=some (.int .u8 87)∧w1.cell? ⟨w.heap.size,3,none⟩=some (.int .i64 num)∧w1.cell? ⟨w.heap.size,4,none⟩=some (.string nm)∧w1.cell? ⟨w.heap.size,5,none⟩=some (.slice av args.length ac)∧w1.cell? ⟨w.heap.size,6,none⟩=some (.slice ha hn hc)∧w1.cell? ⟨w.heap.size,7,none⟩=some (.slice ea en ec))
   ((refine cellsB (e:=116) ?_;(repeat (with_reducible first|exact HN.out|(refine zaj ?_;(simp;done))|refine zai ?_|refine zag ?_|(apply zad;focus assumption)|(refine zaN ?_ (Nat.ne_of_lt ?_);rotate_left;(focus (first|exact Nat.lt_succ_of_lt (Nat.lt_of_lt_of_le hws (Below.size (by (repeat (with_reducible first|exact Below.refl _ _|refine zab ?_|refine zaa ?_|(apply zac;focus assumption))))))|exact Nat.lt_of_lt_of_le hws (Below.size (by (repeat (with_reducible first|exact Below.refl _ _|refine zab ?_|refine zaa ?_|(apply zac;focus assumption))))))))))))
   (first
   | (go_at_call 138;refine (zbe _ _).mono ?_;rintro e w3 ⟨rfl,hb3⟩;(first|(refine zbn w3 w2.heap.size ?_ (fun g0 g1 g2 g3 gf=>?_);focus ((repeat (with_reducible first|exact HN.out|(refine zaj ?_;(simp;done))|refine zai ?_|refine zag ?_|(apply zad;focus assumption)));done))|skip))
   | (go_at_call 136;refine (zbx _ _ _ _ _ _).mono ?_;rintro e w4 ⟨rfl,hb4⟩;(first|(refine zbn w4 w2.heap.size ?_ (fun g0 g1 g2 g3 gf=>?_);focus ((repeat (with_reducible first|exact HN.out|(refine zaj ?_;(simp;done))|refine zai ?_|refine zag ?_|(apply zad;focus assumption)));done))|skip);(first|(refine zbn w4 w3.heap.size ?_ (fun g0 g1 g2 g3 gf=>?_);focus ((repeat (with_reducible first|exact HN.out|(refine zaj ?_;(simp;done))|refine zai ?_|refine zag ?_|(apply zad;focus assumption)));done))|skip);(first|(refine zbn w4 (w3.heap.size+1) ?_ (fun g0 g1 g2 g3 gf=>?_);focus ((repeat (with_reducible first|exact HN.out|(refine zaj ?_;(simp;done))|refine zai ?_|refine zag ?_|(apply zad;focus assumption)));done))|skip)))
  all_goals
   have hz3:=hb3.size
   have hz4:=hb4.size
   have hz2:=hb2.size
   have hz1':=hb1.size
   simp only [World.size_alloc,World.size_drew] at hz3 hz4 hz2 hz1'
   go_wp2
   go_meet
   first
   | ((with_reducible apply zih);(focus ((repeat (with_reducible first|(refine zaE ?_ ?_;rotate_left;(focus (simp;done));(focus ((repeat (with_reducible first|exact hA|exact Below.refl _ _|refine zab ?_|refine zaa ?_|(apply zac;focus assumption)));done)))|refine zav ?_|refine zan ?_|(apply zao;focus assumption)));done));(focus ((repeat (with_reducible first|(refine zaE ?_ ?_;rotate_left;(focus (simp;done));(focus ((repeat (with_reducible first|exact hA|exact Below.refl _ _|refine zab ?_|refine zaa ?_|(apply zac;focus assumption)));done)))|refine zav ?_|refine zan ?_|(apply zao;focus assumption)));done));(focus ((repeat (with_reducible first|exact HN.out|(refine zaj ?_;(simp;done))|refine zai ?_|refine zag ?_|(apply zad;focus assumption)));done));(focus ((repeat (with_reducible first|exact hA|exact Below.refl _ _|refine zab ?_|refine zaa ?_|(apply zac;focus assumption)));done)))
   | ((with_reducible apply ziJ);(focus ((repeat (with_reducible first|(refine zaE ?_ ?_;rotate_left;(focus (simp;done));(focus ((repeat (with_reducible first|exact hA|exact Below.refl _ _|refine zab ?_|refine zaa ?_|(apply zac;focus assumption)));done)))|refine zav ?_|refine zan ?_|(apply zao;focus assumption)));done));(focus ((repeat (with_reducible first|(refine zaE ?_ ?_;rotate_left;(focus (simp;done));(focus ((repeat (with_reducible first|exact hA|exact Below.refl _ _|refine zab ?_|refine zaa ?_|(apply zac;focus assumption)));done)))|refine zav ?_|refine zan ?_|(apply zao;focus assumption)));done));(focus omega);(focus omega);(focus ((repeat (with_reducible first|exact HN.out|(refine zaj ?_;(simp;done))|refine zai ?_|refine zag ?_|(apply zad;focus assumption)));done));(focus ((repeat (with_reducible first|exact hA|exact Below.refl _ _|refine zab ?_|refine zaa ?_|(apply zac;focus assumption)));done)))
 case rest=>
  obtain ⟨g,g',rfl,hG,hG',hBX,hBel⟩:=hcut
  have HG:=Lib.hid hG
  have HGB:=Lib.hid hG.1
  have HG':=Lib.hid hG'
  have HBX:=Lib.hid hBX
  clear hG hG' hBX k0 k1 k2 k3 k4 k5 k6 k7 hb1 hb2 HB2 HN hA hws
  obtain ⟨c0,c1,c2,c3,c4⟩:=cells5 HBX.out HG.out.1
  go_wp2
  go_region_held3 (fun w1=>w1.cell? ⟨w.heap.size,0,none⟩=some (.string tn)∧w1.cell? ⟨g,0,none⟩=some (.int .u8 44)∧w1.cell? ⟨g,1,none⟩=some (.int .i64 0)∧w1.cell? ⟨g,2,none⟩=some (.string tn)∧w1.cell? ⟨g,3,none⟩=some (.slice (some ⟨g',0,none⟩) 1 1))
   ((refine cells5 (v1:=.bool l) (v2:=.int .u8 87) (v3:=.int .i64 num) (v4:=.string nm) (v5:=.slice av args.length ac) (v6:=.slice ha hn hc) (v7:=.slice ea en ec) (e:=116) (e':=34) ?_ ?_ <;> (repeat (with_reducible first|exact HBX.out|exact HGB.out|(refine zaj ?_;(simp;done))|refine zai ?_|refine zag ?_|(apply zad;focus assumption)))))
   (first
   | (go_at_call 137;refine (zfU w.heap.size ⟨#[108,99,111,112,121]⟩ _ _ _ [argN args 1,tn] _ (zeB (by (repeat (with_reducible first|exact hBel|exact Below.refl _ _|refine zab ?_|refine zaa ?_|(apply zac;focus assumption)))) (Nat.le_refl _)) (strsU2 (by (repeat (with_reducible first|exact HG.out|exact HG'.out|(refine zaE ?_ ?_;rotate_left;(focus (simp;done));(focus ((repeat (with_reducible first|exact hBel|exact Below.refl _ _|refine zab ?_|refine zaa ?_|(apply zac;focus assumption)));done)))|refine zav ?_|refine zan ?_|(apply zao;focus assumption)))) (by assumption) htn) (by unfold maxLen;decide) (by simp)).mono ?_;rintro e w6 ⟨ja,jn,jc,rfl,hk6,hb6⟩)
   | (go_at_call 138;refine (zbe _ _).mono ?_;rintro e w3 ⟨rfl,hb3⟩)
   | (go_at_call 139;refine (zdE _ _).mono ?_;rintro e w3 ⟨rfl,hb3⟩)
   | (go_at_call 86;refine (zcr _ _ _ _).mono ?_;rintro e w8 ⟨rfl,hb8⟩)
   | (go_at_call 136;refine (zbx _ _ _ _ _ _).mono ?_;rintro e w4 ⟨rfl,hb4⟩)
   | (go_at_call 210;refine (zfm _ _ _ _).mono ?_;rintro e w7 ⟨rfl,rfl⟩)
)
  all_goals
   go_wp2
   go_ret
   refine ⟨_,_,_,rfl,(?_:KidsAt (Up w.heap.size) _ _ [callN ⟨#[108,99,111,112,121]⟩ [argN args 1,tn],nodeN 54 ⟨#[104,48]⟩ [vN (argN args 0),nodeN 57 ⟨#[]⟩ [nodeN 44 tn [vN ⟨#[104,48]⟩]],numN 0]]),by (repeat (with_reducible first|exact hBel|exact Below.refl _ _|refine zab ?_|refine zaa ?_|(apply zac;focus assumption)))⟩
   exact kidsU2 (by (repeat (with_reducible first|exact HG.out|exact HG'.out|(refine zaE ?_ ?_;rotate_left;(focus (simp;done));(focus ((repeat (with_reducible first|exact hBel|exact Below.refl _ _|refine zab ?_|refine zaa ?_|(apply zac;focus assumption)));done)))|refine zav ?_|refine zan ?_|(apply zao;focus assumption)))) (hk6.stays (zcH (by (repeat (with_reducible first|exact hBel|exact Below.refl _ _|refine zab ?_|refine zaa ?_|(apply zac;focus assumption)))))) (zam (kidsU3 (by (repeat (with_reducible first|exact HG.out|exact HG'.out|(refine zaE ?_ ?_;rotate_left;(focus (simp;done));(focus ((repeat (with_reducible first|exact hBel|exact Below.refl _ _|refine zab ?_|refine zaa ?_|(apply zac;focus assumption)));done)))|refine zav ?_|refine zan ?_|(apply zao;focus assumption)))) (nd_v hz0) (zam (kidsU1 (by (repeat (with_reducible first|exact HG.out|exact HG'.out|(refine zaE ?_ ?_;rotate_left;(focus (simp;done));(focus ((repeat (with_reducible first|exact hBel|exact Below.refl _ _|refine zab ?_|refine zaa ?_|(apply zac;focus assumption)));done)))|refine zav ?_|refine zan ?_|(apply zao;focus assumption)))) (zam (kidsU1 (by (repeat (with_reducible first|exact HG.out|exact HG'.out|(refine zaE ?_ ?_;rotate_left;(focus (simp;done));(focus ((repeat (with_reducible first|exact hBel|exact Below.refl _ _|refine zab ?_|refine zaa ?_|(apply zac;focus assumption)));done)))|refine zav ?_|refine zan ?_|(apply zao;focus assumption)))) (nd_v (by unfold maxLen;decide))) (by omega) htn)) (by omega) (Nat.zero_le _)) (zdf (by unfold In64;omega))) (by omega) (by unfold maxLen;decide))
end Go.Proofs.YtpobmoegmdhbpaaGreatDoor
