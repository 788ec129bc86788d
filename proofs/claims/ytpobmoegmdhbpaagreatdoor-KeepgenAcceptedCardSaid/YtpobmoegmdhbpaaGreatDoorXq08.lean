/- Contracts and plain lemmas (CgF, CgG): no statement of the seat is proved here. -/
import Derived.Test.YtpobmoegmdhbpaaGreatDoorXq07
/- Walks of cleangen.bind. -/
set_option linter.unusedSimpArgs false
set_option linter.unusedVariables false
set_option linter.unusedSectionVars false
set_option maxRecDepth 100000
set_option maxHeartbeats 3200000
namespace Go.Proofs.YtpobmoegmdhbpaaGreatDoor
open Go.RowKit
theorem zmx (fv:Value) (tn nm:ByteArray) (l:Bool) (num:Int) (av ha ea:Option Addr) (ac hn hc en ec:Nat) (args:List ByteArray) (cf:CallF) (thn els:List Bd) (w:World) (hs:StrsAt Any w (.slice av args.length ac) args) (htn:tn.size≤maxLen) (hnum:In64 num):
 Calls Tryz.prog 160 #[.agg #[.string tn,.bool l,.int .u8 80,.int .i64 num,.string nm,.slice av args.length ac,.slice ha hn hc,.slice ea en ec],fv] w (StmtsPost (bindN cf (.mk tn l 80 num nm args thn els)) w):=by
 have hA:Below w.heap.size w (w.alloc (.cells #[.string tn,.bool l,.int .u8 80,.int .i64 num,.string nm,.slice av args.length ac,.slice ha hn hc,.slice ea en ec] 116)):=(Below.refl _ _).alloc (Nat.le_refl _) _
 have hn0:=zah w (.cells #[.string tn,.bool l,.int .u8 80,.int .i64 num,.string nm,.slice av args.length ac,.slice ha hn hc,.slice ea en ec] 116)
 have hws:w.heap.size < (w.alloc (.cells #[.string tn,.bool l,.int .u8 80,.int .i64 num,.string nm,.slice av args.length ac,.slice ha hn hc,.slice ea en ec] 116)).heap.size:=by simp
 have hz0:=zas hs 0
 have hz1:=zas hs 1
 have HS:=Lib.hid hs
 have HN:=Lib.hid hn0
 clear hs hn0
 go_enter Tryz.func160,Tryz.ntmps160
 go_wp2
 generalize (w.alloc (.cells #[.string tn,.bool l,.int .u8 80,.int .i64 num,.string nm,.slice av args.length ac,.slice ha hn hc,.slice ea en ec] 116))=W at *
 go_region_held3 (fun w1=>w1.cell? ⟨w.heap.size,0,none⟩=some (.string tn)∧w1.cell? ⟨w.heap.size,1,none⟩=some (.bool l)∧w1.cell? ⟨w.heap.size,2,none⟩=some (.int .u8 80)∧w1.cell? ⟨w.heap.size,3,none⟩=some (.int .i64 num)∧w1.cell? ⟨w.heap.size,4,none⟩=some (.string nm)∧w1.cell? ⟨w.heap.size,5,none⟩=some (.slice av args.length ac)∧w1.cell? ⟨w.heap.size,6,none⟩=some (.slice ha hn hc)∧w1.cell? ⟨w.heap.size,7,none⟩=some (.slice ea en ec))
  ((refine cellsB (e:=116) ?_;(repeat (with_reducible first|exact HN.out|(refine zaj ?_;(simp;done))|refine zai ?_|refine zag ?_|(apply zad;focus assumption)))))
  (first
  | (go_at_call 208;with_reducible refine (zcA tn nm l 80 num av ha ea ac hn hc en ec args Any _ (HS.out.stays (Stays.of_below (by (repeat (with_reducible first|exact hA|exact Below.refl _ _|refine zab ?_|refine zaa ?_|(apply zac;focus assumption))))))).mono ?_;rintro e w1 ⟨rfl,hb1⟩)
  | (go_at_call 208;with_reducible refine (zcq tn nm l 80 num av ha ea ac hn hc en ec args Any _ (HS.out.stays (Stays.of_below (by (repeat (with_reducible first|exact hA|exact Below.refl _ _|refine zab ?_|refine zaa ?_|(apply zac;focus assumption))))))).mono ?_;rintro e w2 ⟨rfl,hb2⟩))
 have HB2:Hid (w2.heap[w.heap.size]?=some (.cells #[.string tn,.bool l,.int .u8 80,.int .i64 num,.string nm,.slice av args.length ac,.slice ha hn hc,.slice ea en ec] 116)):=Lib.hid (by (repeat (with_reducible first|exact HN.out|(refine zaj ?_;(simp;done))|refine zai ?_|refine zag ?_|(apply zad;focus assumption))))
 obtain ⟨k0,k1,k2,k3,k4,k5,k6,k7⟩:=cellsB HB2.out
 go_wp2
 go_region_held3 (fun w1=>w1.cell? ⟨w.heap.size,0,none⟩=some (.string tn)∧w1.cell? ⟨w.heap.size,1,none⟩=some (.bool l)∧w1.cell? ⟨w.heap.size,2,none⟩=some (.int .u8 80)∧w1.cell? ⟨w.heap.size,3,none⟩=some (.int .i64 num)∧w1.cell? ⟨w.heap.size,4,none⟩=some (.string nm)∧w1.cell? ⟨w.heap.size,5,none⟩=some (.slice av args.length ac)∧w1.cell? ⟨w.heap.size,6,none⟩=some (.slice ha hn hc)∧w1.cell? ⟨w.heap.size,7,none⟩=some (.slice ea en ec))
  ((refine cellsB (e:=116) ?_;(repeat (with_reducible first|exact HN.out|(refine zaj ?_;(simp;done))|refine zai ?_|refine zag ?_|(apply zad;focus assumption)))))
  (first
  | (go_at_call 139;refine (zdE _ _).mono ?_;rintro e w3 ⟨rfl,hb3⟩)
  | (go_at_call 209;refine (zgC w.heap.size tn _ (numN num) _ (zeB (by (repeat (with_reducible first|exact hA|exact Below.refl _ _|refine zab ?_|refine zaa ?_|(apply zac;focus assumption)))) (Nat.le_refl _)) (zdf hnum) htn).mono ?_;rintro e w5 ⟨ka,kn,kc,rfl,hk5,hb5⟩)
)
 all_goals
  go_wp2
  go_ret
  exact ⟨_,_,_,rfl,by simpa [bindN] using hk5,by (repeat (with_reducible first|exact hA|exact Below.refl _ _|refine zab ?_|refine zaa ?_|(apply zac;focus assumption)))⟩
theorem zlX (fv:Value) (tn nm:ByteArray) (num:Int) (av ha ea:Option Addr) (ac hn hc en ec:Nat) (args:List ByteArray) (cf:CallF) (thn els:List Bd) (w:World) (hs:StrsAt Any w (.slice av args.length ac) args) (htn:tn.size≤maxLen) (hnum:In64 num):
 Calls Tryz.prog 160 #[.agg #[.string tn,.bool false,.int .u8 81,.int .i64 num,.string nm,.slice av args.length ac,.slice ha hn hc,.slice ea en ec],fv] w (StmtsPost (bindN cf (.mk tn false 81 num nm args thn els)) w):=by
 have hA:Below w.heap.size w (w.alloc (.cells #[.string tn,.bool false,.int .u8 81,.int .i64 num,.string nm,.slice av args.length ac,.slice ha hn hc,.slice ea en ec] 116)):=(Below.refl _ _).alloc (Nat.le_refl _) _
 have hn0:=zah w (.cells #[.string tn,.bool false,.int .u8 81,.int .i64 num,.string nm,.slice av args.length ac,.slice ha hn hc,.slice ea en ec] 116)
 have hws:w.heap.size < (w.alloc (.cells #[.string tn,.bool false,.int .u8 81,.int .i64 num,.string nm,.slice av args.length ac,.slice ha hn hc,.slice ea en ec] 116)).heap.size:=by simp
 have hz0:=zas hs 0
 have hz1:=zas hs 1
 have HS:=Lib.hid hs
 have HN:=Lib.hid hn0
 clear hs hn0
 go_enter Tryz.func160,Tryz.ntmps160
 go_wp2
 generalize (w.alloc (.cells #[.string tn,.bool false,.int .u8 81,.int .i64 num,.string nm,.slice av args.length ac,.slice ha hn hc,.slice ea en ec] 116))=W at *
 go_region_held3 (fun w1=>w1.cell? ⟨w.heap.size,0,none⟩=some (.string tn)∧w1.cell? ⟨w.heap.size,1,none⟩=some (.bool false)∧w1.cell? ⟨w.heap.size,2,none⟩=some (.int .u8 81)∧w1.cell? ⟨w.heap.size,3,none⟩=some (.int .i64 num)∧w1.cell? ⟨w.heap.size,4,none⟩=some (.string nm)∧w1.cell? ⟨w.heap.size,5,none⟩=some (.slice av args.length ac)∧w1.cell? ⟨w.heap.size,6,none⟩=some (.slice ha hn hc)∧w1.cell? ⟨w.heap.size,7,none⟩=some (.slice ea en ec))
  ((refine cellsB (e:=116) ?_;(repeat (with_reducible first|exact HN.out|(refine zaj ?_;(simp;done))|refine zai ?_|refine zag ?_|(apply zad;focus assumption)))))
  (first
  | (go_at_call 208;with_reducible refine (zcA tn nm false 81 num av ha ea ac hn hc en ec args Any _ (HS.out.stays (Stays.of_below (by (repeat (with_reducible first|exact hA|exact Below.refl _ _|refine zab ?_|refine zaa ?_|(apply zac;focus assumption))))))).mono ?_;rintro e w1 ⟨rfl,hb1⟩)
  | (go_at_call 208;with_reducible refine (zcq tn nm false 81 num av ha ea ac hn hc en ec args Any _ (HS.out.stays (Stays.of_below (by (repeat (with_reducible first|exact hA|exact Below.refl _ _|refine zab ?_|refine zaa ?_|(apply zac;focus assumption))))))).mono ?_;rintro e w2 ⟨rfl,hb2⟩))
 have HB2:Hid (w2.heap[w.heap.size]?=some (.cells #[.string tn,.bool false,.int .u8 81,.int .i64 num,.string nm,.slice av args.length ac,.slice ha hn hc,.slice ea en ec] 116)):=Lib.hid (by (repeat (with_reducible first|exact HN.out|(refine zaj ?_;(simp;done))|refine zai ?_|refine zag ?_|(apply zad;focus assumption))))
 obtain ⟨k0,k1,k2,k3,k4,k5,k6,k7⟩:=cellsB HB2.out
 go_wp2
 go_region_held3 (fun w1=>w1.cell? ⟨w.heap.size,0,none⟩=some (.string tn)∧w1.cell? ⟨w.heap.size,1,none⟩=some (.bool false)∧w1.cell? ⟨w.heap.size,2,none⟩=some (.int .u8 81)∧w1.cell? ⟨w.heap.size,3,none⟩=some (.int .i64 num)∧w1.cell? ⟨w.heap.size,4,none⟩=some (.string nm)∧w1.cell? ⟨w.heap.size,5,none⟩=some (.slice av args.length ac)∧w1.cell? ⟨w.heap.size,6,none⟩=some (.slice ha hn hc)∧w1.cell? ⟨w.heap.size,7,none⟩=some (.slice ea en ec))
  ((refine cellsB (e:=116) ?_;(repeat (with_reducible first|exact HN.out|(refine zaj ?_;(simp;done))|refine zai ?_|refine zag ?_|(apply zad;focus assumption)))))
  (first
  | (go_at_call 138;refine (zbe _ _).mono ?_;rintro e w3 ⟨rfl,hb3⟩)
  | (go_at_call 209;refine (zgC w.heap.size tn _ (vN (argN args 0)) _ (zeB (by (repeat (with_reducible first|exact hA|exact Below.refl _ _|refine zab ?_|refine zaa ?_|(apply zac;focus assumption)))) (Nat.le_refl _)) (nd_v hz0) htn).mono ?_;rintro e w5 ⟨ka,kn,kc,rfl,hk5,hb5⟩)
)
 all_goals
  go_wp2
  go_ret
  exact ⟨_,_,_,rfl,by simpa [bindN] using hk5,by (repeat (with_reducible first|exact hA|exact Below.refl _ _|refine zab ?_|refine zaa ?_|(apply zac;focus assumption)))⟩
theorem zkg (fv:Value) (tn nm:ByteArray) (l:Bool) (num:Int) (av ha ea:Option Addr) (ac hn hc en ec:Nat) (args:List ByteArray) (cf:CallF) (thn els:List Bd) (w:World) (hs:StrsAt Any w (.slice av args.length ac) args) (htn:tn.size≤maxLen) (hnum:In64 num):
 Calls Tryz.prog 160 #[.agg #[.string tn,.bool l,.int .u8 88,.int .i64 num,.string nm,.slice av args.length ac,.slice ha hn hc,.slice ea en ec],fv] w (StmtsPost (bindN cf (.mk tn l 88 num nm args thn els)) w):=by
 have hA:Below w.heap.size w (w.alloc (.cells #[.string tn,.bool l,.int .u8 88,.int .i64 num,.string nm,.slice av args.length ac,.slice ha hn hc,.slice ea en ec] 116)):=(Below.refl _ _).alloc (Nat.le_refl _) _
 have hn0:=zah w (.cells #[.string tn,.bool l,.int .u8 88,.int .i64 num,.string nm,.slice av args.length ac,.slice ha hn hc,.slice ea en ec] 116)
 have hws:w.heap.size < (w.alloc (.cells #[.string tn,.bool l,.int .u8 88,.int .i64 num,.string nm,.slice av args.length ac,.slice ha hn hc,.slice ea en ec] 116)).heap.size:=by simp
 have hz0:=zas hs 0
 have hz1:=zas hs 1
 have HS:=Lib.hid hs
 have HN:=Lib.hid hn0
 clear hs hn0
 go_enter Tryz.func160,Tryz.ntmps160
 go_wp2
 generalize (w.alloc (.cells #[.string tn,.bool l,.int .u8 88,.int .i64 num,.string nm,.slice av args.length ac,.slice ha hn hc,.slice ea en ec] 116))=W at *
 go_region_held3 (fun w1=>w1.cell? ⟨w.heap.size,0,none⟩=some (.string tn)∧w1.cell? ⟨w.heap.size,1,none⟩=some (.bool l)∧w1.cell? ⟨w.heap.size,2,none⟩=some (.int .u8 88)∧w1.cell? ⟨w.heap.size,3,none⟩=some (.int .i64 num)∧w1.cell? ⟨w.heap.size,4,none⟩=some (.string nm)∧w1.cell? ⟨w.heap.size,5,none⟩=some (.slice av args.length ac)∧w1.cell? ⟨w.heap.size,6,none⟩=some (.slice ha hn hc)∧w1.cell? ⟨w.heap.size,7,none⟩=some (.slice ea en ec))
  ((refine cellsB (e:=116) ?_;(repeat (with_reducible first|exact HN.out|(refine zaj ?_;(simp;done))|refine zai ?_|refine zag ?_|(apply zad;focus assumption)))))
  (first
  | (go_at_call 208;with_reducible refine (zcA tn nm l 88 num av ha ea ac hn hc en ec args Any _ (HS.out.stays (Stays.of_below (by (repeat (with_reducible first|exact hA|exact Below.refl _ _|refine zab ?_|refine zaa ?_|(apply zac;focus assumption))))))).mono ?_;rintro e w1 ⟨rfl,hb1⟩)
  | (go_at_call 208;with_reducible refine (zcq tn nm l 88 num av ha ea ac hn hc en ec args Any _ (HS.out.stays (Stays.of_below (by (repeat (with_reducible first|exact hA|exact Below.refl _ _|refine zab ?_|refine zaa ?_|(apply zac;focus assumption))))))).mono ?_;rintro e w2 ⟨rfl,hb2⟩))
 have HB2:Hid (w2.heap[w.heap.size]?=some (.cells #[.string tn,.bool l,.int .u8 88,.int .i64 num,.string nm,.slice av args.length ac,.slice ha hn hc,.slice ea en ec] 116)):=Lib.hid (by (repeat (with_reducible first|exact HN.out|(refine zaj ?_;(simp;done))|refine zai ?_|refine zag ?_|(apply zad;focus assumption))))
 obtain ⟨k0,k1,k2,k3,k4,k5,k6,k7⟩:=cellsB HB2.out
 go_wp2
 go_region_held3 (fun w1=>w1.cell? ⟨w.heap.size,0,none⟩=some (.string tn)∧w1.cell? ⟨w.heap.size,1,none⟩=some (.bool l)∧w1.cell? ⟨w.heap.size,2,none⟩=some (.int .u8 88)∧w1.cell? ⟨w.heap.size,3,none⟩=some (.int .i64 num)∧w1.cell? ⟨w.heap.size,4,none⟩=some (.string nm)∧w1.cell? ⟨w.heap.size,5,none⟩=some (.slice av args.length ac)∧w1.cell? ⟨w.heap.size,6,none⟩=some (.slice ha hn hc)∧w1.cell? ⟨w.heap.size,7,none⟩=some (.slice ea en ec))
  ((refine cellsB (e:=116) ?_;(repeat (with_reducible first|exact HN.out|(refine zaj ?_;(simp;done))|refine zai ?_|refine zag ?_|(apply zad;focus assumption)))))
  (first
  | (go_at_call 136;refine (zbx _ _ _ _ _ _).mono ?_;rintro e w4 ⟨rfl,hb4⟩)
  | (go_at_call 209;refine (zgC w.heap.size tn _ (nodeN 4 (argN args 0) []) _ (zeB (by (repeat (with_reducible first|exact hA|exact Below.refl _ _|refine zab ?_|refine zaa ?_|(apply zac;focus assumption)))) (Nat.le_refl _)) (zam (KidsAt.nil _) (by omega) hz0) htn).mono ?_;rintro e w5 ⟨ka,kn,kc,rfl,hk5,hb5⟩)
)
 all_goals
  go_wp2
  go_ret
  exact ⟨_,_,_,rfl,by simpa [bindN] using hk5,by (repeat (with_reducible first|exact hA|exact Below.refl _ _|refine zab ?_|refine zaa ?_|(apply zac;focus assumption)))⟩
end Go.Proofs.YtpobmoegmdhbpaaGreatDoor
/- Walks of cleangen.bind. -/
namespace Go.Proofs.YtpobmoegmdhbpaaGreatDoor
open Go.RowKit
theorem zka (fv:Value) (tn nm:ByteArray) (num:Int) (av ha ea:Option Addr) (ac hn hc en ec:Nat) (args:List ByteArray) (cf:CallF) (thn els:List Bd) (w:World) (hs:StrsAt Any w (.slice av args.length ac) args) (htn:tn.size≤maxLen) (hnum:In64 num):
 Calls Tryz.prog 160 #[.agg #[.string tn,.bool true,.int .u8 81,.int .i64 num,.string nm,.slice av args.length ac,.slice ha hn hc,.slice ea en ec],fv] w (StmtsPost (bindN cf (.mk tn true 81 num nm args thn els)) w):=by
 have hA:Below w.heap.size w (w.alloc (.cells #[.string tn,.bool true,.int .u8 81,.int .i64 num,.string nm,.slice av args.length ac,.slice ha hn hc,.slice ea en ec] 116)):=(Below.refl _ _).alloc (Nat.le_refl _) _
 have hn0:=zah w (.cells #[.string tn,.bool true,.int .u8 81,.int .i64 num,.string nm,.slice av args.length ac,.slice ha hn hc,.slice ea en ec] 116)
 have hws:w.heap.size < (w.alloc (.cells #[.string tn,.bool true,.int .u8 81,.int .i64 num,.string nm,.slice av args.length ac,.slice ha hn hc,.slice ea en ec] 116)).heap.size:=by simp
 have hz0:=zas hs 0
 have hz1:=zas hs 1
 have HS:=Lib.hid hs
 have HN:=Lib.hid hn0
 clear hs hn0
 go_enter Tryz.func160,Tryz.ntmps160
 go_wp2
 generalize (w.alloc (.cells #[.string tn,.bool true,.int .u8 81,.int .i64 num,.string nm,.slice av args.length ac,.slice ha hn hc,.slice ea en ec] 116))=W at *
 go_region_held3 (fun w1=>w1.cell? ⟨w.heap.size,0,none⟩=some (.string tn)∧w1.cell? ⟨w.heap.size,1,none⟩=some (.bool true)∧w1.cell? ⟨w.heap.size,2,none⟩=some (.int .u8 81)∧w1.cell? ⟨w.heap.size,3,none⟩=some (.int .i64 num)∧w1.cell? ⟨w.heap.size,4,none⟩=some (.string nm)∧w1.cell? ⟨w.heap.size,5,none⟩=some (.slice av args.length ac)∧w1.cell? ⟨w.heap.size,6,none⟩=some (.slice ha hn hc)∧w1.cell? ⟨w.heap.size,7,none⟩=some (.slice ea en ec))
  ((refine cellsB (e:=116) ?_;(repeat (with_reducible first|exact HN.out|(refine zaj ?_;(simp;done))|refine zai ?_|refine zag ?_|(apply zad;focus assumption)))))
  (first
  | (go_at_call 208;with_reducible refine (zcA tn nm true 81 num av ha ea ac hn hc en ec args Any _ (HS.out.stays (Stays.of_below (by (repeat (with_reducible first|exact hA|exact Below.refl _ _|refine zab ?_|refine zaa ?_|(apply zac;focus assumption))))))).mono ?_;rintro e w1 ⟨rfl,hb1⟩)
  | (go_at_call 208;with_reducible refine (zcq tn nm true 81 num av ha ea ac hn hc en ec args Any _ (HS.out.stays (Stays.of_below (by (repeat (with_reducible first|exact hA|exact Below.refl _ _|refine zab ?_|refine zaa ?_|(apply zac;focus assumption))))))).mono ?_;rintro e w2 ⟨rfl,hb2⟩))
 have HB2:Hid (w2.heap[w.heap.size]?=some (.cells #[.string tn,.bool true,.int .u8 81,.int .i64 num,.string nm,.slice av args.length ac,.slice ha hn hc,.slice ea en ec] 116)):=Lib.hid (by (repeat (with_reducible first|exact HN.out|(refine zaj ?_;(simp;done))|refine zai ?_|refine zag ?_|(apply zad;focus assumption))))
 obtain ⟨k0,k1,k2,k3,k4,k5,k6,k7⟩:=cellsB HB2.out
 go_wp2_with (first
  | (go_at_call 137;refine (zfU w.heap.size ⟨#[108,99,111,112,121]⟩ _ _ _ [argN args 0,tn] _ (zeB (by (repeat (with_reducible first|exact hA|exact Below.refl _ _|refine zab ?_|refine zaa ?_|(apply zac;focus assumption)))) (Nat.le_refl _)) (strsU2 (by (repeat (with_reducible first|(refine zaE ?_ ?_;rotate_left;(focus (simp;done));(focus ((repeat (with_reducible first|exact hA|exact Below.refl _ _|refine zab ?_|refine zaa ?_|(apply zac;focus assumption)));done)))|refine zav ?_|refine zan ?_|(apply zao;focus assumption)))) hz0 htn) (by unfold maxLen;decide) (by simp)).mono ?_;rintro e w6 ⟨ja,jn,jc,rfl,hk6,hb6⟩)
  | (go_at_call 210;refine (zfm _ _ _ _).mono ?_;rintro e w7 ⟨rfl,rfl⟩))
 go_ret
 exact ⟨_,_,_,rfl,kidsU1 (by (repeat (with_reducible first|(refine zaE ?_ ?_;rotate_left;(focus (simp;done));(focus ((repeat (with_reducible first|exact hA|exact Below.refl _ _|refine zab ?_|refine zaa ?_|(apply zac;focus assumption)));done)))|refine zav ?_|refine zan ?_|(apply zao;focus assumption)))) (hk6.stays (zcH (by (repeat (with_reducible first|exact hA|exact Below.refl _ _|refine zab ?_|refine zaa ?_|(apply zac;focus assumption)))))),by (repeat (with_reducible first|exact hA|exact Below.refl _ _|refine zab ?_|refine zaa ?_|(apply zac;focus assumption)))⟩
theorem znJ (fv:Value) (tn nm:ByteArray) (l:Bool) (num:Int) (av ha ea:Option Addr) (ac hn hc en ec:Nat) (args:List ByteArray) (cf:CallF) (thn els:List Bd) (w:World) (hs:StrsAt Any w (.slice av args.length ac) args) (htn:tn.size≤maxLen) (hnum:In64 num):
 Calls Tryz.prog 160 #[.agg #[.string tn,.bool l,.int .u8 82,.int .i64 num,.string nm,.slice av args.length ac,.slice ha hn hc,.slice ea en ec],fv] w (StmtsPost (bindN cf (.mk tn l 82 num nm args thn els)) w):=by
 have hA:Below w.heap.size w (w.alloc (.cells #[.string tn,.bool l,.int .u8 82,.int .i64 num,.string nm,.slice av args.length ac,.slice ha hn hc,.slice ea en ec] 116)):=(Below.refl _ _).alloc (Nat.le_refl _) _
 have hn0:=zah w (.cells #[.string tn,.bool l,.int .u8 82,.int .i64 num,.string nm,.slice av args.length ac,.slice ha hn hc,.slice ea en ec] 116)
 have hws:w.heap.size < (w.alloc (.cells #[.string tn,.bool l,.int .u8 82,.int .i64 num,.string nm,.slice av args.length ac,.slice ha hn hc,.slice ea en ec] 116)).heap.size:=by simp
 have hz0:=zas hs 0
 have hz1:=zas hs 1
 have HS:=Lib.hid hs
 have HN:=Lib.hid hn0
 clear hs hn0
 go_enter Tryz.func160,Tryz.ntmps160
 go_wp2
 generalize (w.alloc (.cells #[.string tn,.bool l,.int .u8 82,.int .i64 num,.string nm,.slice av args.length ac,.slice ha hn hc,.slice ea en ec] 116))=W at *
 go_region_held3 (fun w1=>w1.cell? ⟨w.heap.size,0,none⟩=some (.string tn)∧w1.cell? ⟨w.heap.size,1,none⟩=some (.bool l)∧w1.cell? ⟨w.heap.size,2,none⟩=some (.int .u8 82)∧w1.cell? ⟨w.heap.size,3,none⟩=some (.int .i64 num)∧w1.cell? ⟨w.heap.size,4,none⟩=some (.string nm)∧w1.cell? ⟨w.heap.size,5,none⟩=some (.slice av args.length ac)∧w1.cell? ⟨w.heap.size,6,none⟩=some (.slice ha hn hc)∧w1.cell? ⟨w.heap.size,7,none⟩=some (.slice ea en ec))
  ((refine cellsB (e:=116) ?_;(repeat (with_reducible first|exact HN.out|(refine zaj ?_;(simp;done))|refine zai ?_|refine zag ?_|(apply zad;focus assumption)))))
  (first
  | (go_at_call 208;with_reducible refine (zcA tn nm l 82 num av ha ea ac hn hc en ec args Any _ (HS.out.stays (Stays.of_below (by (repeat (with_reducible first|exact hA|exact Below.refl _ _|refine zab ?_|refine zaa ?_|(apply zac;focus assumption))))))).mono ?_;rintro e w1 ⟨rfl,hb1⟩)
  | (go_at_call 208;with_reducible refine (zcq tn nm l 82 num av ha ea ac hn hc en ec args Any _ (HS.out.stays (Stays.of_below (by (repeat (with_reducible first|exact hA|exact Below.refl _ _|refine zab ?_|refine zaa ?_|(apply zac;focus assumption))))))).mono ?_;rintro e w2 ⟨rfl,hb2⟩))
 have HB2:Hid (w2.heap[w.heap.size]?=some (.cells #[.string tn,.bool l,.int .u8 82,.int .i64 num,.string nm,.slice av args.length ac,.slice ha hn hc,.slice ea en ec] 116)):=Lib.hid (by (repeat (with_reducible first|exact HN.out|(refine zaj ?_;(simp;done))|refine zai ?_|refine zag ?_|(apply zad;focus assumption))))
 obtain ⟨k0,k1,k2,k3,k4,k5,k6,k7⟩:=cellsB HB2.out
 go_wp2
 go_region_held3 (fun w1=>w1.cell? ⟨w.heap.size,0,none⟩=some (.string tn)∧w1.cell? ⟨w.heap.size,1,none⟩=some (.bool l)∧w1.cell? ⟨w.heap.size,2,none⟩=some (.int .u8 82)∧w1.cell? ⟨w.heap.size,3,none⟩=some (.int .i64 num)∧w1.cell? ⟨w.heap.size,4,none⟩=some (.string nm)∧w1.cell? ⟨w.heap.size,5,none⟩=some (.slice av args.length ac)∧w1.cell? ⟨w.heap.size,6,none⟩=some (.slice ha hn hc)∧w1.cell? ⟨w.heap.size,7,none⟩=some (.slice ea en ec))
  ((refine cellsB (e:=116) ?_;(repeat (with_reducible first|exact HN.out|(refine zaj ?_;(simp;done))|refine zai ?_|refine zag ?_|(apply zad;focus assumption)))))
  (first
  | (go_at_call 138;refine (zbe _ _).mono ?_;rintro e w3 ⟨rfl,hb3⟩)
  | (go_at_call 136;refine (zbx _ _ _ _ _ _).mono ?_;rintro e w4 ⟨rfl,hb4⟩)
  | (go_at_call 209;refine (zgC w.heap.size tn _ (nodeN (num % 256) ByteArray.empty [vN (argN args 0),vN (argN args 1)]) _ (zeB (by (repeat (with_reducible first|exact hA|exact Below.refl _ _|refine zab ?_|refine zaa ?_|(apply zac;focus assumption)))) (Nat.le_refl _)) (zam (kidsU2 (by (repeat (with_reducible first|(refine zaE ?_ ?_;rotate_left;(focus (simp;done));(focus ((repeat (with_reducible first|exact hA|exact Below.refl _ _|refine zab ?_|refine zaa ?_|(apply zac;focus assumption)));done)))|refine zav ?_|refine zan ?_|(apply zao;focus assumption)))) (nd_v hz0) (nd_v hz1)) (by omega) (Nat.zero_le _)) htn).mono ?_;rintro e w5 ⟨ka,kn,kc,rfl,hk5,hb5⟩)
)
 all_goals
  go_wp2
  go_ret
  exact ⟨_,_,_,rfl,by simpa [bindN] using hk5,by (repeat (with_reducible first|exact hA|exact Below.refl _ _|refine zab ?_|refine zaa ?_|(apply zac;focus assumption)))⟩
theorem zkY (fv:Value) (tn nm:ByteArray) (l:Bool) (num:Int) (av ha ea:Option Addr) (ac hn hc en ec:Nat) (args:List ByteArray) (cf:CallF) (thn els:List Bd) (w:World) (hs:StrsAt Any w (.slice av args.length ac) args) (htn:tn.size≤maxLen) (hnum:In64 num):
 Calls Tryz.prog 160 #[.agg #[.string tn,.bool l,.int .u8 90,.int .i64 num,.string nm,.slice av args.length ac,.slice ha hn hc,.slice ea en ec],fv] w (StmtsPost (bindN cf (.mk tn l 90 num nm args thn els)) w):=by
 have hA:Below w.heap.size w (w.alloc (.cells #[.string tn,.bool l,.int .u8 90,.int .i64 num,.string nm,.slice av args.length ac,.slice ha hn hc,.slice ea en ec] 116)):=(Below.refl _ _).alloc (Nat.le_refl _) _
 have hn0:=zah w (.cells #[.string tn,.bool l,.int .u8 90,.int .i64 num,.string nm,.slice av args.length ac,.slice ha hn hc,.slice ea en ec] 116)
 have hws:w.heap.size < (w.alloc (.cells #[.string tn,.bool l,.int .u8 90,.int .i64 num,.string nm,.slice av args.length ac,.slice ha hn hc,.slice ea en ec] 116)).heap.size:=by simp
 have hz0:=zas hs 0
 have hz1:=zas hs 1
 have HS:=Lib.hid hs
 have HN:=Lib.hid hn0
 clear hs hn0
 go_enter Tryz.func160,Tryz.ntmps160
 go_wp2
 generalize (w.alloc (.cells #[.string tn,.bool l,.int .u8 90,.int .i64 num,.string nm,.slice av args.length ac,.slice ha hn hc,.slice ea en ec] 116))=W at *
 go_region_held3 (fun w1=>w1.cell? ⟨w.heap.size,0,none⟩=some (.string tn)∧w1.cell? ⟨w.heap.size,1,none⟩=some (.bool l)∧w1.cell? ⟨w.heap.size,2,none⟩=some (.int .u8 90)∧w1.cell? ⟨w.heap.size,3,none⟩=some (.int .i64 num)∧w1.cell? ⟨w.heap.size,4,none⟩=some (.string nm)∧w1.cell? ⟨w.heap.size,5,none⟩=some (.slice av args.length ac)∧w1.cell? ⟨w.heap.size,6,none⟩=some (.slice ha hn hc)∧w1.cell? ⟨w.heap.size,7,none⟩=some (.slice ea en ec))
  ((refine cellsB (e:=116) ?_;(repeat (with_reducible first|exact HN.out|(refine zaj ?_;(simp;done))|refine zai ?_|refine zag ?_|(apply zad;focus assumption)))))
  (first
  | (go_at_call 208;with_reducible refine (zcA tn nm l 90 num av ha ea ac hn hc en ec args Any _ (HS.out.stays (Stays.of_below (by (repeat (with_reducible first|exact hA|exact Below.refl _ _|refine zab ?_|refine zaa ?_|(apply zac;focus assumption))))))).mono ?_;rintro e w1 ⟨rfl,hb1⟩)
  | (go_at_call 208;with_reducible refine (zcq tn nm l 90 num av ha ea ac hn hc en ec args Any _ (HS.out.stays (Stays.of_below (by (repeat (with_reducible first|exact hA|exact Below.refl _ _|refine zab ?_|refine zaa ?_|(apply zac;focus assumption))))))).mono ?_;rintro e w2 ⟨rfl,hb2⟩))
 have HB2:Hid (w2.heap[w.heap.size]?=some (.cells #[.string tn,.bool l,.int .u8 90,.int .i64 num,.string nm,.slice av args.length ac,.slice ha hn hc,.slice ea en ec] 116)):=Lib.hid (by (repeat (with_reducible first|exact HN.out|(refine zaj ?_;(simp;done))|refine zai ?_|refine zag ?_|(apply zad;focus assumption))))
 obtain ⟨k0,k1,k2,k3,k4,k5,k6,k7⟩:=cellsB HB2.out
 go_wp2
 go_region_held3 (fun w1=>w1.cell? ⟨w.heap.size,0,none⟩=some (.string tn)∧w1.cell? ⟨w.heap.size,1,none⟩=some (.bool l)∧w1.cell? ⟨w.heap.size,2,none⟩=some (.int .u8 90)∧w1.cell? ⟨w.heap.size,3,none⟩=some (.int .i64 num)∧w1.cell? ⟨w.heap.size,4,none⟩=some (.string nm)∧w1.cell? ⟨w.heap.size,5,none⟩=some (.slice av args.length ac)∧w1.cell? ⟨w.heap.size,6,none⟩=some (.slice ha hn hc)∧w1.cell? ⟨w.heap.size,7,none⟩=some (.slice ea en ec))
  ((refine cellsB (e:=116) ?_;(repeat (with_reducible first|exact HN.out|(refine zaj ?_;(simp;done))|refine zai ?_|refine zag ?_|(apply zad;focus assumption)))))
  (first
  | (go_at_call 139;refine (zdE _ _).mono ?_;rintro e w3 ⟨rfl,hb3⟩)
  | (go_at_call 136;refine (zbx _ _ _ _ _ _).mono ?_;rintro e w4 ⟨rfl,hb4⟩)
  | (go_at_call 209;refine (zgC w.heap.size tn _ (nodeN 16 ByteArray.empty [nodeN 5 (argN args 0) [],numN 0]) _ (zeB (by (repeat (with_reducible first|exact hA|exact Below.refl _ _|refine zab ?_|refine zaa ?_|(apply zac;focus assumption)))) (Nat.le_refl _)) (zam (kidsU2 (by (repeat (with_reducible first|(refine zaE ?_ ?_;rotate_left;(focus (simp;done));(focus ((repeat (with_reducible first|exact hA|exact Below.refl _ _|refine zab ?_|refine zaa ?_|(apply zac;focus assumption)));done)))|refine zav ?_|refine zan ?_|(apply zao;focus assumption)))) (zam (KidsAt.nil _) (by omega) hz0) (zdf (by unfold In64;omega))) (by omega) (Nat.zero_le _)) htn).mono ?_;rintro e w5 ⟨ka,kn,kc,rfl,hk5,hb5⟩)
)
 all_goals
  go_wp2
  go_ret
  exact ⟨_,_,_,rfl,by simpa [bindN] using hk5,by (repeat (with_reducible first|exact hA|exact Below.refl _ _|refine zab ?_|refine zaa ?_|(apply zac;focus assumption)))⟩
theorem zmV (fv:Value) (tn nm:ByteArray) (l:Bool) (op:Int) (num:Int) (av ha ea:Option Addr) (ac hn hc en ec:Nat) (args:List ByteArray) (w:World) (hs:StrsAt Any w (.slice av args.length ac) args) (htn:tn.size≤maxLen) (hnum:In64 num) (h0:op≠80) (h1:op≠81) (h2:op≠82) (h3:op≠83) (h5:op≠85) (h7:op≠87) (h8:op≠88) (h9:op≠89) (h10:op≠90):
 Calls Tryz.prog 160 #[.agg #[.string tn,.bool l,.int .u8 op,.int .i64 num,.string nm,.slice av args.length ac,.slice ha hn hc,.slice ea en ec],fv] w (StmtsPost [] w):=by
 have hA:Below w.heap.size w (w.alloc (.cells #[.string tn,.bool l,.int .u8 op,.int .i64 num,.string nm,.slice av args.length ac,.slice ha hn hc,.slice ea en ec] 116)):=(Below.refl _ _).alloc (Nat.le_refl _) _
 have hn0:=zah w (.cells #[.string tn,.bool l,.int .u8 op,.int .i64 num,.string nm,.slice av args.length ac,.slice ha hn hc,.slice ea en ec] 116)
 have hws:w.heap.size < (w.alloc (.cells #[.string tn,.bool l,.int .u8 op,.int .i64 num,.string nm,.slice av args.length ac,.slice ha hn hc,.slice ea en ec] 116)).heap.size:=by simp
 have hz0:=zas hs 0
 have hz1:=zas hs 1
 have HS:=Lib.hid hs
 have HN:=Lib.hid hn0
 clear hs hn0
 have d0:(op == 80)=false:=by simp [h0]
 have d1:(op == 81)=false:=by simp [h1]
 have d2:(op == 82)=false:=by simp [h2]
 have d3:(op == 83)=false:=by simp [h3]
 have d4:(op == 85)=false:=by simp [h5]
 have d5:(op == 87)=false:=by simp [h7]
 have d6:(op == 88)=false:=by simp [h8]
 have d7:(op == 89)=false:=by simp [h9]
 have d8:(op == 90)=false:=by simp [h10]
 go_enter Tryz.func160,Tryz.ntmps160
 go_wp2
 generalize (w.alloc (.cells #[.string tn,.bool l,.int .u8 op,.int .i64 num,.string nm,.slice av args.length ac,.slice ha hn hc,.slice ea en ec] 116))=W at *
 go_region_held3 (fun w1=>w1.cell? ⟨w.heap.size,0,none⟩=some (.string tn)∧w1.cell? ⟨w.heap.size,1,none⟩=some (.bool l)∧w1.cell? ⟨w.heap.size,2,none⟩=some (.int .u8 op)∧w1.cell? ⟨w.heap.size,3,none⟩=some (.int .i64 num)∧w1.cell? ⟨w.heap.size,4,none⟩=some (.string nm)∧w1.cell? ⟨w.heap.size,5,none⟩=some (.slice av args.length ac)∧w1.cell? ⟨w.heap.size,6,none⟩=some (.slice ha hn hc)∧w1.cell? ⟨w.heap.size,7,none⟩=some (.slice ea en ec))
  ((refine cellsB (e:=116) ?_;(repeat (with_reducible first|exact HN.out|(refine zaj ?_;(simp;done))|refine zai ?_|refine zag ?_|(apply zad;focus assumption)))))
  (first
  | (go_at_call 208;with_reducible refine (zcA tn nm l op num av ha ea ac hn hc en ec args Any _ (HS.out.stays (Stays.of_below (by (repeat (with_reducible first|exact hA|exact Below.refl _ _|refine zab ?_|refine zaa ?_|(apply zac;focus assumption))))))).mono ?_;rintro e w1 ⟨rfl,hb1⟩)
  | (go_at_call 208;with_reducible refine (zcq tn nm l op num av ha ea ac hn hc en ec args Any _ (HS.out.stays (Stays.of_below (by (repeat (with_reducible first|exact hA|exact Below.refl _ _|refine zab ?_|refine zaa ?_|(apply zac;focus assumption))))))).mono ?_;rintro e w2 ⟨rfl,hb2⟩))
 have HB2:Hid (w2.heap[w.heap.size]?=some (.cells #[.string tn,.bool l,.int .u8 op,.int .i64 num,.string nm,.slice av args.length ac,.slice ha hn hc,.slice ea en ec] 116)):=Lib.hid (by (repeat (with_reducible first|exact HN.out|(refine zaj ?_;(simp;done))|refine zai ?_|refine zag ?_|(apply zad;focus assumption))))
 obtain ⟨k0,k1,k2,k3,k4,k5,k6,k7⟩:=cellsB HB2.out
 go_wp2
 go_ret
 exact ⟨_,_,_,rfl,KidsAt.nil _,by (repeat (with_reducible first|exact hA|exact Below.refl _ _|refine zab ?_|refine zaa ?_|(apply zac;focus assumption)))⟩
end Go.Proofs.YtpobmoegmdhbpaaGreatDoor
