/- Contracts and plain lemmas (TreeA, TreeB): no statement of the seat is proved here. -/
import Derived.Test.YtpobmoegmdhbpaaGreatDoorXq02
import Derived.Deep.RegionHeld3
/- Walks:the sizes and depths of trees (package ast,package backstepref04),equality of a tree with itself. -/
set_option linter.unusedSimpArgs false
set_option linter.unusedVariables false
set_option linter.unusedSectionVars false
set_option maxRecDepth 100000
set_option maxHeartbeats 1600000
namespace Go.Proofs.YtpobmoegmdhbpaaGreatDoor
open Go.RowKit
theorem zgF (m:Nat):∀ (n:Nd) (v:Value) (A:Nat→Prop) (w:World),sizeN n≤m→sizeN n≤1000000→NdAt A w v n→
 Calls Tryz.prog 88 #[v] w fun e w'=>e=.returned (.int .i64 (sizeN n))∧Below w.heap.size w w':=by
 induction m with
 | zero=>intro n v A w hm;have:=zaH n;omega
 | succ m ih=>
   intro n v A w hm hmil hv
   have IH:=Lib.hid ih
   clear ih
   obtain ⟨hok,hlen,ka,kc,rfl,hk⟩:=hv.open
   have HS:Hid (∀ j,j < n.kids.length→sizeN (at' n.kids j)≤m∧sizeN (at' n.kids j)≤1000000):=Lib.hid (fun j hj=>by have:=zaC n j hj;omega)
   have HE:=Lib.hid (zbd n)
   have hsz:sizeL n.kids≤1000000:=by have:=HE.out;omega
   clear hmil hm
   unfold maxLen at hlen
   have hA:Below w.heap.size w (w.alloc (.cells #[.int .u8 n.kind,.int .i64 n.num,.string n.name,.slice ka n.kids.length kc] 34)):=(Below.refl _ _).alloc (Nat.le_refl _) _
   clear hv
   go_enter Tryz.func88,Tryz.ntmps88
   go_wp2
   go_loopw [3,9] (fun s i wr=>∃ k:Nat,k≤n.kids.length∧i=.int .i64 k∧s=.int .i64 (sizeL (n.kids.take k)+1)∧Below w.heap.size w wr) (fun _ i _=>n.kids.length - (intOf i).toNat)
   case atStart=>exact ⟨0,Nat.zero_le _,rfl,rfl,hA⟩
   case round=>
    obtain ⟨k,hkk,rfl,rfl,hbl⟩:=hrel
    have hz:=hbl.size
    have hs1:=zaL n.kids k
    by_cases hlt:k < n.kids.length
    · obtain ⟨b,off,cap,ka',kc',he,hb,_,_,c0,c1,c2,c3,hnd⟩:=(hk.stays (Stays.of_below hbl)).at hlt
      simp only [Value.slice.injEq] at he
      obtain ⟨rfl,-,rfl⟩:=he
      have hA2:Below wr.heap.size wr (wr.alloc (.cells #[.int .u8 (at' n.kids k).kind,.int .i64 (at' n.kids k).num,.string (at' n.kids k).name,.slice ka' (at' n.kids k).kids.length kc'] 34)):=(Below.refl _ _).alloc (Nat.le_refl _) _
      have HT:=Lib.hid (zbm n.kids k hlt)
      have hsk:=(HS.out k hlt).2
      go_wp2_with fail
      refine (IH.out (at' n.kids k) _ A _ (HS.out k hlt).1 hsk (hnd.stays (Stays.of_below hA2))).mono ?_
      rintro e w2 ⟨rfl,hb2⟩
      have hB2:Below w.heap.size w w2:=hbl.trans ((hA2.trans (hb2.mono (by simp))).mono hz)
      go_wp2
      go_roundw
      case rel=>exact ⟨k+1,by omega,by go_num,by rw [HT.out];go_num,hB2⟩
      case measure=>simp [intOf];omega
    · obtain rfl:k=n.kids.length:=by omega
      rw [List.take_length] at *
      go_wp2
      go_ret
      rw [HE.out]
      exact ⟨by go_num,hbl⟩
theorem zeM (n:Nd) (v:Value) (A:Nat→Prop) (w:World) (h:sizeN n≤1000000) (hv:NdAt A w v n):Calls Tryz.prog 88 #[v] w fun e w'=>e=.returned (.int .i64 (sizeN n))∧Below w.heap.size w w':=zgF _ n v A w (Nat.le_refl _) h hv
theorem zgc (m:Nat):∀ (n:Nd) (v:Value) (A:Nat→Prop) (w:World),sizeN n≤m→sizeN n≤1000000→NdAt A w v n→
 Calls Tryz.prog 87 #[v] w fun e w'=>e=.returned (.int .i64 (depthN n))∧Below w.heap.size w w':=by
 induction m with
 | zero=>intro n v A w hm;have:=zaH n;omega
 | succ m ih=>
   intro n v A w hm hmil hv
   have IH:=Lib.hid ih
   clear ih
   obtain ⟨hok,hlen,ka,kc,rfl,hk⟩:=hv.open
   have HS:Hid (∀ j,j < n.kids.length→sizeN (at' n.kids j)≤m∧sizeN (at' n.kids j)≤1000000):=Lib.hid (fun j hj=>by have:=zaC n j hj;omega)
   have HD:=Lib.hid (zds n)
   have hsz:sizeL n.kids≤1000000:=by have:=zbd n;omega
   clear hmil hm
   unfold maxLen at hlen
   have hA:Below w.heap.size w (w.alloc (.cells #[.int .u8 n.kind,.int .i64 n.num,.string n.name,.slice ka n.kids.length kc] 34)):=(Below.refl _ _).alloc (Nat.le_refl _) _
   clear hv
   go_enter Tryz.func87,Tryz.ntmps87
   go_wp2
   go_loopw [3,9] (fun d i wr=>∃ k:Nat,k≤n.kids.length∧i=.int .i64 k∧d=.int .i64 (depthL (n.kids.take k))∧Below w.heap.size w wr) (fun _ i _=>n.kids.length - (intOf i).toNat)
   case atStart=>exact ⟨0,Nat.zero_le _,rfl,rfl,hA⟩
   case round=>
    obtain ⟨k,hkk,rfl,rfl,hbl⟩:=hrel
    have hz:=hbl.size
    have hs1:=zaL n.kids k
    have hd1:=zdd (n.kids.take k)
    by_cases hlt:k < n.kids.length
    · obtain ⟨b,off,cap,ka',kc',he,hb,_,_,c0,c1,c2,c3,hnd⟩:=(hk.stays (Stays.of_below hbl)).at hlt
      simp only [Value.slice.injEq] at he
      obtain ⟨rfl,-,rfl⟩:=he
      have hA2:Below wr.heap.size wr (wr.alloc (.cells #[.int .u8 (at' n.kids k).kind,.int .i64 (at' n.kids k).num,.string (at' n.kids k).name,.slice ka' (at' n.kids k).kids.length kc'] 34)):=(Below.refl _ _).alloc (Nat.le_refl _) _
      have HU:=Lib.hid (zcY n.kids k hlt)
      have hsk:=(HS.out k hlt).2
      have hdk:=zfK (at' n.kids k)
      go_wp2_with fail
      refine (IH.out (at' n.kids k) _ A _ (HS.out k hlt).1 hsk (hnd.stays (Stays.of_below hA2))).mono ?_
      rintro e w2 ⟨rfl,hb2⟩
      have hB2:Below w.heap.size w w2:=hbl.trans ((hA2.trans (hb2.mono (by simp))).mono hz)
      go_wp2
      go_roundw
      case rel=>exact ⟨k+1,by omega,by go_num,by rw [HU.out];first|exact zne _ _|(congr 1;omega)|(congr 1;simp),hB2⟩
      case measure=>simp [intOf];omega
    · obtain rfl:k=n.kids.length:=by omega
      rw [List.take_length] at *
      go_wp2
      go_ret
      rw [HD.out]
      exact ⟨by go_num,hbl⟩
theorem zdT (n:Nd) (v:Value) (A:Nat→Prop) (w:World) (h:sizeN n≤1000000) (hv:NdAt A w v n):Calls Tryz.prog 87 #[v] w fun e w'=>e=.returned (.int .i64 (depthN n))∧Below w.heap.size w w':=zgc _ n v A w (Nat.le_refl _) h hv
end Go.Proofs.YtpobmoegmdhbpaaGreatDoor
/- Walks:equality of a tree with itself (package backstepref04),the budget of nodes (package backsteplaw40). -/
namespace Go.Proofs.YtpobmoegmdhbpaaGreatDoor
open Go.RowKit
end Go.Proofs.YtpobmoegmdhbpaaGreatDoor
