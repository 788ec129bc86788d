/- Contracts and plain lemmas for the law (PAnf, Shelf, AnfA, AnfB, AnfC, AnfD, AnfE, AnfF): no statement of the seat is proved here. -/
import Derived.Test.YtehmmokkjojggabGreatDoorZa02
import Derived.Lib.ItoaNum
import Derived.Shelf.LaysM
import Derived.Shelf.Strconv.Itoa3
import Derived.Test.YtehmmokkjojggabGreatDoorProg
import Derived.Lib.AppendIntMem
import Derived.Deep.LoopGhost
import Derived.Deep.RegionLaw
import Derived.Handy
/- A-normal form, as plain definitions: no program in sight. -/
namespace Go.Proofs.YtehmmokkjojggabGreatDoor
set_option linter.unusedVariables false

/-- a bind -/
inductive Bd where
  | mk (to : ByteArray) (list : Bool) (op num : Int) (name : ByteArray) (args : List ByteArray) (thn els : List Bd)
instance : Inhabited Bd := ⟨.mk ByteArray.empty false 0 0 ByteArray.empty [] [] []⟩
def Bd.to : Bd → ByteArray | .mk a _ _ _ _ _ _ _ => a
def Bd.list : Bd → Bool | .mk _ a _ _ _ _ _ _ => a
def Bd.op : Bd → Int | .mk _ _ a _ _ _ _ _ => a
def Bd.num : Bd → Int | .mk _ _ _ a _ _ _ _ => a
def Bd.name : Bd → ByteArray | .mk _ _ _ _ a _ _ _ => a
def Bd.args : Bd → List ByteArray | .mk _ _ _ _ _ a _ _ => a
def Bd.thn : Bd → List Bd | .mk _ _ _ _ _ _ a _ => a
def Bd.els : Bd → List Bd | .mk _ _ _ _ _ _ _ a => a

/-- a normalized function -/
structure AFn where
  name : ByteArray
  params : List Par
  list : Bool
  temps : List Par
  body : List Bd
  result : ByteArray
instance : Inhabited AFn := ⟨⟨ByteArray.empty, [], false, [], [], ByteArray.empty⟩⟩

/-- the variables and what holds their values -/
abbrev Env := ByteArray → Option Par
def Env.put (v : Env) (s : ByteArray) (p : Par) : Env := fun y => if y = s then some p else v y

/-- the name of the i-th temporary -/
def tname (i : Nat) : ByteArray := ⟨(116 :: Lib.decDigits i).toArray⟩

/-- the i-th temporary gets its type -/
def setTy (ts : List Par) (i : Nat) (b : Bool) : List Par := ts.set i ⟨(at' ts i).name, b⟩

/-- an expression names a variable -/
def namesN : Nat → Nd → Bool
  | 0, n => decide (n.kind = 81)
  | d + 1, n => if n.kind = 84 then namesN d (at' n.kids 1) else decide (n.kind = 81)

/-- the type of an operation's result -/
def opList (k : Int) : Bool := decide (k = 86) || (decide (k = 87) || decide (k = 89))

/-- what an expression leaves: the temporaries, its binds, the variable that has its value, the variables -/
structure XR where
  ts : List Par
  bs : List Bd
  par : Par
  env : Env
/-- what a row of arguments leaves -/
structure YR where
  ts : List Par
  bs : List Bd
  args : List ByteArray
  env : Env
def Env.cut (v : Env) (s : ByteArray) : Env := fun y => if y = s then none else v y
/-- a plain bind of one argument -/
def varB (to : ByteArray) (list : Bool) (x : ByteArray) : Bd := .mk to list 81 0 ByteArray.empty [x] [] []

mutual
/-- an expression, as the code takes it -/
def exprN (lib : List Fn) : Nd → Env → List Par → XR
  | .mk k num name kids, env, ts =>
    if k = 81 then ⟨ts, [], (env name).getD default, env⟩
    else if k = 84 then
      match kids with
      | [a, b] =>
        let x := exprN lib a env ts
        let y := exprN lib b (x.env.put name x.par) x.ts
        ⟨y.ts, x.bs ++ y.bs, y.par, y.env.cut name⟩
      | _ => ⟨ts, [], default, env⟩
    else if k = 83 then
      match kids with
      | [c, a, b] =>
        let x := exprN lib c env ts
        let i := x.ts.length
        let y := exprN lib a x.env (x.ts ++ [⟨tname i, false⟩])
        let ts1 := setTy y.ts i y.par.list
        let z := exprN lib b y.env ts1
        let ts2 := setTy z.ts i z.par.list
        let t1 := at' ts1 i
        let t2 := at' ts2 i
        ⟨ts2, x.bs ++ [.mk t2.name t2.list 83 0 ByteArray.empty [x.par.name] (y.bs ++ [varB t1.name t1.list y.par.name]) (z.bs ++ [varB t2.name t2.list z.par.name])], t2, z.env⟩
      | _ => ⟨ts, [], default, env⟩
    else
      let r := argsN lib (decide (k = 85)) kids env ts
      let list := if k = 85 then (fnAt lib (findF lib name)).list else opList k
      let t : Par := ⟨tname r.ts.length, list⟩
      ⟨r.ts ++ [t], r.bs ++ [.mk t.name list k (if k = 85 then 0 else num) (if k = 85 then name else ByteArray.empty) r.args [] []], t, r.env⟩
/-- the arguments of an operation or of a call -/
def argsN (lib : List Fn) (call : Bool) : List Nd → Env → List Par → YR
  | [], env, ts => ⟨ts, [], [], env⟩
  | n :: r, env, ts =>
    let x := exprN lib n env ts
    if call && namesN (sizeN n) n then
      let z := argsN lib call r x.env (x.ts ++ [⟨tname x.ts.length, x.par.list⟩])
      ⟨z.ts, x.bs ++ varB (tname x.ts.length) x.par.list x.par.name :: z.bs, tname x.ts.length :: z.args, z.env⟩
    else
      let z := argsN lib call r x.env x.ts
      ⟨z.ts, x.bs ++ z.bs, x.par.name :: z.args, z.env⟩
end

/-- the parameters as variables -/
def parsEnv (l : List Par) : Env := l.foldl (fun v p => v.put p.name p) (fun _ => none)

def normF (lib : List Fn) (f : Fn) : AFn :=
  let x := exprN lib f.body (parsEnv f.params) []
  ⟨f.name, f.params, f.list, x.ts, x.bs, x.par.name⟩
def normL (lib : List Fn) : List AFn := lib.map (normF lib)

theorem setTy_len (ts : List Par) (i : Nat) (b : Bool) : (setTy ts i b).length = ts.length := by simp [setTy]

mutual
/-- how much an expression adds -/
theorem expr_len (lib : List Fn) : ∀ (n : Nd) (env : Env) (ts : List Par), ts.length ≤ (exprN lib n env ts).ts.length ∧ (exprN lib n env ts).ts.length + 1 ≤ ts.length + 2 * sizeN n ∧ (exprN lib n env ts).bs.length + 1 ≤ 2 * sizeN n
  | .mk k num name kids, env, ts => by
    unfold exprN
    rw [sizeN]
    split
    · exact ⟨Nat.le_refl _, by simp only []; omega, by simp only [List.length_nil]; omega⟩
    · split
      · split
        · rename_i a b
          have ha := expr_len lib a env ts
          have hb := expr_len lib b ((exprN lib a env ts).env.put name (exprN lib a env ts).par) (exprN lib a env ts).ts
          simp only [sizeL, List.length_append]
          omega
        · exact ⟨Nat.le_refl _, by simp only []; omega, by simp only [List.length_nil]; omega⟩
      · split
        · split
          · rename_i c a b
            have hc := expr_len lib c env ts
            have ha := expr_len lib a (exprN lib c env ts).env ((exprN lib c env ts).ts ++ [⟨tname (exprN lib c env ts).ts.length, false⟩])
            have hb := expr_len lib b (exprN lib a (exprN lib c env ts).env ((exprN lib c env ts).ts ++ [⟨tname (exprN lib c env ts).ts.length, false⟩])).env (setTy (exprN lib a (exprN lib c env ts).env ((exprN lib c env ts).ts ++ [⟨tname (exprN lib c env ts).ts.length, false⟩])).ts (exprN lib c env ts).ts.length (exprN lib a (exprN lib c env ts).env ((exprN lib c env ts).ts ++ [⟨tname (exprN lib c env ts).ts.length, false⟩])).par.list)
            simp only [setTy_len, List.length_append, List.length_singleton] at ha hb
            simp only [sizeL, setTy_len, List.length_append, List.length_singleton]
            omega
          · exact ⟨Nat.le_refl _, by simp only []; omega, by simp only [List.length_nil]; omega⟩
        · have h := args_len lib (decide (k = 85)) kids env ts
          simp only [List.length_append, List.length_singleton]
          omega
theorem args_len (lib : List Fn) (call : Bool) : ∀ (l : List Nd) (env : Env) (ts : List Par), ts.length ≤ (argsN lib call l env ts).ts.length ∧ (argsN lib call l env ts).ts.length ≤ ts.length + 2 * sizeL l ∧ (argsN lib call l env ts).bs.length ≤ 2 * sizeL l
  | [], env, ts => by rw [argsN]; simp
  | n :: r, env, ts => by
    rw [argsN, sizeL]
    have hn := expr_len lib n env ts
    split
    · have hr := args_len lib call r (exprN lib n env ts).env ((exprN lib n env ts).ts ++ [⟨tname (exprN lib n env ts).ts.length, (exprN lib n env ts).par.list⟩])
      simp only [List.length_append, List.length_singleton] at hr
      simp only [List.length_append, List.length_cons]
      omega
    · have hr := args_len lib call r (exprN lib n env ts).env (exprN lib n env ts).ts
      simp only [List.length_append]
      omega
end
end Go.Proofs.YtehmmokkjojggabGreatDoor
/-
  DERIVED: THE SHELF's CONTRACTS AT THIS DUMP, IN PLAIN WORDS (tools/lay-plain.mjs out of 'TryzShelfB.lean', which tools/lay-shelf.mjs wrote): THE SAME DECLARATIONS UNDER THE SAME NAMES: 'import', 'namespace', 'open', 'def', 'theorem' AND NOTHING ELSE: no command of the shelf's: FOR A HAND-IN. Each laying: the table of numbers ('.._ren') and one theorem, a field a fact of the dump's own or the kernel's comparison; each contract: ONE APPLICATION.
-/
namespace Go.Proofs
open Go.Shelf
def Tryz.laysM171_ren : Go.Shelf.Ren := ⟨fun | 171 => 112 | 243 => 130 | 246 => 138 | 283 => 149 | 284 => 150 | 285 => 151 | 286 => 152 | 129 => 156 | 317 => 155 | 318 => 157 | 319 => 158 | 320 => 159 | 337 => 162 | 338 => 163 | n => n, fun | 3 => 3 | 9 => 9 | 2 => 2 | 4 => 4 | 171 => 177 | 0 => 0 | 53 => 178 | 37 => 151 | 5 => 5 | 173 => 181 | 212 => 187 | 51 => 188 | 20 => 20 | 213 => 189 | 46 => 191 | 232 => 194 | 233 => 195 | n => n, fun | 17 => 0 | 18 => 1 | 19 => 2 | n => n⟩
theorem Tryz.laysM171 : Go.Proofs.LaysM.n171 Tryz.prog Tryz.laysM171_ren := {
  mixed := by kernel_rfl
  f129 := Tryz.func156.trans (congrArg some (by kernel_rfl))
  f171 := Tryz.func112.trans (congrArg some (by kernel_rfl))
  f243 := Tryz.func130.trans (congrArg some (by kernel_rfl))
  f246 := Tryz.func138.trans (congrArg some (by kernel_rfl))
  f283 := Tryz.func149.trans (congrArg some (by kernel_rfl))
  f284 := Tryz.func150.trans (congrArg some (by kernel_rfl))
  f285 := Tryz.func151.trans (congrArg some (by kernel_rfl))
  f286 := Tryz.func152.trans (congrArg some (by kernel_rfl))
  f317 := Tryz.func155.trans (congrArg some (by kernel_rfl))
  f318 := Tryz.func157.trans (congrArg some (by kernel_rfl))
  f319 := Tryz.func158.trans (congrArg some (by kernel_rfl))
  f320 := Tryz.func159.trans (congrArg some (by kernel_rfl))
  f337 := Tryz.func162.trans (congrArg some (by kernel_rfl))
  f338 := Tryz.func163.trans (congrArg some (by kernel_rfl))
  t0 := Tryz.underlying0
  a0 := Tryz.isAgg0
  z0 := Tryz.sizeOf0
  v0 := Tryz.zeroValue0
  t2 := Tryz.underlying2
  a2 := Tryz.isAgg2
  z2 := Tryz.sizeOf2
  v2 := Tryz.zeroValue2
  t3 := Tryz.underlying3
  a3 := Tryz.isAgg3
  z3 := Tryz.sizeOf3
  v3 := Tryz.zeroValue3
  t4 := Tryz.underlying4
  a4 := Tryz.isAgg4
  z4 := Tryz.sizeOf4
  v4 := Tryz.zeroValue4
  t5 := Tryz.underlying5
  a5 := Tryz.isAgg5
  z5 := Tryz.sizeOf5
  v5 := Tryz.zeroValue5
  t9 := Tryz.underlying9
  a9 := Tryz.isAgg9
  z9 := Tryz.sizeOf9
  v9 := Tryz.zeroValue9
  t20 := Tryz.underlying20
  a20 := Tryz.isAgg20
  z20 := Tryz.sizeOf20
  v20 := Tryz.zeroValue20
  t37 := Tryz.underlying151
  a37 := Tryz.isAgg151
  z37 := Tryz.sizeOf151
  v37 := Tryz.zeroValue151
  t46 := Tryz.underlying191
  a46 := Tryz.isAgg191
  z46 := Tryz.sizeOf191
  v46 := Tryz.zeroValue191
  t51 := Tryz.underlying188
  a51 := Tryz.isAgg188
  z51 := Tryz.sizeOf188
  v51 := Tryz.zeroValue188
  t53 := Tryz.underlying178
  a53 := Tryz.isAgg178
  z53 := Tryz.sizeOf178
  v53 := Tryz.zeroValue178
  t171 := Tryz.underlying177
  a171 := Tryz.isAgg177
  z171 := Tryz.sizeOf177
  v171 := Tryz.zeroValue177
  t173 := Tryz.underlying181
  a173 := Tryz.isAgg181
  z173 := Tryz.sizeOf181
  v173 := Tryz.zeroValue181
  t212 := Tryz.underlying187
  a212 := Tryz.isAgg187
  z212 := Tryz.sizeOf187
  v212 := Tryz.zeroValue187
  t213 := Tryz.underlying189
  a213 := Tryz.isAgg189
  z213 := Tryz.sizeOf189
  t232 := Tryz.underlying194
  a232 := Tryz.isAgg194
  z232 := Tryz.sizeOf194
  v232 := Tryz.zeroValue194
  t233 := Tryz.underlying195
  a233 := Tryz.isAgg195
  z233 := Tryz.sizeOf195
  v233 := Tryz.zeroValue195
  g17 := by kernel_rfl
  g18 := by kernel_rfl
  g19 := by kernel_rfl
  i0 := by kernel_rfl
  i2 := by kernel_rfl
  i3 := by kernel_rfl
  i4 := by kernel_rfl
  i5 := by kernel_rfl
  i9 := by kernel_rfl
  i20 := by kernel_rfl
  i37 := by kernel_rfl
  i46 := by kernel_rfl
  i51 := by kernel_rfl
  i53 := by kernel_rfl
  i171 := by kernel_rfl
  i173 := by kernel_rfl
  i212 := by kernel_rfl
  i232 := by kernel_rfl
  i233 := by kernel_rfl
  m17 := by kernel_rfl
  m18 := by kernel_rfl
  m19 := by kernel_rfl }
open Go.RowKit Go.Sort Go.Lib in
/-- strconv.Itoa: "Itoa is equivalent to FormatInt(int64(i), 10).": i's DECIMAL NUMERAL ('Lib.itoa': a '-' where i is negative, then the digits), FOR EVERY int. The world behind the call: the world before it, new blocks behind the heap (the library's 'var a [24]byte'), draws. (LAID: no walk: one application.) -/
theorem Tryz.strconv_Itoa (n : Int) (h0 : -9223372036854775808 ≤ n) (h1 : n ≤ 9223372036854775807) (w : World) (htab : Lib.TabIs Tryz.prog w "internal/strconv.uint64pow10" .u64 Lib.pow10Tab) :
    Calls Tryz.prog 112 #[.int .i64 n] w fun e w' => e = .returned (.string ⟨(Lib.itoa n).toArray⟩) ∧ ∃ k os, w' = grow (w.drewN k) os := Any.strconv_Itoa Tryz.laysM171 n h0 h1 w htab
end Go.Proofs
/- Walks: strconv.Itoa in this text's words, anf.names. -/
namespace Go.Proofs.YtehmmokkjojggabGreatDoor
set_option linter.unusedVariables false
open Go.RowKit

/-- the library's table of powers lies where it was laid -/
def Tab (w : World) : Prop := Lib.TabIs Tryz.prog w "internal/strconv.uint64pow10" .u64 Lib.pow10Tab

theorem Tab.keeps {w w' : World} {S : Nat → Prop} (h : Tab w) (hk : Keeps w w' S) {B : Nat} (hB : ∀ k, S k → B ≤ k) (hT : ∀ g, Tryz.prog.globalNamed "internal/strconv.uint64pow10" = some g → g < B) : Tab w' := by
  unfold Tab Lib.TabIs World.var? at h ⊢
  cases hg : Tryz.prog.globalNamed "internal/strconv.uint64pow10" with
  | none => simp [hg] at h
  | some g =>
    simp only [hg, Option.bind_some] at h ⊢
    have hlt : g < w.heap.size := by
      rcases Nat.lt_or_ge g w.heap.size with h' | h'
      · exact h'
      · simp [Array.getElem?_eq_none h'] at h
    rw [hk.block g hlt (fun hs => by have := hB g hs; have := hT g hg; omega)]
    exact h
theorem Tab.lt {w : World} (h : Tab w) : ∀ g, Tryz.prog.globalNamed "internal/strconv.uint64pow10" = some g → g < w.heap.size := by
  intro g hg
  unfold Tab Lib.TabIs World.var? at h
  simp only [hg, Option.bind_some] at h
  rcases Nat.lt_or_ge g w.heap.size with h' | h'
  · exact h'
  · simp [Array.getElem?_eq_none h'] at h
theorem Tab.below {w w' : World} (h : Tab w) (hb : Below w.heap.size w w') : Tab w' := h.keeps (S := fun _ => False) (Keeps.of_below _ hb) (B := w.heap.size) (fun _ e => e.elim) h.lt

theorem itoa_any (n : Nat) (w : World) (hn : n ≤ 1000000) (ht : Tab w) :
    Calls Tryz.prog 112 #[.int .i64 n] w fun e w' => e = .returned (.string ⟨(Lib.decDigits n).toArray⟩) ∧ Below w.heap.size w w' := by
  refine (Tryz.strconv_Itoa (n : Int) (by omega) (by omega) w ht).mono ?_
  rintro e w' ⟨rfl, k, os, rfl⟩
  refine ⟨?_, Lib.below_grow _ w (Nat.le_refl _) k os⟩
  have : Lib.itoa (n : Int) = Lib.decDigits n := by simp [Lib.itoa]
  rw [this]

set_option maxRecDepth 100000 in
set_option maxHeartbeats 1600000 in
theorem names_any (v : Value) (n : Nd) (A : Nat → Prop) (w : World) (hv : NdAt A w v n) (hform : formedN n = true) :
    Calls Tryz.prog 140 #[v] w fun e w' => e = .returned (.bool (namesN (sizeN n) n)) ∧ Below w.heap.size w w' := by
  obtain ⟨hok, hlen, ka, kc, rfl, hk⟩ := hv.open
  have HFO := Lib.hid hform
  clear hform
  have hA : Below w.heap.size w (w.alloc (.cells #[.int .u8 n.kind, .int .i64 n.num, .string n.name, .slice ka n.kids.length kc] 35)) := (Below.refl _ _).alloc (Nat.le_refl _) _
  have hb0 := at_new0 w (.cells #[.int .u8 n.kind, .int .i64 n.num, .string n.name, .slice ka n.kids.length kc] 35)
  go_enter Tryz.func140, Tryz.ntmps140
  go_wp2
  go_loopg [] (sizeN n) (fun d wr => ∃ (cur : Nd) (ka' : Option Addr) (kc' : Nat), namesN (sizeN n) n = namesN d cur ∧ sizeN cur ≤ d ∧ formedN cur = true ∧ wr.heap[w.heap.size]? = some (.cells #[.int .u8 cur.kind, .int .i64 cur.num, .string cur.name, .slice ka' cur.kids.length kc'] 35 (0, 0)) ∧ NdAt A w (.agg #[.int .u8 cur.kind, .int .i64 cur.num, .string cur.name, .slice ka' cur.kids.length kc']) cur ∧ Below w.heap.size w wr)
  case atStart => exact ⟨n, ka, kc, rfl, Nat.le_refl _, HFO.out, hb0, hv, hA⟩
  case round =>
    clear hb0 hA hk
    obtain ⟨cur, ka', kc', hnm, hsz, hfo, hbk, hnd, hbl⟩ := hrel
    have c0 := cell_blk hbk 0 rfl
    have c1 := cell_blk hbk 1 rfl
    have c2 := cell_blk hbk 2 rfl
    have c3 := cell_blk hbk 3 rfl
    have f0 : wr.frozen? ⟨w.heap.size, 0, none⟩ = false := by simp [World.frozen?, hbk]
    have f1 : wr.frozen? ⟨w.heap.size, 1, none⟩ = false := by simp [World.frozen?, hbk]
    have f2 : wr.frozen? ⟨w.heap.size, 2, none⟩ = false := by simp [World.frozen?, hbk]
    have f3 : wr.frozen? ⟨w.heap.size, 3, none⟩ = false := by simp [World.frozen?, hbk]
    have HB := Lib.hid hbk
    have HNM := Lib.hid hnm
    have hp := size_pos cur
    clear hbk hnm
    by_cases h84 : cur.kind = 84
    · have d84 : (cur.kind == 84) = true := by simpa using h84
      have hk2 := formed_let hfo h84
      obtain ⟨_, _, ka2, kc2, he, hkids⟩ := hnd.open
      simp only [Value.agg.injEq, Array.mk.injEq, List.cons.injEq, Value.slice.injEq, and_true, true_and] at he
      obtain ⟨rfl, rfl⟩ := he
      obtain ⟨b, off, cap, ka3, kc3, he, hb, _, _, k0, k1, k2, k3, hnd3⟩ := hkids.at (j := 1) (by omega)
      simp only [Value.slice.injEq] at he
      obtain ⟨rfl, -, rfl⟩ := he
      have r0 := (hbl.cell (p := ⟨b, off + 1 * 4, none⟩) hb).trans k0
      have r1 := (hbl.cell (p := ⟨b, off + 1 * 4 + 1, none⟩) hb).trans k1
      have r2 := (hbl.cell (p := ⟨b, off + 1 * 4 + 2, none⟩) hb).trans k2
      have r3 := (hbl.cell (p := ⟨b, off + 1 * 4 + 3, none⟩) hb).trans k3
      simp only [Nat.one_mul] at r0 r1 r2 r3
      have HK2 := Lib.hid hk2
      have hlt : (1 : Int) < (cur.kids.length : Int) := by omega
      have hs3 := size_kid cur 1 (by omega)
      have hf3 := Lib.hid (formed_kid hfo (j := 1) (by omega))
      clear hk2 k0 k1 k2 k3 hkids
      go_wp2
      go_roundg (gk - 1)
      case measure => omega
      case rel =>
        have e0 := heap_setCell_same wr _ 0 _ _ (.int .u8 (at' cur.kids 1).kind) HB.out
        have e1 := heap_setCell_same _ _ 1 _ _ (.int .i64 (at' cur.kids 1).num) e0
        have e2 := heap_setCell_same _ _ 2 _ _ (.string (at' cur.kids 1).name) e1
        have e3 := heap_setCell_same _ _ 3 _ _ (.slice ka3 (at' cur.kids 1).kids.length kc3) e2
        refine ⟨at' cur.kids 1, ka3, kc3, ?_, by omega, hf3.out, e3, hnd3, (((hbl.setCell (Nat.le_refl _) _).setCell (Nat.le_refl _) _).setCell (Nat.le_refl _) _).setCell (Nat.le_refl _) _⟩
        rw [HNM.out]
        match gk, hsz with
        | 0, hsz => omega
        | d + 1, _ => rw [namesN, if_pos h84]; rfl
    · have d84 : (cur.kind == 84) = false := by simpa using h84
      have HF : Hid (namesN (sizeN n) n = decide (cur.kind = 81)) := Lib.hid (by
        rw [HNM.out]
        match gk, hsz with
        | 0, hsz => omega
        | d + 1, _ => rw [namesN, if_neg h84])
      clear h84
      go_wp2
      go_ret
      rw [HF.out]
      exact ⟨rfl, hbl⟩
end Go.Proofs.YtehmmokkjojggabGreatDoor
/- Walks of package anf: the two closures of normalize. -/
namespace Go.Proofs.YtehmmokkjojggabGreatDoor
set_option linter.unusedVariables false
open Go.RowKit

theorem TPar : RowT Tryz.prog 28 57 (.agg #[.string ByteArray.empty, .bool false]) 2 24 := ⟨Tryz.underlying28, by kernel_rfl⟩

/-- a parameter as a value -/
def parV (p : Par) : Value := .agg #[.string p.name, .bool p.list]
/-- the cells of a row of parameters -/
def parCells (l : List Par) : List Value := l.flatMap fun p => [.string p.name, .bool p.list]
theorem parCells_len (l : List Par) : (parCells l).length = l.length * 2 := by
  induction l with
  | nil => rfl
  | cons p l ih => simp only [parCells, List.flatMap_cons, List.length_append, List.length_cons, List.length_nil] at ih ⊢; omega
theorem parCells_append (l m : List Par) : parCells (l ++ m) = parCells l ++ parCells m := by simp [parCells]

/-- an append as one step of a region that draws -/
theorem step_append {P : Program} {t e : TypeId} {z : Value} {size bytes : Nat} (R : RowT P t e z size bytes) (hzs : z.cells.size = size) (hsz : 0 < size) {w : World} {ops : Array Oper} {o : Oper} {a : Act} {K : Act → World → Prop} {Q : Exit → Act → World → Prop} {E : Prop} (hgd : o.guard = none) (s x : Operand)
    (ho : o.op = .call { callee := .builtin .append, args := #[s, x], argTypes := #[t, t] })
    {base : Nat} {v u : Value} {n m : Nat} {xs news : List Value} (hs : a.eval s = v) (hx : a.eval x = u) (hown : w.ownsRow base e size v n xs)
    (hu : u = .slice none 0 0 ∧ m = 0 ∧ news = [] ∨ ∃ ad c, u = .slice (some ad) m c ∧ ∀ j u, news[j]? = some u → w.cell? (ad.add j) = some u) (hl : news.length = m * size) (h1 : ∀ u ∈ news, u.oneCell' = true)
    (h63 : n + m ≤ maxLen) (hbytes : (n + m) * bytes ≤ 140737488355328) (hbase : base ≤ w.heap.size)
    (h : ∀ v' w1, w1.ownsRow base e size v' (n + m) (xs ++ news) → w.grownBy w1 v.ownBlock → NewOr w v v' → K (a.put o.dst v') w1) :
    if Region.wanted o (yielded ops a.tmps) = true then Oper.wp P o a w K Q else E := by
  have hw : Region.wanted o (yielded ops a.tmps) = true := by simp [Region.wanted, hgd]
  rw [if_pos hw]
  rcases hu with ⟨rfl, rfl, rfl⟩ | ⟨ad, c, rfl, hnews⟩
  · obtain ⟨i, hi, hz, hsize, hby⟩ := info_parts R.inf
    have hrun := run_append_owned_none (P := P) (w := w) base t o.type e i size R.und hi v n xs hown
    unfold Oper.wp
    simp [execOp, ho, resolve, invoke, builtin, hs, hx, hrun, Result.andThen]
    exact h v w (by simpa using hown) (World.grownBy.refl _ _) (fun k hk => .inl hk)
  · obtain ⟨v', w', hr, h2, h3, h4⟩ := run_append_new (P := P) w (ty := o.type) R hzs hsz base v n xs hown ad m c news hl hnews h1 h63 hbytes hbase
    unfold Oper.wp execOp
    simp only [ho, resolve, invoke, builtin, Sem.run_bind, Sem.run_pure, Result.andThen_ok, List.map_toArray, List.map_cons, List.map_nil, hs, hx, hr]
    exact h v' w' h2 h3 h4

theorem two_cells (w : World) (a b : Value) (e : TypeId) : ∀ j u, [a, b][j]? = some u → (w.alloc (.cells #[a, b] e)).cell? ((⟨w.heap.size, 0, none⟩ : Addr).add j) = some u := by
  intro j u hj
  match j, hj with
  | 0, hj => simp at hj; subst hj; simp [Addr.add]
  | 1, hj => simp at hj; subst hj; simp [Addr.add]
  | j + 2, hj => simp at hj

theorem dec_len (n : Nat) : (Lib.decDigits n).length ≤ n + 1 := by
  induction n using Nat.strongRecOn with
  | ind n ih =>
    rw [Lib.decDigits]
    split
    · simp
    · have := ih (n / 10) (by omega)
      simp only [List.length_append, List.length_singleton]; omega

/-- the function that normalize builds, and its row of temporaries -/
structure OutAt (w : World) (bo : Nat) (c0 c1 c2 c4 c5 tv : Value) (ts : List Par) : Prop where
  blk : w.heap[bo]? = some (.cells #[c0, c1, c2, tv, c4, c5] 31 (0, 0))
  own : w.ownsRow 0 57 2 tv ts.length (parCells ts)
  ne : tv.ownBlock ≠ some bo

theorem row_form {w : World} {base e size : Nat} {v : Value} {n : Nat} {xs : List Value} (h : w.ownsRow base e size v n xs) : ∃ a c, v = .slice a n c := by
  rcases h.2 with ⟨rfl, rfl⟩ | ⟨g, cap, cur, rfl, _⟩
  · exact ⟨none, 0, rfl⟩
  · exact ⟨_, _, rfl⟩

theorem OutAt.lt {w : World} {bo : Nat} {c0 c1 c2 c4 c5 tv : Value} {ts : List Par} (h : OutAt w bo c0 c1 c2 c4 c5 tv ts) : bo < w.heap.size := by
  have := h.blk
  rw [Array.getElem?_eq_some_iff] at this; exact this.1

theorem OutAt.still {w w1 w2 : World} {bo : Nat} {c0 c1 c2 c4 c5 tv : Value} {ts : List Par} (h : OutAt w bo c0 c1 c2 c4 c5 tv ts) (hb : Below w.heap.size w w1) (hg : w1.grownBy w2 tv.ownBlock) :
    w2.cell? ⟨bo, 3, none⟩ = some tv ∧ w2.frozen? ⟨bo, 3, none⟩ = false := by
  have e1 := (hg.block bo (Nat.lt_of_lt_of_le h.lt hb.size) (fun e => h.ne e.symm)).trans ((hb.block bo h.lt).trans h.blk)
  exact ⟨cell_blk e1 3 rfl, by simp [World.frozen?, e1]⟩

/-- behind the append and the store -/
theorem OutAt.push {w w1 w2 : World} {bo : Nat} {c0 c1 c2 c4 c5 tv tv' : Value} {ts : List Par} {p : Par} (h : OutAt w bo c0 c1 c2 c4 c5 tv ts) (hb : Below w.heap.size w w1)
    (hown : w2.ownsRow 0 57 2 tv' (ts.length + 1) (parCells ts ++ [.string p.name, .bool p.list])) (hg : w1.grownBy w2 tv.ownBlock) (hn : NewOr w1 tv tv') :
    OutAt (w2.setCell ⟨bo, 3, none⟩ tv') bo c0 c1 c2 c4 c5 tv' (ts ++ [p]) ∧ Keeps w (w2.setCell ⟨bo, 3, none⟩ tv') (fun k => k = bo ∨ tv.ownBlock = some k) ∧ NewOr w tv tv' := by
  have hlt := h.lt
  have hlt1 : bo < w1.heap.size := Nat.lt_of_lt_of_le hlt hb.size
  have e1 : w2.heap[bo]? = some (.cells #[c0, c1, c2, tv, c4, c5] 31 (0, 0)) := (hg.block bo hlt1 (fun e => h.ne e.symm)).trans ((hb.block bo hlt).trans h.blk)
  have hne : tv'.ownBlock ≠ some bo := fun e => by
    rcases hn bo e with e | e
    · exact h.ne e
    · omega
  have hk1 : Keeps w2 (w2.setCell ⟨bo, 3, none⟩ tv') (fun k => k = bo) := ⟨rfl, rfl, rfl, by simp [World.setCell], fun k hk hs => heap_setCell_other w2 ⟨bo, 3, none⟩ k tv' (fun e => hs e)⟩
  refine ⟨⟨heap_setCell_same w2 bo 3 _ _ tv' e1, ?_, hne⟩, ?_, ?_⟩
  · have := row_keeps hown hk1 (fun k e e2 => hne (e2 ▸ e))
    rw [parCells_append, List.length_append]
    exact this
  · refine ((Keeps.of_below _ hb).trans (Keeps.of_grown (S := fun k => tv.ownBlock = some k) hg (fun k e => .inl e)) (fun k e => .inl (.inr e))).trans hk1 (fun k e => .inl (.inl e))
  · intro k e
    rcases hn k e with e | e
    · exact .inl e
    · exact .inr (Nat.le_trans hb.size e)

set_option maxRecDepth 100000 in
set_option maxHeartbeats 3200000 in
theorem fresh_any (w : World) (bo : Nat) (c0 c1 c2 c4 c5 tv : Value) (ts : List Par) (h : OutAt w bo c0 c1 c2 c4 c5 tv ts) (hl : ts.length ≤ 200000) (ht : Tab w) :
    Calls Tryz.prog 111 #[.pointer (some ⟨bo, 0, none⟩)] w fun e w' => e = .returned (.int .i64 ts.length) ∧ ∃ tv', OutAt w' bo c0 c1 c2 c4 c5 tv' (ts ++ [⟨tname ts.length, false⟩]) ∧ Keeps w w' (fun k => k = bo ∨ tv.ownBlock = some k) ∧ NewOr w tv tv' := by
  obtain ⟨a, c, rfl⟩ := row_form h.own
  have hc := cell_blk h.blk 3 rfl
  have hfr : w.frozen? ⟨bo, 3, none⟩ = false := by simp [World.frozen?, h.blk]
  have H := Lib.hid h
  have HT := Lib.hid ht
  have hlt := h.lt
  clear h ht
  go_enter Tryz.func111, Tryz.ntmps111
  go_wp2
  have hD : Below w.heap.size w w.drew := below_drewN (Below.refl _ _) 1
  have hdl : ¬ 9223372036854775807 < 1 + (Lib.decDigits ts.length).length := by have := dec_len ts.length; omega
  have HI := Lib.hid (itoa_any ts.length w.drew (by omega) (HT.out.below hD))
  go_region_law (first
    | (go_simp; go_at_call 112; refine HI.out.mono ?_; rintro e w1 ⟨rfl, hb⟩; have hB := hD.trans (hb.mono hD.size); have hc1 := (hB.cell (p := ⟨bo, 3, none⟩) hlt).trans hc; have hB2 := hB.alloc hB.size (.cells #[.string (⟨#[116]⟩ ++ ⟨(Lib.decDigits ts.length).toArray⟩), .bool false] 57); have hc3 := (hB2.cell (p := ⟨bo, 3, none⟩) hlt).trans hc; skip)
    | (refine step_append TPar (by rfl) (by decide) (by rfl) (.tmp 3) (.tmp 10) (by rfl) (by rfl) (by rfl) (row_below H.out.own hB2) (.inr ⟨⟨w1.heap.size, 0, none⟩, 1, by rfl, two_cells w1 _ _ _⟩) (by rfl) (by simp [Value.oneCell']) (by unfold maxLen; omega) (by omega) (Nat.zero_le _) ?_; intro v' w2 hown hg hnew; have hp := Lib.hid (H.out.push (p := ⟨tname ts.length, false⟩) hB2 hown hg hnew); obtain ⟨hc2, hf2⟩ := H.out.still hB2 hg; obtain ⟨a1, cap1, rfl⟩ := row_form hown))
  all_goals
    go_wp2
    go_ret
    refine ⟨by go_num, _, hp.out⟩
end Go.Proofs.YtehmmokkjojggabGreatDoor
/- Walks of package anf: the second closure of normalize. -/
namespace Go.Proofs.YtehmmokkjojggabGreatDoor
set_option linter.unusedVariables false
open Go.RowKit

theorem parCells_at : ∀ (l : List Par) (j : Nat), j < l.length → (parCells l)[j * 2]? = some (.string (at' l j).name) ∧ (parCells l)[j * 2 + 1]? = some (.bool (at' l j).list)
  | p :: l, 0, _ => ⟨rfl, rfl⟩
  | p :: l, j + 1, h => by
    have := parCells_at l j (by simpa using h)
    have e : parCells (p :: l) = .string p.name :: .bool p.list :: parCells l := rfl
    rw [e, show (j + 1) * 2 = j * 2 + 1 + 1 by omega, List.getElem?_cons_succ, List.getElem?_cons_succ, List.getElem?_cons_succ]
    simpa [at'] using this
theorem parCells_set : ∀ (l : List Par) (j : Nat) (b : Bool), parCells (setTy l j b) = (parCells l).set (j * 2 + 1) (.bool b)
  | [], j, b => by simp [setTy, parCells]
  | p :: l, 0, b => rfl
  | p :: l, j + 1, b => by
    have e1 : setTy (p :: l) (j + 1) b = p :: setTy l j b := rfl
    have e2 : ∀ (p : Par) (l : List Par), parCells (p :: l) = .string p.name :: .bool p.list :: parCells l := fun _ _ => rfl
    rw [e1, e2, e2, parCells_set l j b, show (j + 1) * 2 + 1 = (j * 2 + 1) + 1 + 1 by omega, List.set_cons_succ, List.set_cons_succ]

/-- the cells of a row of the call's own -/
theorem row_cell {w : World} {base e size : Nat} {v : Value} {n : Nat} {xs : List Value} (h : w.ownsRow base e size v n xs) (hn : 0 < n) :
    ∃ g cap cur, v = .slice (some ⟨g, 0, none⟩) n cap ∧ n ≤ cap ∧ w.heap[g]? = some (.cells cur e (0, 0)) ∧ cur.size = cap * size ∧ cap ≤ maxLen ∧ base ≤ g ∧ cur.toList.take (n * size) = xs ∧ ∀ j u, xs[j]? = some u → w.cell? ⟨g, j, none⟩ = some u := by
  rcases h.2 with ⟨rfl, hn'⟩ | ⟨g, cap, cur, rfl, hg, hh, hnc, hm, hs, ht⟩
  · omega
  · refine ⟨g, cap, cur, rfl, hnc, hh, hs, hm, hg, ht, fun j u hj => ?_⟩
    rw [← ht] at hj
    rw [List.getElem?_take] at hj
    split at hj
    · simp only [World.cell?, hh]
      simpa using hj
    · simp at hj
/-- a store into a row of the call's own -/
theorem row_set {w : World} {base e size g n cap : Nat} {xs : List Value} (h : w.ownsRow base e size (.slice (some ⟨g, 0, none⟩) n cap) n xs) (j : Nat) (x : Value) (hj : j < n * size) :
    (w.setCell ⟨g, j, none⟩ x).ownsRow base e size (.slice (some ⟨g, 0, none⟩) n cap) n (xs.set j x) := by
  obtain ⟨h0, ⟨h1, _⟩ | ⟨g', cap', cur, he, hg, hh, hnc, hm, hs, ht⟩⟩ := h
  · simp at h1
  · simp only [Value.slice.injEq, Option.some.injEq, Addr.mk.injEq, and_true, true_and] at he
    obtain ⟨rfl, rfl⟩ := he
    refine ⟨by simpa using h0, .inr ⟨g, cap, cur.setIfInBounds j x, rfl, hg, heap_setCell_same w g j cur e x hh, hnc, hm, by simpa using hs, ?_⟩⟩
    rw [← ht]
    simp [List.take_set]

theorem OutAt.below {w w' : World} {bo : Nat} {c0 c1 c2 c4 c5 tv : Value} {ts : List Par} (h : OutAt w bo c0 c1 c2 c4 c5 tv ts) (hb : Below w.heap.size w w') : OutAt w' bo c0 c1 c2 c4 c5 tv ts :=
  ⟨(hb.block bo h.lt).trans h.blk, row_below h.own hb, h.ne⟩
theorem OutAt.keeps {w w' : World} {bo : Nat} {c0 c1 c2 c4 c5 tv : Value} {ts : List Par} {S : Nat → Prop} (h : OutAt w bo c0 c1 c2 c4 c5 tv ts) (hk : Keeps w w' S) (h1 : ¬ S bo) (h2 : ∀ k, tv.ownBlock = some k → ¬ S k) : OutAt w' bo c0 c1 c2 c4 c5 tv ts :=
  ⟨(hk.block bo h.lt h1).trans h.blk, row_keeps h.own hk h2, h.ne⟩
theorem keeps_set (w : World) (g j : Nat) (x : Value) : Keeps w (w.setCell ⟨g, j, none⟩ x) (fun k => k = g) := ⟨rfl, rfl, rfl, by simp [World.setCell], fun k hk hs => heap_setCell_other w ⟨g, j, none⟩ k x (fun e => hs e)⟩
theorem OutAt.typed {w : World} {bo g cap : Nat} {c0 c1 c2 c4 c5 : Value} {ts : List Par} (h : OutAt w bo c0 c1 c2 c4 c5 (.slice (some ⟨g, 0, none⟩) ts.length cap) ts) (i : Nat) (b : Bool) (hi : i < ts.length) :
    OutAt (w.setCell ⟨g, i * 2 + 1, none⟩ (.bool b)) bo c0 c1 c2 c4 c5 (.slice (some ⟨g, 0, none⟩) ts.length cap) (setTy ts i b) := by
  have hne : ¬ bo = g := fun e => h.ne (by simp [Value.ownBlock, e])
  refine ⟨((keeps_set w g _ _).block bo h.lt hne).trans h.blk, ?_, h.ne⟩
  rw [setTy_len, parCells_set]
  exact row_set h.own _ _ (by omega)

set_option maxRecDepth 100000 in
set_option maxHeartbeats 3200000 in
theorem typed_any (w : World) (bo : Nat) (c0 c1 c2 c4 c5 tv : Value) (ts : List Par) (i : Nat) (b : Bool) (h : OutAt w bo c0 c1 c2 c4 c5 tv ts) (hl : ts.length ≤ 200000) (hi : i < ts.length) :
    Calls Tryz.prog 113 #[.int .i64 i, .bool b, .pointer (some ⟨bo, 0, none⟩)] w fun e w' => e = .returned (parV (at' (setTy ts i b) i)) ∧ OutAt w' bo c0 c1 c2 c4 c5 tv (setTy ts i b) ∧ Keeps w w' (fun k => tv.ownBlock = some k) := by
  obtain ⟨g, cap, cur, rfl, hnc, hh, hs, hm, _, hta, hcl⟩ := row_cell h.own (by omega)
  have hlt := h.lt
  have hglt : g < w.heap.size := by rw [Array.getElem?_eq_some_iff] at hh; exact hh.1
  have hA : Below w.heap.size w (w.alloc (.cells #[.string ⟨#[]⟩, .bool false] 57)) := (Below.refl _ _).alloc (Nat.le_refl _) _
  have hc := (hA.cell (p := ⟨bo, 3, none⟩) hlt).trans (cell_blk h.blk 3 rfl)
  obtain ⟨k0, k1⟩ := parCells_at ts i hi
  have r0 := (hA.cell (p := ⟨g, i * 2, none⟩) hglt).trans (hcl _ _ k0)
  have r1 := (hA.cell (p := ⟨g, i * 2 + 1, none⟩) hglt).trans (hcl _ _ k1)
  have hfz : (w.alloc (.cells #[.string ⟨#[]⟩, .bool false] 57)).frozen? ⟨g, i * 2 + 1, none⟩ = false := by
    have := hA.block g hglt
    simp [World.frozen?, this, hh]
  have h2 := h.typed i b hi
  have hA2 : Below (w.setCell ⟨g, i * 2 + 1, none⟩ (.bool b)).heap.size (w.setCell ⟨g, i * 2 + 1, none⟩ (.bool b)) ((w.setCell ⟨g, i * 2 + 1, none⟩ (.bool b)).alloc (.cells #[.string ⟨#[]⟩, .bool false] 57)) := (Below.refl _ _).alloc (Nat.le_refl _) _
  have hsz2 : (w.setCell ⟨g, i * 2 + 1, none⟩ (.bool b)).heap.size = w.heap.size := by simp [World.setCell]
  have d3 := (hA2.cell (p := ⟨bo, 3, none⟩) h2.lt).trans (cell_blk h2.blk 3 rfl)
  have hi2 : i < (setTy ts i b).length := by rw [setTy_len]; exact hi
  obtain ⟨g', cap', cur', he, _, _, _, _, _, _, hcl2⟩ := row_cell h2.own (by omega)
  simp only [Value.slice.injEq, Option.some.injEq, Addr.mk.injEq, and_true] at he
  obtain ⟨rfl, -, -⟩ := he
  obtain ⟨m0, m1⟩ := parCells_at (setTy ts i b) i hi2
  have q0 := (hA2.cell (p := ⟨g, i * 2, none⟩) (by rw [hsz2]; exact hglt)).trans (hcl2 _ _ m0)
  have q1 := (hA2.cell (p := ⟨g, i * 2 + 1, none⟩) (by rw [hsz2]; exact hglt)).trans (hcl2 _ _ m1)
  have HF := Lib.hid (show OutAt ((w.setCell ⟨g, i * 2 + 1, none⟩ (.bool b)).alloc (.cells #[.string (at' (setTy ts i b) i).name, .bool (at' (setTy ts i b) i).list] 57)) bo c0 c1 c2 c4 c5 (.slice (some ⟨g, 0, none⟩) ts.length cap) (setTy ts i b) ∧ Keeps w ((w.setCell ⟨g, i * 2 + 1, none⟩ (.bool b)).alloc (.cells #[.string (at' (setTy ts i b) i).name, .bool (at' (setTy ts i b) i).list] 57)) (fun k => (Value.slice (some ⟨g, 0, none⟩) ts.length cap).ownBlock = some k) from
    ⟨h2.below ((Below.refl _ _).alloc (Nat.le_refl _) _), ((keeps_set w g _ _).mono (fun k e => by simp [Value.ownBlock, e])).alloc _⟩)
  clear h hta hcl hs hcl2 h2 hA2 k0 k1 m0 m1 hA
  go_enter Tryz.func113, Tryz.ntmps113
  go_wp2
  go_returns
  exact ⟨rfl, HF.out⟩
end Go.Proofs.YtehmmokkjojggabGreatDoor
/- Walks of package anf: a new temporary. -/
namespace Go.Proofs.YtehmmokkjojggabGreatDoor
set_option linter.unusedVariables false
open Go.RowKit

/-- the visitor's block -/
def VisB (w : World) (bV bo bm : Nat) (lv : Value) : Prop :=
  w.heap[bV]? = some (.cells #[lv, .map (some bm), .func (.func 111) #[] #[.pointer (some ⟨bo, 0, none⟩)], .func (.func 113) #[] #[.pointer (some ⟨bo, 0, none⟩)]] 143 (0, 0))
theorem VisB.lt {w : World} {bV bo bm : Nat} {lv : Value} (h : VisB w bV bo bm lv) : bV < w.heap.size := by
  unfold VisB at h; rw [Array.getElem?_eq_some_iff] at h; exact h.1
theorem VisB.keeps {w w' : World} {bV bo bm : Nat} {lv : Value} {S : Nat → Prop} (h : VisB w bV bo bm lv) (hk : Keeps w w' S) (hn : ¬ S bV) : VisB w' bV bo bm lv := (hk.block bV h.lt hn).trans h

theorem setTy_new (ts : List Par) (s : ByteArray) (c b : Bool) : setTy (ts ++ [⟨s, c⟩]) ts.length b = ts ++ [⟨s, b⟩] := by
  simp [setTy, at']

theorem temp_ne {w w0 : World} {bo : Nat} {tv tv1 : Value} (hS : ∀ k, (k = bo ∨ tv.ownBlock = some k) → k < w.heap.size) (hs : w0.heap.size = w.heap.size + 1) (hn : NewOr w0 tv tv1) : ¬ tv1.ownBlock = some w.heap.size := fun e => by
  rcases hn _ e with e | e
  · exact absurd (hS _ (.inr e)) (Nat.lt_irrefl _)
  · omega
theorem unfrozen {w : World} {g e : Nat} {cs : Array Value} (h : w.heap[g]? = some (.cells cs e (0, 0))) (j : Nat) : w.frozen? ⟨g, j, none⟩ = false := by simp [World.frozen?, h]

theorem typed_new (w : World) (bo : Nat) (c0 c1 c2 c4 c5 tv : Value) (ts : List Par) (s : ByteArray) (b : Bool) (h : OutAt w bo c0 c1 c2 c4 c5 tv (ts ++ [⟨s, false⟩])) (hl : ts.length < 200000) :
    Calls Tryz.prog 113 #[.int .i64 ts.length, .bool b, .pointer (some ⟨bo, 0, none⟩)] w fun e w' => e = .returned (.agg #[.string s, .bool b]) ∧ OutAt w' bo c0 c1 c2 c4 c5 tv (ts ++ [⟨s, b⟩]) ∧ Keeps w w' (fun k => tv.ownBlock = some k) := by
  refine (typed_any w bo c0 c1 c2 c4 c5 tv _ ts.length b h (by simp; omega) (by simp)).mono ?_
  rw [setTy_new]
  rintro e w' ⟨rfl, h1, h2⟩
  exact ⟨by simp [at', parV], h1, h2⟩

set_option maxRecDepth 100000 in
set_option maxHeartbeats 3200000 in
theorem temp_any (w : World) (bV bo bm : Nat) (c0 c1 c2 c4 c5 tv lv : Value) (ts : List Par) (b : Bool) (hV : VisB w bV bo bm lv) (h : OutAt w bo c0 c1 c2 c4 c5 tv ts) (hne : bV ≠ bo) (hne2 : tv.ownBlock ≠ some bV) (hl : ts.length < 200000) (ht : Tab w) :
    Calls Tryz.prog 141 #[.pointer (some ⟨bV, 0, none⟩), .bool b] w fun e w' => e = .returned (parV ⟨tname ts.length, b⟩) ∧ ∃ tv', OutAt w' bo c0 c1 c2 c4 c5 tv' (ts ++ [⟨tname ts.length, b⟩]) ∧ Keeps w w' (fun k => k = bo ∨ tv.ownBlock = some k) ∧ NewOr w tv tv' := by
  have hA : Below w.heap.size w ((w.alloc (.cells #[.string ⟨#[]⟩, .bool false] 57)).drew) := below_drewN ((Below.refl _ _).alloc (Nat.le_refl _) _) 1
  have v2 := (hA.cell (p := ⟨bV, 2, none⟩) hV.lt).trans (cell_blk hV 2 rfl)
  have v3 := (hA.cell (p := ⟨bV, 3, none⟩) hV.lt).trans (cell_blk hV 3 rfl)
  have hn0 : ((w.alloc (.cells #[.string ⟨#[]⟩, .bool false] 57)).drew).heap[w.heap.size]? = some (.cells #[.string ⟨#[]⟩, .bool false] 57 (0, 0)) := heap_alloc_new w _
  have HS : Hid (∀ k, (k = bo ∨ tv.ownBlock = some k) → k < w.heap.size) := Lib.hid (by rintro k (rfl | e); exact h.lt; exact (h.own.lt k e).2)
  have hsz0 : ((w.alloc (.cells #[.string ⟨#[]⟩, .bool false] 57)).drew).heap.size = w.heap.size + 1 := by simp [World.drew]
  have hVl := hV.lt
  have HV := Lib.hid hV
  have H := Lib.hid h
  have HF := Lib.hid (fresh_any _ bo c0 c1 c2 c4 c5 tv ts (h.below hA) (by omega) (ht.below hA))
  clear h hV ht
  go_enter Tryz.func141, Tryz.ntmps141
  go_wp2
  go_region_law (first
    | (go_simp; go_at_call 111; refine HF.out.mono ?_; rintro e w1 ⟨rfl, tv1, ho1, hk1, hn1⟩; have v31 := (hk1.cell (p := ⟨bV, 3, none⟩) (by rw [hsz0]; exact Nat.lt_succ_of_lt hVl) (by rintro (e | e); exact hne e; exact hne2 e)).trans v3; have n1 := (hk1.block w.heap.size (by omega) (fun e => absurd (HS.out _ e) (Nat.lt_irrefl _))).trans hn0)
    | (go_simp; go_at_call 113; refine (typed_new w1 bo c0 c1 c2 c4 c5 tv1 ts _ b ho1 hl).mono ?_; rintro e w2 ⟨rfl, ho2, hk2⟩; have hne1 := temp_ne HS.out hsz0 hn1; have n2 := (hk2.block w.heap.size (by have := hk1.size; omega) hne1).trans n1; have m0 := cell_blk n2 0 rfl; have m1 := cell_blk n2 1 rfl; have g0 := unfrozen n2 0; have g1 := unfrozen n2 1))
  all_goals
    go_wp2
    have e0 := heap_setCell_same w2 _ 0 _ _ (.string (tname ts.length)) n2
    have e1 := heap_setCell_same _ _ 1 _ _ (.bool b) e0
    (try simp only [Exit.inBlock, Exit.then])
    refine bodyPost_ret (results_cell_row (P := Tryz.prog) rfl _ _ w.heap.size _ _ _ _ rfl e1 Tryz.underlying57 rfl (by kernel_rfl)) rfl ?_
    refine ⟨rfl, tv1, ?_, ?_, ?_⟩
    · exact (ho2.keeps (keeps_set w2 w.heap.size 0 _) (fun e => by have := HS.out bo (.inl rfl); omega) (fun k e e2 => hne1 (by rw [← (show k = w.heap.size from e2)]; exact e))).keeps (keeps_set _ w.heap.size 1 _) (fun e => by have := HS.out bo (.inl rfl); omega) (fun k e e2 => hne1 (by rw [← (show k = w.heap.size from e2)]; exact e))
    · refine ((((Keeps.of_below _ hA).trans hk1 (fun k e => .inl e)).trans hk2 (fun k e => ?_)).trans (keeps_set w2 w.heap.size 0 _) (fun k e => .inr (by omega))).trans (keeps_set _ w.heap.size 1 _) (fun k e => .inr (by omega))
      rcases hn1 k e with e | e
      · exact .inl (.inr e)
      · exact .inr (by omega)
    · intro k e
      rcases hn1 k e with e | e
      · exact .inl e
      · exact .inr (by omega)
end Go.Proofs.YtehmmokkjojggabGreatDoor
/- Rows of binds in the heap. -/
namespace Go.Proofs.YtehmmokkjojggabGreatDoor
set_option linter.unusedVariables false
open Go.RowKit

theorem TBd : RowT Tryz.prog 29 88 (.agg #[.string ByteArray.empty, .bool false, .int .u8 0, .int .i64 0, .string ByteArray.empty, .slice none 0 0, .slice none 0 0, .slice none 0 0]) 8 120 := ⟨Tryz.underlying29, by kernel_rfl⟩

/-- the fields of a bind fit -/
def Bd.Ok1 (b : Bd) : Prop := b.to.size ≤ maxLen ∧ (0 ≤ b.op ∧ b.op ≤ 255) ∧ In64 b.num ∧ b.name.size ≤ maxLen

/-- a slice of binds -/
inductive BdsAt (A : Nat → Prop) (w : World) : Value → List Bd → Prop
  | mk (v : Value) (l : List Bd) (cs : Nat → Nat → Value) (h : RowAt A w 8 v l.length cs)
      (hf : ∀ j, j < l.length → cs j 0 = .string (at' l j).to ∧ cs j 1 = .bool (at' l j).list ∧ cs j 2 = .int .u8 (at' l j).op ∧ cs j 3 = .int .i64 (at' l j).num ∧ cs j 4 = .string (at' l j).name ∧ StrsAt A w (cs j 5) (at' l j).args ∧ (at' l j).Ok1)
      (ht : ∀ j, j < l.length → BdsAt A w (cs j 6) (at' l j).thn) (he : ∀ j, j < l.length → BdsAt A w (cs j 7) (at' l j).els) : BdsAt A w v l

theorem BdsAt.stays {A A' : Nat → Prop} {w w' : World} (hs : Stays A A' w w') {v : Value} {l : List Bd} (h : BdsAt A w v l) : BdsAt A' w' v l := by
  induction h with
  | mk v l cs h hf ht he iht ihe => exact .mk v l cs (h.stays hs) (fun j hj => by obtain ⟨a0, a1, a2, a3, a4, a5, a6⟩ := hf j hj; exact ⟨a0, a1, a2, a3, a4, a5.stays hs, a6⟩) iht ihe
theorem BdsAt.nil {A : Nat → Prop} (w : World) : BdsAt A w (.slice none 0 0) [] := .mk _ [] (fun _ _ => undef) (RowAt.empty _ _ _) (fun j hj => by simp at hj) (fun j hj => by simp at hj) (fun j hj => by simp at hj)
theorem BdsAt.form {A : Nat → Prop} {w : World} {v : Value} {l : List Bd} (h : BdsAt A w v l) : l.length ≤ maxLen ∧ ∃ a c, v = .slice a l.length c := by
  cases h with
  | mk _ _ cs h hf ht he => exact ⟨h.1, h.form⟩

/-- the eight cells of a bind -/
structure BdCells (A : Nat → Prop) (w : World) (f : Nat → Value) (b : Bd) : Prop where
  c0 : f 0 = .string b.to
  c1 : f 1 = .bool b.list
  c2 : f 2 = .int .u8 b.op
  c3 : f 3 = .int .i64 b.num
  c4 : f 4 = .string b.name
  c5 : StrsAt A w (f 5) b.args
  c6 : BdsAt A w (f 6) b.thn
  c7 : BdsAt A w (f 7) b.els
  ok : b.Ok1
theorem BdCells.stays {A A' : Nat → Prop} {w w' : World} (hs : Stays A A' w w') {f : Nat → Value} {b : Bd} (h : BdCells A w f b) : BdCells A' w' f b := ⟨h.c0, h.c1, h.c2, h.c3, h.c4, h.c5.stays hs, h.c6.stays hs, h.c7.stays hs, h.ok⟩

/-- a row of binds of the call's own -/
def BdsOwn (A : Nat → Prop) (w : World) (v : Value) (l : List Bd) : Prop := ∃ xs, w.ownsRow 0 88 8 v l.length xs ∧ ∀ j, j < l.length → BdCells A w (fun i => vat xs (j * 8 + i)) (at' l j)
theorem BdsOwn.nil {A : Nat → Prop} (w : World) : BdsOwn A w (.slice none 0 0) [] := ⟨[], World.ownsRow_nil _ _ _ _, fun j hj => by simp at hj⟩

/-- a row that stays from now on -/
theorem BdsOwn.shut {A A' : Nat → Prop} {w : World} {v : Value} {l : List Bd} (h : BdsOwn A w v l) (hA : ∀ k, A k → A' k) (hv : ∀ k, v.ownBlock = some k → A' k) (hl : l.length ≤ maxLen) : BdsAt A' w v l := by
  obtain ⟨xs, hx, hf⟩ := h
  have hs : Stays A A' w w := ⟨Nat.le_refl _, fun b _ ha => ⟨rfl, hA b ha⟩⟩
  refine .mk v l (fun j i => vat xs (j * 8 + i)) ⟨hl, ?_⟩ (fun j hj => ?_) (fun j hj => ((hf j hj).stays hs).c6) (fun j hj => ((hf j hj).stays hs).c7)
  · obtain ⟨h0, ⟨rfl, h1⟩ | ⟨g, cap, cur, rfl, hg, hh, hn, hm, hc, ht⟩⟩ := hx
    · exact ⟨none, 0, by rw [h1], by omega, fun _ => rfl, fun h => by omega⟩
    · refine ⟨_, cap, rfl, hn, nofun, fun hp => ⟨g, 0, rfl, by rw [Array.getElem?_eq_some_iff] at hh; exact hh.1, hv g rfl, fun j hj i hi => ?_⟩⟩
      have hlt : j * 8 + i < xs.length := by omega
      have e : (0 : Nat) + j * 8 + i = j * 8 + i := by omega
      rw [e]
      simp only [World.cell?, hh, vat, List.getD_eq_getElem?_getD]
      have hx2 : xs[j * 8 + i]? = cur[j * 8 + i]? := by rw [← ht, List.getElem?_take, if_pos (by omega)]; simp
      rw [← hx2, List.getElem?_eq_getElem hlt]; rfl
  · have := (hf j hj).stays hs
    exact ⟨this.c0, this.c1, this.c2, this.c3, this.c4, this.c5, this.ok⟩
end Go.Proofs.YtehmmokkjojggabGreatDoor
/- The state of the visitor of package anf. -/
namespace Go.Proofs.YtehmmokkjojggabGreatDoor
set_option linter.unusedVariables false
open Go.RowKit

/-- where the row of binds is kept: in the function under way, or in a variable of its own -/
def PtrAt (w : World) (bo pb po : Nat) (bv c4 : Value) : Prop :=
  (pb = bo ∧ po = 4 ∧ c4 = bv) ∨ (pb ≠ bo ∧ po = 0 ∧ w.heap[pb]? = some (.cells #[bv] 29 (0, 0)))

/-- the blocks that the visitor writes -/
def Mut (bo bm pb : Nat) (tv bv : Value) (k : Nat) : Prop := k = bo ∨ k = bm ∨ k = pb ∨ tv.ownBlock = some k ∨ bv.ownBlock = some k

structure VSt (A : Nat → Prop) (w : World) (bV bo bm pb po N : Nat) (c0 c1 c2 c4 c5 tv bv lv : Value) (lib : List Fn) (ts : List Par) (bs : List Bd) (env : Env) : Prop where
  out : OutAt w bo c0 c1 c2 c4 c5 tv ts
  vis : VisB w bV bo bm lv
  lib : FnsAt A w lv lib
  map : SMapLe Tryz.prog 9 w bm (fun s => (env s).map parV) N
  ptr : PtrAt w bo pb po bv c4
  row : BdsOwn A w bv bs
  tab : Tab w
  tabA : ∀ g, Tryz.prog.globalNamed "internal/strconv.uint64pow10" = some g → A g
  visA : A bV
  alt : ∀ k, A k → k < w.heap.size
  mutA : ∀ k, Mut bo bm pb tv bv k → ¬ A k
  bobm : bo ≠ bm
  pbbm : pb ≠ bm
  tvbm : tv.ownBlock ≠ some bm
  tvpb : tv.ownBlock ≠ some pb
  bvbo : bv.ownBlock ≠ some bo
  bvbm : bv.ownBlock ≠ some bm
  bvpb : bv.ownBlock ≠ some pb
  sep : Sep tv bv

/-- what a step of the visitor leaves -/
def VLeft (A : Nat → Prop) (w w' : World) (bV bo bm pb po N : Nat) (c0 c1 c2 c4 c5 tv bv lv : Value) (lib : List Fn) (ts : List Par) (bs : List Bd) (env : Env) : Prop :=
  ∃ A' tv' bv' c4', VSt A' w' bV bo bm pb po N c0 c1 c2 c4' c5 tv' bv' lv lib ts bs env ∧ Keeps w w' (Mut bo bm pb tv bv) ∧ (∀ k, A k → A' k) ∧ (∀ k, A' k → A k ∨ w.heap.size ≤ k) ∧ NewOr w tv tv' ∧ NewOr w bv bv' ∧ (pb ≠ bo → c4' = c4)

theorem Mut.new {w : World} {bo bm pb k : Nat} {tv bv tv' bv' : Value} (h : Mut bo bm pb tv' bv' k) (h1 : NewOr w tv tv') (h2 : NewOr w bv bv') : Mut bo bm pb tv bv k ∨ w.heap.size ≤ k := by
  rcases h with h | h | h | h | h
  · exact .inl (.inl h)
  · exact .inl (.inr (.inl h))
  · exact .inl (.inr (.inr (.inl h)))
  · rcases h1 k h with h | h
    · exact .inl (.inr (.inr (.inr (.inl h))))
    · exact .inr h
  · rcases h2 k h with h | h
    · exact .inl (.inr (.inr (.inr (.inr h))))
    · exact .inr h
theorem NewOr.refl (w : World) (v : Value) : NewOr w v v := fun k h => .inl h
theorem NewOr.trans {w w1 : World} {u v x : Value} (h : NewOr w u v) (h' : NewOr w1 v x) (hs : w.heap.size ≤ w1.heap.size) : NewOr w u x := fun k e => by
  rcases h' k e with e | e
  · exact h k e
  · exact .inr (Nat.le_trans hs e)

theorem PtrAt.lt {w : World} {bo pb po : Nat} {bv c4 : Value} (h : PtrAt w bo pb po bv c4) (hb : bo < w.heap.size) : pb < w.heap.size := by
  rcases h with ⟨rfl, _⟩ | ⟨_, _, h⟩
  · exact hb
  · rw [Array.getElem?_eq_some_iff] at h; exact h.1
theorem PtrAt.keeps {w w' : World} {bo pb po : Nat} {bv c4 : Value} {S : Nat → Prop} (h : PtrAt w bo pb po bv c4) (hk : Keeps w w' S) (hn : ¬ S pb) : PtrAt w' bo pb po bv c4 := by
  rcases h with h | ⟨h0, h1, h2⟩
  · exact .inl h
  · exact .inr ⟨h0, h1, (hk.block pb (by rw [Array.getElem?_eq_some_iff] at h2; exact h2.1) hn).trans h2⟩

theorem BdsOwn.keeps {A : Nat → Prop} {w w' : World} {v : Value} {l : List Bd} {S : Nat → Prop} (h : BdsOwn A w v l) (hk : Keeps w w' S) (hA : ∀ k, A k → ¬ S k) (hv : ∀ k, v.ownBlock = some k → ¬ S k) : BdsOwn A w' v l := by
  obtain ⟨xs, hx, hf⟩ := h
  exact ⟨xs, row_keeps hx hk hv, fun j hj => (hf j hj).stays (hk.stays fun k a _ => hA k a)⟩
theorem BdsOwn.mono {A A' : Nat → Prop} {w : World} {v : Value} {l : List Bd} (h : BdsOwn A w v l) (hA : ∀ k, A k → A' k) : BdsOwn A' w v l := by
  obtain ⟨xs, hx, hf⟩ := h
  exact ⟨xs, hx, fun j hj => (hf j hj).stays ⟨Nat.le_refl _, fun b _ ha => ⟨rfl, hA b ha⟩⟩⟩

theorem Tab.stays {w w' : World} {S : Nat → Prop} (h : Tab w) (hk : Keeps w w' S) (hS : ∀ g, Tryz.prog.globalNamed "internal/strconv.uint64pow10" = some g → ¬ S g) : Tab w' := by
  have hlt := h.lt
  unfold Tab Lib.TabIs World.var? at h ⊢
  cases hg : Tryz.prog.globalNamed "internal/strconv.uint64pow10" with
  | none => simp [hg] at h
  | some g =>
    simp only [hg, Option.bind_some] at h ⊢
    rw [hk.block g (hlt g hg) (hS g hg)]
    exact h

/-- what leaves the visitor's blocks alone leaves its state -/
theorem VSt.keeps {A : Nat → Prop} {w w' : World} {bV bo bm pb po N : Nat} {c0 c1 c2 c4 c5 tv bv lv : Value} {lib : List Fn} {ts : List Par} {bs : List Bd} {env : Env} {S : Nat → Prop}
    (h : VSt A w bV bo bm pb po N c0 c1 c2 c4 c5 tv bv lv lib ts bs env) (hk : Keeps w w' S) (hA : ∀ k, A k → ¬ S k) (hM : ∀ k, Mut bo bm pb tv bv k → ¬ S k) : VSt A w' bV bo bm pb po N c0 c1 c2 c4 c5 tv bv lv lib ts bs env where
  out := h.out.keeps hk (hM _ (.inl rfl)) (fun k e => hM k (.inr (.inr (.inr (.inl e)))))
  vis := h.vis.keeps hk (hA _ h.visA)
  lib := h.lib.stays (hk.stays fun k a _ => hA k a)
  map := hk.smap h.map (hM _ (.inr (.inl rfl)))
  ptr := h.ptr.keeps hk (hM _ (.inr (.inr (.inl rfl))))
  row := h.row.keeps hk hA (fun k e => hM k (.inr (.inr (.inr (.inr e)))))
  tab := h.tab.stays hk (fun g e => hA g (h.tabA g e))
  tabA := h.tabA
  visA := h.visA
  alt := fun k a => Nat.lt_of_lt_of_le (h.alt k a) hk.size
  mutA := h.mutA
  bobm := h.bobm
  pbbm := h.pbbm
  tvbm := h.tvbm
  tvpb := h.tvpb
  bvbo := h.bvbo
  bvbm := h.bvbm
  bvpb := h.bvpb
  sep := h.sep
theorem VSt.below {A : Nat → Prop} {w w' : World} {bV bo bm pb po N : Nat} {c0 c1 c2 c4 c5 tv bv lv : Value} {lib : List Fn} {ts : List Par} {bs : List Bd} {env : Env}
    (h : VSt A w bV bo bm pb po N c0 c1 c2 c4 c5 tv bv lv lib ts bs env) (hb : Below w.heap.size w w') : VSt A w' bV bo bm pb po N c0 c1 c2 c4 c5 tv bv lv lib ts bs env :=
  h.keeps (Keeps.of_below (fun _ => False) hb) (fun _ _ e => e) (fun _ _ e => e)
theorem VSt.mutlt {A : Nat → Prop} {w : World} {bV bo bm pb po N : Nat} {c0 c1 c2 c4 c5 tv bv lv : Value} {lib : List Fn} {ts : List Par} {bs : List Bd} {env : Env}
    (h : VSt A w bV bo bm pb po N c0 c1 c2 c4 c5 tv bv lv lib ts bs env) : ∀ k, Mut bo bm pb tv bv k → k < w.heap.size := by
  rintro k (rfl | rfl | rfl | e | e)
  · exact h.out.lt
  · exact h.map.lt
  · exact h.ptr.lt h.out.lt
  · exact (h.out.own.lt k e).2
  · obtain ⟨xs, hx, _⟩ := h.row; exact (hx.lt k e).2

theorem VSt.outside {A : Nat → Prop} {w : World} {bV bo bm pb po N : Nat} {c0 c1 c2 c4 c5 tv bv lv : Value} {lib : List Fn} {ts : List Par} {bs : List Bd} {env : Env}
    (h : VSt A w bV bo bm pb po N c0 c1 c2 c4 c5 tv bv lv lib ts bs env) : ∀ k, A k → ¬ (k = bo ∨ tv.ownBlock = some k) := by
  rintro k a (e | e)
  · exact h.mutA k (.inl e) a
  · exact h.mutA k (.inr (.inr (.inr (.inl e)))) a
/-- the temporaries grew, or a type was given -/
theorem VSt.temp {A : Nat → Prop} {w w1 : World} {bV bo bm pb po N : Nat} {c0 c1 c2 c4 c5 tv tv1 bv lv : Value} {lib : List Fn} {ts ts1 : List Par} {bs : List Bd} {env : Env}
    (h : VSt A w bV bo bm pb po N c0 c1 c2 c4 c5 tv bv lv lib ts bs env) (ho : OutAt w1 bo c0 c1 c2 c4 c5 tv1 ts1) (hk : Keeps w w1 (fun k => k = bo ∨ tv.ownBlock = some k)) (hn : NewOr w tv tv1) :
    VSt A w1 bV bo bm pb po N c0 c1 c2 c4 c5 tv1 bv lv lib ts1 bs env := by
  have hlt := h.mutlt
  have hA := h.outside
  have hne : ∀ k, k < w.heap.size → tv.ownBlock ≠ some k → tv1.ownBlock ≠ some k := fun k hk' h1 e => by
    rcases hn k e with e | e
    · exact h1 e
    · omega
  exact {
    out := ho
    vis := h.vis.keeps hk (hA _ h.visA)
    lib := h.lib.stays (hk.stays fun k a _ => hA k a)
    map := hk.smap h.map (by rintro (e | e); exact h.bobm e.symm; exact h.tvbm e)
    ptr := by
      rcases h.ptr with h1 | ⟨h0, h1, h2⟩
      · exact .inl h1
      · exact .inr ⟨h0, h1, (hk.block pb (hlt _ (.inr (.inr (.inl rfl)))) (by rintro (e | e); exact h0 e; exact h.tvpb e)).trans h2⟩
    row := h.row.keeps hk hA (by rintro k e (e2 | e2); exact h.bvbo (e2 ▸ e); exact h.sep k e2 e)
    tab := h.tab.stays hk (fun g e => hA g (h.tabA g e))
    tabA := h.tabA
    visA := h.visA
    alt := fun k a => Nat.lt_of_lt_of_le (h.alt k a) hk.size
    mutA := by
      intro k hm a
      rcases Mut.new hm hn (NewOr.refl w bv) with e | e
      · exact h.mutA k e a
      · have := h.alt k a; omega
    bobm := h.bobm
    pbbm := h.pbbm
    tvbm := hne _ h.map.lt h.tvbm
    tvpb := hne _ (hlt _ (.inr (.inr (.inl rfl)))) h.tvpb
    bvbo := h.bvbo
    bvbm := h.bvbm
    bvpb := h.bvpb
    sep := fun k e1 e2 => by
      rcases hn k e1 with e | e
      · exact h.sep k e e2
      · have := hlt k (.inr (.inr (.inr (.inr e2)))); omega }

theorem PtrAt.cell {w : World} {bo pb po : Nat} {c0 c1 c2 c4 c5 tv bv : Value} {ts : List Par} (h : PtrAt w bo pb po bv c4) (ho : OutAt w bo c0 c1 c2 c4 c5 tv ts) : w.cell? ⟨pb, po, none⟩ = some bv ∧ w.frozen? ⟨pb, po, none⟩ = false := by
  rcases h with ⟨rfl, rfl, rfl⟩ | ⟨_, rfl, h⟩
  · exact ⟨cell_blk ho.blk 4 rfl, by simp [World.frozen?, ho.blk]⟩
  · exact ⟨cell_blk h 0 rfl, by simp [World.frozen?, h]⟩
/-- the row's new head is stored -/
theorem head_set {w : World} {bo pb po : Nat} {c0 c1 c2 c4 c5 tv bv : Value} {ts : List Par} (bv' : Value) (h : PtrAt w bo pb po bv c4) (ho : OutAt w bo c0 c1 c2 c4 c5 tv ts) (hn : tv.ownBlock ≠ some pb) :
    ∃ c4', OutAt (w.setCell ⟨pb, po, none⟩ bv') bo c0 c1 c2 c4' c5 tv ts ∧ PtrAt (w.setCell ⟨pb, po, none⟩ bv') bo pb po bv' c4' ∧ (pb ≠ bo → c4' = c4) := by
  rcases h with ⟨rfl, rfl, rfl⟩ | ⟨h0, rfl, h⟩
  · exact ⟨bv', ⟨heap_setCell_same w pb 4 _ _ bv' ho.blk, row_keeps ho.own (keeps_set w pb 4 bv') (fun k e e2 => hn ((show k = pb from e2) ▸ e)), ho.ne⟩, .inl ⟨rfl, rfl, rfl⟩, fun e => absurd rfl e⟩
  · exact ⟨c4, ho.keeps (keeps_set w pb 0 bv') (fun e => h0 e.symm) (fun k e e2 => hn ((show k = pb from e2) ▸ e)), .inr ⟨h0, rfl, heap_setCell_same w pb 0 _ _ bv' h⟩, fun _ => rfl⟩

/-- eight cells are stored behind n elements -/
theorem elems_set {w : World} {base e g n m cap : Nat} {xs zs : List Value} (v0 v1 v2 v3 v4 v5 v6 v7 : Value) (h : w.ownsRow base e 8 (.slice (some ⟨g, 0, none⟩) m cap) m (xs ++ zs)) (hm : m = n + 1) (hx : xs.length = n * 8) (hz : zs.length = 8) :
    ((((((((w.setCell ⟨g, n * 8, none⟩ v0).setCell ⟨g, n * 8 + 1, none⟩ v1).setCell ⟨g, n * 8 + 2, none⟩ v2).setCell ⟨g, n * 8 + 3, none⟩ v3).setCell ⟨g, n * 8 + 4, none⟩ v4).setCell ⟨g, n * 8 + 5, none⟩ v5).setCell ⟨g, n * 8 + 6, none⟩ v6).setCell ⟨g, n * 8 + 7, none⟩ v7).ownsRow base e 8 (.slice (some ⟨g, 0, none⟩) m cap) m (xs ++ [v0, v1, v2, v3, v4, v5, v6, v7]) ∧
    Keeps w ((((((((w.setCell ⟨g, n * 8, none⟩ v0).setCell ⟨g, n * 8 + 1, none⟩ v1).setCell ⟨g, n * 8 + 2, none⟩ v2).setCell ⟨g, n * 8 + 3, none⟩ v3).setCell ⟨g, n * 8 + 4, none⟩ v4).setCell ⟨g, n * 8 + 5, none⟩ v5).setCell ⟨g, n * 8 + 6, none⟩ v6).setCell ⟨g, n * 8 + 7, none⟩ v7) (fun k => k = g) := by
  subst hm
  have r := row_set (row_set (row_set (row_set (row_set (row_set (row_set (row_set h (n * 8) v0 (by omega)) (n * 8 + 1) v1 (by omega)) (n * 8 + 2) v2 (by omega)) (n * 8 + 3) v3 (by omega)) (n * 8 + 4) v4 (by omega)) (n * 8 + 5) v5 (by omega)) (n * 8 + 6) v6 (by omega)) (n * 8 + 7) v7 (by omega)
  refine ⟨?_, (((((((keeps_set w g _ v0).same (keeps_set _ g _ v1)).same (keeps_set _ g _ v2)).same (keeps_set _ g _ v3)).same (keeps_set _ g _ v4)).same (keeps_set _ g _ v5)).same (keeps_set _ g _ v6)).same (keeps_set _ g _ v7)⟩
  match zs, hz with
  | [z0, z1, z2, z3, z4, z5, z6, z7], _ =>
    have : ((((((((xs ++ [z0, z1, z2, z3, z4, z5, z6, z7]).set (n * 8) v0).set (n * 8 + 1) v1).set (n * 8 + 2) v2).set (n * 8 + 3) v3).set (n * 8 + 4) v4).set (n * 8 + 5) v5).set (n * 8 + 6) v6).set (n * 8 + 7) v7 = xs ++ [v0, v1, v2, v3, v4, v5, v6, v7] := by
      rw [← hx]
      simp
    rw [this] at r
    exact r

/-- one bind more -/
theorem BdsOwn.snoc {A : Nat → Prop} {w : World} {v : Value} {xs : List Value} {l : List Bd} {b : Bd} {v0 v1 v2 v3 v4 v5 v6 v7 : Value} (hx : w.ownsRow 0 88 8 v (l.length + 1) (xs ++ [v0, v1, v2, v3, v4, v5, v6, v7])) (hl : xs.length = l.length * 8)
    (hf : ∀ j, j < l.length → BdCells A w (fun i => vat xs (j * 8 + i)) (at' l j)) (hb : BdCells A w (fun i => vat [v0, v1, v2, v3, v4, v5, v6, v7] i) b) : BdsOwn A w v (l ++ [b]) := by
  refine ⟨_, by rw [List.length_append]; exact hx, fun j hj => ?_⟩
  have key : ∀ {f g : Nat → Value} {b : Bd}, BdCells A w f b → (∀ i, i < 8 → g i = f i) → BdCells A w g b := fun h e => ⟨(e 0 (by omega)).trans h.c0, (e 1 (by omega)).trans h.c1, (e 2 (by omega)).trans h.c2, (e 3 (by omega)).trans h.c3, (e 4 (by omega)).trans h.c4, by rw [e 5 (by omega)]; exact h.c5, by rw [e 6 (by omega)]; exact h.c6, by rw [e 7 (by omega)]; exact h.c7, h.ok⟩
  by_cases hjl : j < l.length
  · have e1 : at' (l ++ [b]) j = at' l j := by simp [at', List.getD_eq_getElem?_getD, List.getElem?_append_left hjl]
    rw [e1]
    refine key (hf j hjl) fun i hi => ?_
    simp only [vat, List.getD_eq_getElem?_getD]
    rw [List.getElem?_append_left (by omega)]
  · obtain rfl : j = l.length := by simp at hj; omega
    have e1 : at' (l ++ [b]) l.length = b := by simp [at']
    rw [e1]
    refine key hb fun i hi => ?_
    simp only [vat, List.getD_eq_getElem?_getD]
    rw [List.getElem?_append_right (by omega), show l.length * 8 + i - xs.length = i by omega]
end Go.Proofs.YtehmmokkjojggabGreatDoor
