/-
  DERIVED: THE SHELF's CONTRACTS AT THIS DUMP, IN PLAIN WORDS (tools/lay-plain.mjs out of 'TryzShelfB.lean', which tools/lay-shelf.mjs wrote): THE SAME DECLARATIONS UNDER THE SAME NAMES: 'import', 'namespace', 'open', 'def', 'theorem' AND NOTHING ELSE: no command of the shelf's: FOR A HAND-IN. Each laying: the table of numbers ('.._ren') and one theorem, a field a fact of the dump's own or the kernel's comparison; each contract: ONE APPLICATION.
-/
import Derived.Shelf.LaysM
import Derived.Shelf.Strconv.Itoa3
import Derived.Test.YtpobmoegmdhbpaaGreatDoorProg
namespace Go.Proofs
open Go.Shelf
def Tryz.laysM171_ren : Go.Shelf.Ren := ⟨fun | 171 => 103 | 243 => 156 | 246 => 204 | 283 => 239 | 284 => 240 | 285 => 241 | 286 => 242 | 129 => 260 | 317 => 259 | 318 => 261 | 319 => 262 | 320 => 263 | 337 => 275 | 338 => 276 | n => n, fun | 3 => 3 | 9 => 9 | 2 => 2 | 4 => 4 | 171 => 287 | 0 => 0 | 53 => 288 | 37 => 257 | 5 => 5 | 173 => 291 | 212 => 307 | 51 => 308 | 20 => 20 | 213 => 309 | 46 => 311 | 232 => 326 | 233 => 327 | n => n, fun | 17 => 0 | 18 => 2 | 19 => 3 | n => n⟩
theorem Tryz.laysM171 : Go.Proofs.LaysM.n171 Tryz.prog Tryz.laysM171_ren := {
  mixed := by kernel_rfl
  f129 := Tryz.func260.trans (congrArg some (by kernel_rfl))
  f171 := Tryz.func103.trans (congrArg some (by kernel_rfl))
  f243 := Tryz.func156.trans (congrArg some (by kernel_rfl))
  f246 := Tryz.func204.trans (congrArg some (by kernel_rfl))
  f283 := Tryz.func239.trans (congrArg some (by kernel_rfl))
  f284 := Tryz.func240.trans (congrArg some (by kernel_rfl))
  f285 := Tryz.func241.trans (congrArg some (by kernel_rfl))
  f286 := Tryz.func242.trans (congrArg some (by kernel_rfl))
  f317 := Tryz.func259.trans (congrArg some (by kernel_rfl))
  f318 := Tryz.func261.trans (congrArg some (by kernel_rfl))
  f319 := Tryz.func262.trans (congrArg some (by kernel_rfl))
  f320 := Tryz.func263.trans (congrArg some (by kernel_rfl))
  f337 := Tryz.func275.trans (congrArg some (by kernel_rfl))
  f338 := Tryz.func276.trans (congrArg some (by kernel_rfl))
  t0 := Tryz.underlying0
  a0 := Tryz.isAgg0
  z0 := Tryz.sizeOf0
  v0 := Tryz.zeroValue0
  t2 := Tryz.underlying2
  a2 := Tryz.isAgg2
  z2 := Tryz.sizeOf2
  v2 := Tryz.zeroValue2
  t3 := Tryz.underlying3
  a3 := Tryz.isAgg3
  z3 := Tryz.sizeOf3
  v3 := Tryz.zeroValue3
  t4 := Tryz.underlying4
  a4 := Tryz.isAgg4
  z4 := Tryz.sizeOf4
  v4 := Tryz.zeroValue4
  t5 := Tryz.underlying5
  a5 := Tryz.isAgg5
  z5 := Tryz.sizeOf5
  v5 := Tryz.zeroValue5
  t9 := Tryz.underlying9
  a9 := Tryz.isAgg9
  z9 := Tryz.sizeOf9
  v9 := Tryz.zeroValue9
  t20 := Tryz.underlying20
  a20 := Tryz.isAgg20
  z20 := Tryz.sizeOf20
  v20 := Tryz.zeroValue20
  t37 := Tryz.underlying257
  a37 := Tryz.isAgg257
  z37 := Tryz.sizeOf257
  v37 := Tryz.zeroValue257
  t46 := Tryz.underlying311
  a46 := Tryz.isAgg311
  z46 := Tryz.sizeOf311
  v46 := Tryz.zeroValue311
  t51 := Tryz.underlying308
  a51 := Tryz.isAgg308
  z51 := Tryz.sizeOf308
  v51 := Tryz.zeroValue308
  t53 := Tryz.underlying288
  a53 := Tryz.isAgg288
  z53 := Tryz.sizeOf288
  v53 := Tryz.zeroValue288
  t171 := Tryz.underlying287
  a171 := Tryz.isAgg287
  z171 := Tryz.sizeOf287
  v171 := Tryz.zeroValue287
  t173 := Tryz.underlying291
  a173 := Tryz.isAgg291
  z173 := Tryz.sizeOf291
  v173 := Tryz.zeroValue291
  t212 := Tryz.underlying307
  a212 := Tryz.isAgg307
  z212 := Tryz.sizeOf307
  v212 := Tryz.zeroValue307
  t213 := Tryz.underlying309
  a213 := Tryz.isAgg309
  z213 := Tryz.sizeOf309
  t232 := Tryz.underlying326
  a232 := Tryz.isAgg326
  z232 := Tryz.sizeOf326
  v232 := Tryz.zeroValue326
  t233 := Tryz.underlying327
  a233 := Tryz.isAgg327
  z233 := Tryz.sizeOf327
  v233 := Tryz.zeroValue327
  g17 := by kernel_rfl
  g18 := by kernel_rfl
  g19 := by kernel_rfl
  i0 := by kernel_rfl
  i2 := by kernel_rfl
  i3 := by kernel_rfl
  i4 := by kernel_rfl
  i5 := by kernel_rfl
  i9 := by kernel_rfl
  i20 := by kernel_rfl
  i37 := by kernel_rfl
  i46 := by kernel_rfl
  i51 := by kernel_rfl
  i53 := by kernel_rfl
  i171 := by kernel_rfl
  i173 := by kernel_rfl
  i212 := by kernel_rfl
  i232 := by kernel_rfl
  i233 := by kernel_rfl
  m17 := by kernel_rfl
  m18 := by kernel_rfl
  m19 := by kernel_rfl }
open Go.RowKit Go.Sort Go.Lib in
/-- strconv.Itoa: "Itoa is equivalent to FormatInt(int64(i), 10).": i's DECIMAL NUMERAL ('Lib.itoa': a '-' where i is negative, then the digits), FOR EVERY int. The world behind the call: the world before it, new blocks behind the heap (the library's 'var a [24]byte'), draws. (LAID: no walk: one application.) -/
theorem Tryz.strconv_Itoa (n : Int) (h0 : -9223372036854775808 ≤ n) (h1 : n ≤ 9223372036854775807) (w : World) (htab : Lib.TabIs Tryz.prog w "internal/strconv.uint64pow10" .u64 Lib.pow10Tab) :
    Calls Tryz.prog 103 #[.int .i64 n] w fun e w' => e = .returned (.string ⟨(Lib.itoa n).toArray⟩) ∧ ∃ k os, w' = grow (w.drewN k) os := Any.strconv_Itoa Tryz.laysM171 n h0 h1 w htab
end Go.Proofs
