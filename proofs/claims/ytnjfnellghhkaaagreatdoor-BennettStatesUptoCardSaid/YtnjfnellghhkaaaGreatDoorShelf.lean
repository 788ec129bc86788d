/-
  DERIVED: THE SHELF's CONTRACTS AT THIS DUMP, IN PLAIN WORDS (tools/lay-plain.mjs out of 'TryzShelfB.lean', which tools/lay-shelf.mjs wrote): THE SAME DECLARATIONS UNDER THE SAME NAMES: 'import', 'namespace', 'open', 'def', 'theorem' AND NOTHING ELSE: no command of the shelf's: FOR A HAND-IN. Each laying: the table of numbers ('.._ren') and one theorem, a field a fact of the dump's own or the kernel's comparison; each contract: ONE APPLICATION.
-/
import Derived.Shelf.LaysM
import Derived.Shelf.Strconv.Itoa3
import Derived.Test.YtnjfnellghhkaaaGreatDoorProg
namespace Go.Proofs
open Go.Shelf
def Tryz.laysM171_ren : Go.Shelf.Ren := ⟨fun | 171 => 73 | 243 => 108 | 246 => 133 | 283 => 169 | 284 => 170 | 285 => 171 | 286 => 172 | 129 => 197 | 317 => 196 | 318 => 198 | 319 => 199 | 320 => 200 | 337 => 224 | 338 => 225 | n => n, fun | 3 => 3 | 9 => 9 | 2 => 2 | 4 => 4 | 171 => 222 | 0 => 0 | 53 => 223 | 37 => 160 | 5 => 5 | 173 => 226 | 212 => 253 | 51 => 254 | 20 => 20 | 213 => 255 | 46 => 257 | 232 => 279 | 233 => 280 | n => n, fun | 17 => 0 | 18 => 1 | 19 => 2 | n => n⟩
theorem Tryz.laysM171 : Go.Proofs.LaysM.n171 Tryz.prog Tryz.laysM171_ren := {
  mixed := by kernel_rfl
  f129 := Tryz.func197.trans (congrArg some (by kernel_rfl))
  f171 := Tryz.func73.trans (congrArg some (by kernel_rfl))
  f243 := Tryz.func108.trans (congrArg some (by kernel_rfl))
  f246 := Tryz.func133.trans (congrArg some (by kernel_rfl))
  f283 := Tryz.func169.trans (congrArg some (by kernel_rfl))
  f284 := Tryz.func170.trans (congrArg some (by kernel_rfl))
  f285 := Tryz.func171.trans (congrArg some (by kernel_rfl))
  f286 := Tryz.func172.trans (congrArg some (by kernel_rfl))
  f317 := Tryz.func196.trans (congrArg some (by kernel_rfl))
  f318 := Tryz.func198.trans (congrArg some (by kernel_rfl))
  f319 := Tryz.func199.trans (congrArg some (by kernel_rfl))
  f320 := Tryz.func200.trans (congrArg some (by kernel_rfl))
  f337 := Tryz.func224.trans (congrArg some (by kernel_rfl))
  f338 := Tryz.func225.trans (congrArg some (by kernel_rfl))
  t0 := Tryz.underlying0
  a0 := Tryz.isAgg0
  z0 := Tryz.sizeOf0
  v0 := Tryz.zeroValue0
  t2 := Tryz.underlying2
  a2 := Tryz.isAgg2
  z2 := Tryz.sizeOf2
  v2 := Tryz.zeroValue2
  t3 := Tryz.underlying3
  a3 := Tryz.isAgg3
  z3 := Tryz.sizeOf3
  v3 := Tryz.zeroValue3
  t4 := Tryz.underlying4
  a4 := Tryz.isAgg4
  z4 := Tryz.sizeOf4
  v4 := Tryz.zeroValue4
  t5 := Tryz.underlying5
  a5 := Tryz.isAgg5
  z5 := Tryz.sizeOf5
  v5 := Tryz.zeroValue5
  t9 := Tryz.underlying9
  a9 := Tryz.isAgg9
  z9 := Tryz.sizeOf9
  v9 := Tryz.zeroValue9
  t20 := Tryz.underlying20
  a20 := Tryz.isAgg20
  z20 := Tryz.sizeOf20
  v20 := Tryz.zeroValue20
  t37 := Tryz.underlying160
  a37 := Tryz.isAgg160
  z37 := Tryz.sizeOf160
  v37 := Tryz.zeroValue160
  t46 := Tryz.underlying257
  a46 := Tryz.isAgg257
  z46 := Tryz.sizeOf257
  v46 := Tryz.zeroValue257
  t51 := Tryz.underlying254
  a51 := Tryz.isAgg254
  z51 := Tryz.sizeOf254
  v51 := Tryz.zeroValue254
  t53 := Tryz.underlying223
  a53 := Tryz.isAgg223
  z53 := Tryz.sizeOf223
  v53 := Tryz.zeroValue223
  t171 := Tryz.underlying222
  a171 := Tryz.isAgg222
  z171 := Tryz.sizeOf222
  v171 := Tryz.zeroValue222
  t173 := Tryz.underlying226
  a173 := Tryz.isAgg226
  z173 := Tryz.sizeOf226
  v173 := Tryz.zeroValue226
  t212 := Tryz.underlying253
  a212 := Tryz.isAgg253
  z212 := Tryz.sizeOf253
  v212 := Tryz.zeroValue253
  t213 := Tryz.underlying255
  a213 := Tryz.isAgg255
  z213 := Tryz.sizeOf255
  t232 := Tryz.underlying279
  a232 := Tryz.isAgg279
  z232 := Tryz.sizeOf279
  v232 := Tryz.zeroValue279
  t233 := Tryz.underlying280
  a233 := Tryz.isAgg280
  z233 := Tryz.sizeOf280
  v233 := Tryz.zeroValue280
  g17 := by kernel_rfl
  g18 := by kernel_rfl
  g19 := by kernel_rfl
  i0 := by kernel_rfl
  i2 := by kernel_rfl
  i3 := by kernel_rfl
  i4 := by kernel_rfl
  i5 := by kernel_rfl
  i9 := by kernel_rfl
  i20 := by kernel_rfl
  i37 := by kernel_rfl
  i46 := by kernel_rfl
  i51 := by kernel_rfl
  i53 := by kernel_rfl
  i171 := by kernel_rfl
  i173 := by kernel_rfl
  i212 := by kernel_rfl
  i232 := by kernel_rfl
  i233 := by kernel_rfl
  m17 := by kernel_rfl
  m18 := by kernel_rfl
  m19 := by kernel_rfl }
open Go.RowKit Go.Sort Go.Lib in
/-- strconv.Itoa: "Itoa is equivalent to FormatInt(int64(i), 10).": i's DECIMAL NUMERAL ('Lib.itoa': a '-' where i is negative, then the digits), FOR EVERY int. The world behind the call: the world before it, new blocks behind the heap (the library's 'var a [24]byte'), draws. (LAID: no walk: one application.) -/
theorem Tryz.strconv_Itoa (n : Int) (h0 : -9223372036854775808 ≤ n) (h1 : n ≤ 9223372036854775807) (w : World) (htab : Lib.TabIs Tryz.prog w "internal/strconv.uint64pow10" .u64 Lib.pow10Tab) :
    Calls Tryz.prog 73 #[.int .i64 n] w fun e w' => e = .returned (.string ⟨(Lib.itoa n).toArray⟩) ∧ ∃ k os, w' = grow (w.drewN k) os := Any.strconv_Itoa Tryz.laysM171 n h0 h1 w htab
end Go.Proofs
