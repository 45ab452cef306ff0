/- Walks and plain laws that several statements lean on, joined: no statement of the seat is proved here. -/
import Derived.Shelf.Small.Bits
import Derived.Shelf.Small.Strs
import Derived.Shelf.Small.Wraps
import Derived.Shelf.Strconv.Itoa0
import Derived.Shelf.Strings.Search1
import Derived.Shelf.Sort.Plain
import Derived.Shelf.GgClosure.StringsIndexFunc
import Derived.Ground.GgwProg
import Derived.Shelf.GgClosure.StringsIndexFuncTop
import Derived.Shelf.Strings.FuncGrows
import Derived.Shelf.Slices.Turned
import Derived.Ground.Names2Prog
import Derived.Shelf.Slices.CompactI
import Derived.Shelf.Slices.In.SortNone
import Derived.Ground.SlgnProg
import Derived.Shelf.SlicesE.Compact
import Derived.Ground.SlgfProg
import Derived.Shelf.SlicesE.IndexFunc
import Derived.Shelf.SlicesE.DeleteFunc
import Derived.Test.YtafmapadkpjliaaGreatDoorProg
import Derived.Test.YtafmapadkpjliaaGreatDoorBW
import Derived.Lib.Hide
import Derived.Deep.QuietTactic
import Derived.BigQuiet
import Derived.Handy
import Derived.Lib.TrailingZeros
import Derived.Laws.Bits64b
import Derived.Laws.BitsAllLaws
import Derived.Laws.EntriesVeiled
import Derived.Deep.LoopGhost

/- The shelf's contracts at this translation, as the shelf's own plain mode writes them. -/
/-
  DERIVED: THE SHELF's CONTRACTS AT THIS DUMP, IN PLAIN WORDS (tools/lay-plain.mjs out of 'TryzShelf.lean', which tools/lay-shelf.mjs wrote): THE SAME DECLARATIONS UNDER THE SAME NAMES: 'import', 'namespace', 'open', 'def', 'theorem' AND NOTHING ELSE: no command of the shelf's: FOR A HAND-IN. Each laying: the table of numbers ('.._ren') and one theorem, a field a fact of the dump's own or the kernel's comparison; each contract: ONE APPLICATION.
-/
namespace Go.Proofs
open Go.Shelf
def Tryz.lays128_ren : Go.Shelf.Ren := ⟨fun | 128 => 192 | n => n, fun | 51 => 181 | 3 => 3 | 4 => 4 | 46 => 157 | 5 => 5 | 9 => 9 | n => n, fun | n => n⟩
theorem Tryz.lays128 : Go.Proofs.Lays.n128 Tryz.prog Tryz.lays128_ren := {
  mixed := by kernel_rfl
  f128 := Tryz.func192.trans (congrArg some (by kernel_rfl))
  t3 := Tryz.underlying3
  a3 := Tryz.isAgg3
  z3 := Tryz.sizeOf3
  v3 := Tryz.zeroValue3
  t4 := Tryz.underlying4
  a4 := Tryz.isAgg4
  z4 := Tryz.sizeOf4
  v4 := Tryz.zeroValue4
  t5 := Tryz.underlying5
  a5 := Tryz.isAgg5
  z5 := Tryz.sizeOf5
  v5 := Tryz.zeroValue5
  t9 := Tryz.underlying9
  a9 := Tryz.isAgg9
  z9 := Tryz.sizeOf9
  v9 := Tryz.zeroValue9
  t46 := Tryz.underlying157
  a46 := Tryz.isAgg157
  z46 := Tryz.sizeOf157
  v46 := Tryz.zeroValue157
  t51 := Tryz.underlying181
  a51 := Tryz.isAgg181
  z51 := Tryz.sizeOf181
  v51 := Tryz.zeroValue181 }
/-- bits.Len32: "Len32 returns the minimum number of bits required to represent x; the result is 0 for x == 0.": IT RETURNS 'Lib.bitLen x'; the world is as it was. ('h0', 'h1': x is a uint32.) (LAID: no walk: one application.) -/
theorem Tryz.bits_Len32 (x : Int) (w : World) (h0 : 0 ≤ x) (h1 : x ≤ 4294967295) :
    Calls Tryz.prog 192 #[.int .u32 x] w fun e w' => e = .returned (.int .i64 (Lib.bitLen x.toNat)) ∧ w' = w := Any.bits_Len32 Tryz.lays128 x w h0 h1
def Tryz.lays125_ren : Go.Shelf.Ren := ⟨fun | 125 => 171 | 128 => 192 | 129 => 193 | n => n, fun | 46 => 157 | 3 => 3 | 51 => 181 | 53 => 81 | 4 => 4 | 5 => 5 | 9 => 9 | n => n, fun | n => n⟩
theorem Tryz.lays125 : Go.Proofs.Lays.n125 Tryz.prog Tryz.lays125_ren := {
  mixed := by kernel_rfl
  f125 := Tryz.func171.trans (congrArg some (by kernel_rfl))
  f128 := Tryz.func192.trans (congrArg some (by kernel_rfl))
  f129 := Tryz.func193.trans (congrArg some (by kernel_rfl))
  t3 := Tryz.underlying3
  a3 := Tryz.isAgg3
  z3 := Tryz.sizeOf3
  v3 := Tryz.zeroValue3
  t4 := Tryz.underlying4
  a4 := Tryz.isAgg4
  z4 := Tryz.sizeOf4
  v4 := Tryz.zeroValue4
  t5 := Tryz.underlying5
  a5 := Tryz.isAgg5
  z5 := Tryz.sizeOf5
  v5 := Tryz.zeroValue5
  t9 := Tryz.underlying9
  a9 := Tryz.isAgg9
  z9 := Tryz.sizeOf9
  v9 := Tryz.zeroValue9
  t46 := Tryz.underlying157
  a46 := Tryz.isAgg157
  z46 := Tryz.sizeOf157
  v46 := Tryz.zeroValue157
  t51 := Tryz.underlying181
  a51 := Tryz.isAgg181
  z51 := Tryz.sizeOf181
  v51 := Tryz.zeroValue181
  t53 := Tryz.underlying81
  a53 := Tryz.isAgg81
  z53 := Tryz.sizeOf81
  v53 := Tryz.zeroValue81 }
/-- bits.Len: "Len returns the minimum number of bits required to represent x; the result is 0 for x == 0.": IT RETURNS 'Lib.bitLen x'; the world is as it was. (A uint has 64 bits in the model.) ITS CALLEE bits.Len64 IS MET BY ITS OWN CONTRACT OFF THE SHELF (lay that first). (LAID: no walk: one application.) -/
theorem Tryz.bits_Len (x : Int) (w : World) (h0 : 0 ≤ x) (h1 : x ≤ 18446744073709551615) :
    Calls Tryz.prog 171 #[.int .u64 x] w fun e w' => e = .returned (.int .i64 (Lib.bitLen x.toNat)) ∧ w' = w := Any.bits_Len Tryz.lays125 x w h0 h1
def Tryz.lays137_ren : Go.Shelf.Ren := ⟨fun | 137 => 107 | 217 => 143 | 266 => 161 | n => n, fun | 9 => 9 | 5 => 5 | 3 => 3 | n => n, fun | n => n⟩
theorem Tryz.lays137 : Go.Proofs.Lays.n137 Tryz.prog Tryz.lays137_ren := {
  mixed := by kernel_rfl
  f137 := Tryz.func107.trans (congrArg some (by kernel_rfl))
  f217 := Tryz.func143.trans (congrArg some (by kernel_rfl))
  f266 := Tryz.func161.trans (congrArg some (by kernel_rfl))
  t3 := Tryz.underlying3
  a3 := Tryz.isAgg3
  z3 := Tryz.sizeOf3
  v3 := Tryz.zeroValue3
  t5 := Tryz.underlying5
  a5 := Tryz.isAgg5
  z5 := Tryz.sizeOf5
  v5 := Tryz.zeroValue5
  t9 := Tryz.underlying9
  a9 := Tryz.isAgg9
  z9 := Tryz.sizeOf9
  v9 := Tryz.zeroValue9 }
open Go.RowKit in
/-- strings.IndexByte: "IndexByte returns the index of the first instance of c in s, or -1 if c is not present in s.": IT RETURNS 'Lib.indexByte s c'; the world is as it was. (LAID: no walk: one application.) -/
theorem Tryz.strings_IndexByte (s : ByteArray) (c : Int) (w : World) :
    Calls Tryz.prog 107 #[.string s, .int .u8 c] w fun e w' => e = .returned (.int .i64 (Lib.indexByte s.data.toList c.toNat.toUInt8)) ∧ w' = w := Any.strings_IndexByte Tryz.lays137 s c w
def Tryz.lays215_ren : Go.Shelf.Ren := ⟨fun | 215 => 110 | n => n, fun | 3 => 3 | 4 => 4 | n => n, fun | n => n⟩
theorem Tryz.lays215 : Go.Proofs.Lays.n215 Tryz.prog Tryz.lays215_ren := {
  mixed := by kernel_rfl
  f215 := Tryz.func110.trans (congrArg some (by kernel_rfl))
  t3 := Tryz.underlying3
  a3 := Tryz.isAgg3
  z3 := Tryz.sizeOf3
  v3 := Tryz.zeroValue3
  t4 := Tryz.underlying4
  a4 := Tryz.isAgg4
  z4 := Tryz.sizeOf4
  v4 := Tryz.zeroValue4 }
open Go.RowKit in
/-- cmp.isNaN at int: 'x != x': false. (LAID: no walk: one application.) -/
theorem Tryz.cmp_isNaN_int (x : Int) (w : World) :
    Calls Tryz.prog 110 #[.int .i64 x] w fun e w' => e = .returned (.bool false) ∧ w' = w := Any.cmp_isNaN_int Tryz.lays215 x w
def Tryz.lays122_ren : Go.Shelf.Ren := ⟨fun | 122 => 76 | 215 => 110 | n => n, fun | 3 => 3 | 4 => 4 | n => n, fun | n => n⟩
theorem Tryz.lays122 : Go.Proofs.Lays.n122 Tryz.prog Tryz.lays122_ren := {
  mixed := by kernel_rfl
  f122 := Tryz.func76.trans (congrArg some (by kernel_rfl))
  f215 := Tryz.func110.trans (congrArg some (by kernel_rfl))
  t3 := Tryz.underlying3
  a3 := Tryz.isAgg3
  z3 := Tryz.sizeOf3
  v3 := Tryz.zeroValue3
  t4 := Tryz.underlying4
  a4 := Tryz.isAgg4
  z4 := Tryz.sizeOf4
  v4 := Tryz.zeroValue4 }
open Go.RowKit in
/-- cmp.Compare at int: "Compare returns -1 if x is less than y, 0 if x equals y, +1 if x is greater than y.": IT RETURNS 'Lib.compareInt x y'; the world is as it was. (LAID: no walk: one application.) -/
theorem Tryz.cmp_Compare_int (x y : Int) (w : World) :
    Calls Tryz.prog 76 #[.int .i64 x, .int .i64 y] w fun e w' => e = .returned (.int .i64 (Lib.compareInt x y)) ∧ w' = w := Any.cmp_Compare_int Tryz.lays122 x y w
def Tryz.lays129_ren : Go.Shelf.Ren := ⟨fun | 129 => 193 | n => n, fun | 53 => 81 | 3 => 3 | 4 => 4 | 46 => 157 | 5 => 5 | 9 => 9 | n => n, fun | n => n⟩
theorem Tryz.lays129 : Go.Proofs.Lays.n129 Tryz.prog Tryz.lays129_ren := {
  mixed := by kernel_rfl
  f129 := Tryz.func193.trans (congrArg some (by kernel_rfl))
  t3 := Tryz.underlying3
  a3 := Tryz.isAgg3
  z3 := Tryz.sizeOf3
  v3 := Tryz.zeroValue3
  t4 := Tryz.underlying4
  a4 := Tryz.isAgg4
  z4 := Tryz.sizeOf4
  v4 := Tryz.zeroValue4
  t5 := Tryz.underlying5
  a5 := Tryz.isAgg5
  z5 := Tryz.sizeOf5
  v5 := Tryz.zeroValue5
  t9 := Tryz.underlying9
  a9 := Tryz.isAgg9
  z9 := Tryz.sizeOf9
  v9 := Tryz.zeroValue9
  t46 := Tryz.underlying157
  a46 := Tryz.isAgg157
  z46 := Tryz.sizeOf157
  v46 := Tryz.zeroValue157
  t53 := Tryz.underlying81
  a53 := Tryz.isAgg81
  z53 := Tryz.sizeOf81
  v53 := Tryz.zeroValue81 }
/-- bits.Len64: "Len64 returns the minimum number of bits required to represent x; the result is 0 for x == 0.": IT RETURNS 'Lib.bitLen x'; the world is as it was. ('h0', 'h1': x is a uint64.) (LAID: no walk: one application.) -/
theorem Tryz.bits_Len64 (x : Int) (w : World) (h0 : 0 ≤ x) (h1 : x ≤ 18446744073709551615) :
    Calls Tryz.prog 193 #[.int .u64 x] w fun e w' => e = .returned (.int .i64 (Lib.bitLen x.toNat)) ∧ w' = w := Any.bits_Len64 Tryz.lays129 x w h0 h1
def Tryz.lays217_ren : Go.Shelf.Ren := ⟨fun | 217 => 143 | 266 => 161 | n => n, fun | 9 => 9 | 5 => 5 | 3 => 3 | n => n, fun | n => n⟩
theorem Tryz.lays217 : Go.Proofs.Lays.n217 Tryz.prog Tryz.lays217_ren := {
  mixed := by kernel_rfl
  f217 := Tryz.func143.trans (congrArg some (by kernel_rfl))
  f266 := Tryz.func161.trans (congrArg some (by kernel_rfl))
  t3 := Tryz.underlying3
  a3 := Tryz.isAgg3
  z3 := Tryz.sizeOf3
  v3 := Tryz.zeroValue3
  t5 := Tryz.underlying5
  a5 := Tryz.isAgg5
  z5 := Tryz.sizeOf5
  v5 := Tryz.zeroValue5
  t9 := Tryz.underlying9
  a9 := Tryz.isAgg9
  z9 := Tryz.sizeOf9
  v9 := Tryz.zeroValue9 }
open Go.RowKit Go.Lib in
/-- internal/stringslite.IndexByte (what strings.IndexByte calls): IT RETURNS 'Lib.indexByte s c'; the world is as it was. (LAID: no walk: one application.) -/
theorem Tryz.stringslite_IndexByte (s : ByteArray) (c : Int) (w : World) :
    Calls Tryz.prog 143 #[.string s, .int .u8 c] w fun e w' => e = .returned (.int .i64 (Lib.indexByte s.data.toList c.toNat.toUInt8)) ∧ w' = w := Any.stringslite_IndexByte Tryz.lays217 s c w
def Tryz.lays189_ren : Go.Shelf.Ren := ⟨fun | 189 => 149 | 125 => 171 | 257 => 170 | 128 => 192 | 129 => 193 | 294 => 183 | 295 => 184 | 296 => 185 | 297 => 186 | 298 => 187 | 299 => 188 | 216 => 189 | 300 => 190 | 301 => 191 | 328 => 204 | 329 => 205 | 330 => 206 | 331 => 207 | 332 => 208 | 215 => 110 | 343 => 211 | n => n, fun | 28 => 94 | 3 => 3 | 46 => 157 | 0 => 0 | 51 => 181 | 53 => 81 | 4 => 4 | 183 => 175 | 182 => 174 | 131 => 75 | 5 => 5 | 9 => 9 | 218 => 189 | 222 => 193 | 228 => 195 | 229 => 196 | n => n, fun | n => n⟩
theorem Tryz.lays189 : Go.Proofs.Lays.n189 Tryz.prog Tryz.lays189_ren := {
  mixed := by kernel_rfl
  f125 := Tryz.func171.trans (congrArg some (by kernel_rfl))
  f128 := Tryz.func192.trans (congrArg some (by kernel_rfl))
  f129 := Tryz.func193.trans (congrArg some (by kernel_rfl))
  f189 := Tryz.func149.trans (congrArg some (by kernel_rfl))
  f215 := Tryz.func110.trans (congrArg some (by kernel_rfl))
  f216 := Tryz.func189.trans (congrArg some (by kernel_rfl))
  f257 := Tryz.func170.trans (congrArg some (by kernel_rfl))
  f294 := Tryz.func183.trans (congrArg some (by kernel_rfl))
  f295 := Tryz.func184.trans (congrArg some (by kernel_rfl))
  f296 := Tryz.func185.trans (congrArg some (by kernel_rfl))
  f297 := Tryz.func186.trans (congrArg some (by kernel_rfl))
  f298 := Tryz.func187.trans (congrArg some (by kernel_rfl))
  f299 := Tryz.func188.trans (congrArg some (by kernel_rfl))
  f300 := Tryz.func190.trans (congrArg some (by kernel_rfl))
  f301 := Tryz.func191.trans (congrArg some (by kernel_rfl))
  f328 := Tryz.func204.trans (congrArg some (by kernel_rfl))
  f329 := Tryz.func205.trans (congrArg some (by kernel_rfl))
  f330 := Tryz.func206.trans (congrArg some (by kernel_rfl))
  f331 := Tryz.func207.trans (congrArg some (by kernel_rfl))
  f332 := Tryz.func208.trans (congrArg some (by kernel_rfl))
  f343 := Tryz.func211.trans (congrArg some (by kernel_rfl))
  t0 := Tryz.underlying0
  a0 := Tryz.isAgg0
  z0 := Tryz.sizeOf0
  v0 := Tryz.zeroValue0
  t3 := Tryz.underlying3
  a3 := Tryz.isAgg3
  z3 := Tryz.sizeOf3
  v3 := Tryz.zeroValue3
  t4 := Tryz.underlying4
  a4 := Tryz.isAgg4
  z4 := Tryz.sizeOf4
  v4 := Tryz.zeroValue4
  t5 := Tryz.underlying5
  a5 := Tryz.isAgg5
  z5 := Tryz.sizeOf5
  v5 := Tryz.zeroValue5
  t9 := Tryz.underlying9
  a9 := Tryz.isAgg9
  z9 := Tryz.sizeOf9
  v9 := Tryz.zeroValue9
  t28 := Tryz.underlying94
  a28 := Tryz.isAgg94
  z28 := Tryz.sizeOf94
  v28 := Tryz.zeroValue94
  t46 := Tryz.underlying157
  a46 := Tryz.isAgg157
  z46 := Tryz.sizeOf157
  v46 := Tryz.zeroValue157
  t51 := Tryz.underlying181
  a51 := Tryz.isAgg181
  z51 := Tryz.sizeOf181
  v51 := Tryz.zeroValue181
  t53 := Tryz.underlying81
  a53 := Tryz.isAgg81
  z53 := Tryz.sizeOf81
  v53 := Tryz.zeroValue81
  t131 := Tryz.underlying75
  a131 := Tryz.isAgg75
  z131 := Tryz.sizeOf75
  v131 := Tryz.zeroValue75
  t182 := Tryz.underlying174
  a182 := Tryz.isAgg174
  z182 := Tryz.sizeOf174
  v182 := Tryz.zeroValue174
  t183 := Tryz.underlying175
  a183 := Tryz.isAgg175
  z183 := Tryz.sizeOf175
  v183 := Tryz.zeroValue175
  t218 := Tryz.underlying189
  a218 := Tryz.isAgg189
  z218 := Tryz.sizeOf189
  v218 := Tryz.zeroValue189
  t222 := Tryz.underlying193
  a222 := Tryz.isAgg193
  z222 := Tryz.sizeOf193
  v222 := Tryz.zeroValue193
  t228 := Tryz.underlying195
  a228 := Tryz.isAgg195
  z228 := Tryz.sizeOf195
  v228 := Tryz.zeroValue195
  t229 := Tryz.underlying196
  a229 := Tryz.isAgg196
  z229 := Tryz.sizeOf196
  v229 := Tryz.zeroValue196 }
open Go.Sort Go.RowKit in
theorem Tryz.slices_Sort_int (blk off cap : Nat) (zs : List Int) (w : World) (hH : Holds (Value.int .i64) w blk off zs.toArray) (hblk : blk < w.heap.size) (hsz : zs.length < 4611686018427387904) :
    Calls Tryz.prog 149 #[.slice (some ⟨blk, off, none⟩) zs.length cap] w fun e w' =>
      e = .returned (.tuple #[]) ∧ ∃ n os, w' = grow (putRow (Value.int .i64) (Sort.ahead w n) blk off (zs.mergeSort fun x y => decide (x ≤ y)).toArray) os := Any.slices_Sort_int Tryz.lays189 blk off cap zs w hH hblk hsz
def Tryz.lays315_ren : Go.Shelf.Ren := ⟨fun | 315 => 151 | n => n, fun | 9 => 9 | 40 => 135 | 4 => 4 | 3 => 3 | 0 => 0 | 21 => 21 | n => n, fun | n => n⟩
theorem Tryz.lays315 : Go.Proofs.Lays.n315 Tryz.prog Tryz.lays315_ren := {
  mixed := by kernel_rfl
  f315 := Tryz.func151.trans (congrArg some (by kernel_rfl))
  t0 := Tryz.underlying0
  a0 := Tryz.isAgg0
  z0 := Tryz.sizeOf0
  v0 := Tryz.zeroValue0
  t3 := Tryz.underlying3
  a3 := Tryz.isAgg3
  z3 := Tryz.sizeOf3
  v3 := Tryz.zeroValue3
  t4 := Tryz.underlying4
  a4 := Tryz.isAgg4
  z4 := Tryz.sizeOf4
  v4 := Tryz.zeroValue4
  t9 := Tryz.underlying9
  a9 := Tryz.isAgg9
  z9 := Tryz.sizeOf9
  v9 := Tryz.zeroValue9
  t21 := Tryz.underlying21
  a21 := Tryz.isAgg21
  z21 := Tryz.sizeOf21
  v21 := Tryz.zeroValue21
  t40 := Tryz.underlying135
  a40 := Tryz.isAgg135
  z40 := Tryz.sizeOf135
  v40 := Tryz.zeroValue135 }
open Go.RowKit Go.Lib in
theorem Tryz.strings_indexFunc (g : Nat) (lb : Array Value) (eg : ∀ args w, (callFunc g args).run Tryz.prog w = .ok (.enter g args) w) (p : Nat → Bool) (truth : Bool) (s : ByteArray) (w : World) (hp : PredAt Tryz.prog g lb encR p w) :
    Calls Tryz.prog 151 #[.string s, .func (.func g) #[] lb, .bool truth] w fun e w' => e = .returned (.int .i64 (Lib.idxFunc p truth s)) ∧ Below w.heap.size w w' := Any.strings_indexFunc Tryz.lays315 g lb eg p truth s w hp
def Tryz.laysGw15_ren : Go.Shelf.Ren := ⟨fun | 15 => 113 | 20 => 151 | n => n, fun | 9 => 9 | 23 => 135 | 3 => 3 | 4 => 4 | 0 => 0 | 21 => 21 | n => n, fun | n => n⟩
theorem Tryz.laysGw15 : Go.Proofs.LaysGw.n15 Tryz.prog Tryz.laysGw15_ren := {
  mixed := by kernel_rfl
  f15 := Tryz.func113.trans (congrArg some (by kernel_rfl))
  f20 := Tryz.func151.trans (congrArg some (by kernel_rfl))
  t0 := Tryz.underlying0
  a0 := Tryz.isAgg0
  z0 := Tryz.sizeOf0
  v0 := Tryz.zeroValue0
  i0 := by kernel_rfl
  t3 := Tryz.underlying3
  a3 := Tryz.isAgg3
  z3 := Tryz.sizeOf3
  v3 := Tryz.zeroValue3
  i3 := by kernel_rfl
  t4 := Tryz.underlying4
  a4 := Tryz.isAgg4
  z4 := Tryz.sizeOf4
  v4 := Tryz.zeroValue4
  i4 := by kernel_rfl
  t9 := Tryz.underlying9
  a9 := Tryz.isAgg9
  z9 := Tryz.sizeOf9
  v9 := Tryz.zeroValue9
  i9 := by kernel_rfl
  t21 := Tryz.underlying21
  a21 := Tryz.isAgg21
  z21 := Tryz.sizeOf21
  v21 := Tryz.zeroValue21
  i21 := by kernel_rfl
  t23 := Tryz.underlying135
  a23 := Tryz.isAgg135
  z23 := Tryz.sizeOf135
  v23 := Tryz.zeroValue135
  i23 := by kernel_rfl }
open Go.RowKit Go.Lib in
theorem Tryz.strings_IndexFunc (g : Nat) (lb : Array Value) (eg : ∀ args w, (callFunc g args).run Tryz.prog w = .ok (.enter g args) w) (p : Nat → Bool) (s : ByteArray) (w : World) (hp : PredAt Tryz.prog g lb encR p w) :
    Calls Tryz.prog 113 #[.string s, .func (.func g) #[] lb] w fun e w' => e = .returned (.int .i64 (Lib.idxFunc p true s)) ∧ Below w.heap.size w w' := Any.strings_IndexFunc Tryz.laysGw15 g lb eg p s w hp
open Go.RowKit Go.Lib in
theorem Tryz.strings_indexFunc_grows (g : Nat) (lb : Array Value) (eg : ∀ args w, (callFunc g args).run Tryz.prog w = .ok (.enter g args) w) (p : Nat → Bool) (truth : Bool) (s : ByteArray) (w : World) (hp : PredGrows Tryz.prog g lb p w) :
    Calls Tryz.prog 151 #[.string s, .func (.func g) #[] lb, .bool truth] w fun e w' => e = .returned (.int .i64 (Lib.idxFunc p truth s)) ∧ Below w.heap.size w w' := Any.strings_indexFunc_grows Tryz.lays315 g lb eg p truth s w hp
open Go.RowKit Go.Lib in
theorem Tryz.strings_IndexFunc_grows (g : Nat) (lb : Array Value) (eg : ∀ args w, (callFunc g args).run Tryz.prog w = .ok (.enter g args) w) (p : Nat → Bool) (s : ByteArray) (w : World) (hp : PredGrows Tryz.prog g lb p w) :
    Calls Tryz.prog 113 #[.string s, .func (.func g) #[] lb] w fun e w' => e = .returned (.int .i64 (Lib.idxFunc p true s)) ∧ Below w.heap.size w w' := Any.strings_IndexFunc_grows Tryz.laysGw15 g lb eg p s w hp
def Tryz.lays108_ren : Go.Shelf.Ren := ⟨fun | 108 => 146 | n => n, fun | 28 => 94 | 3 => 3 | 0 => 0 | 4 => 4 | n => n, fun | n => n⟩
theorem Tryz.lays108 : Go.Proofs.Lays.n108 Tryz.prog Tryz.lays108_ren := {
  mixed := by kernel_rfl
  f108 := Tryz.func146.trans (congrArg some (by kernel_rfl))
  t0 := Tryz.underlying0
  a0 := Tryz.isAgg0
  z0 := Tryz.sizeOf0
  v0 := Tryz.zeroValue0
  t3 := Tryz.underlying3
  a3 := Tryz.isAgg3
  z3 := Tryz.sizeOf3
  v3 := Tryz.zeroValue3
  t4 := Tryz.underlying4
  a4 := Tryz.isAgg4
  z4 := Tryz.sizeOf4
  v4 := Tryz.zeroValue4
  t28 := Tryz.underlying94
  a28 := Tryz.isAgg94
  z28 := Tryz.sizeOf94
  v28 := Tryz.zeroValue94 }
open Go.Lib in
/-- slices.Index at []int: "Index returns the index of the first occurrence of v in s, or -1 if not present.": IT RETURNS 'Lib.idxOf (the elements) v'; the world is as it was. 'zs': what the cells behind the slice's address hold (its spare capacity too, if you have it); 'zs.take n': its elements. (LAID: no walk: one application.) -/
theorem Tryz.slices_Index_int (b off n c : Nat) (zs : List Int) (x : Int) (w : World) (hz : n ≤ zs.length) (hbig : n ≤ 9223372036854775807) (hc : ∀ j, j < zs.length → w.cell? ⟨b, off + j, none⟩ = some (.int .i64 (zs.getD j 0))) :
    Calls Tryz.prog 146 #[.slice (some ⟨b, off, none⟩) n c, .int .i64 x] w fun e w' => e = .returned (.int .i64 (Lib.idxOf (zs.take n) x)) ∧ w' = w := Any.slices_Index_int Tryz.lays108 b off n c zs x w hz hbig hc
open Go.Lib in
/-- The same at a slice of length 0, a nil one too: no cell is known, none is asked for. (LAID: no walk: one application.) -/
theorem Tryz.slices_Index_int_empty (a : Option Addr) (c : Nat) (x : Int) (w : World) :
    Calls Tryz.prog 146 #[.slice a 0 c, .int .i64 x] w fun e w' => e = .returned (.int .i64 (Lib.idxOf [] x)) ∧ w' = w := Any.slices_Index_int_empty Tryz.lays108 a c x w
def Tryz.lays107_ren : Go.Shelf.Ren := ⟨fun | 107 => 111 | 108 => 146 | n => n, fun | 28 => 94 | 3 => 3 | 4 => 4 | 0 => 0 | n => n, fun | n => n⟩
theorem Tryz.lays107 : Go.Proofs.Lays.n107 Tryz.prog Tryz.lays107_ren := {
  mixed := by kernel_rfl
  f107 := Tryz.func111.trans (congrArg some (by kernel_rfl))
  f108 := Tryz.func146.trans (congrArg some (by kernel_rfl))
  t0 := Tryz.underlying0
  a0 := Tryz.isAgg0
  z0 := Tryz.sizeOf0
  v0 := Tryz.zeroValue0
  t3 := Tryz.underlying3
  a3 := Tryz.isAgg3
  z3 := Tryz.sizeOf3
  v3 := Tryz.zeroValue3
  t4 := Tryz.underlying4
  a4 := Tryz.isAgg4
  z4 := Tryz.sizeOf4
  v4 := Tryz.zeroValue4
  t28 := Tryz.underlying94
  a28 := Tryz.isAgg94
  z28 := Tryz.sizeOf94
  v28 := Tryz.zeroValue94 }
open Go.Lib in
/-- slices.Contains at []int: "Contains reports whether v is present in s.": IT RETURNS 'elements.contains v'; the world is as it was. ITS CALLEE slices.Index IS MET BY ITS OWN CONTRACT OFF THE SHELF (lay that first): no loop is walked here. (LAID: no walk: one application.) -/
theorem Tryz.slices_Contains_int (b off n c : Nat) (zs : List Int) (x : Int) (w : World) (hz : n ≤ zs.length) (hbig : n ≤ 9223372036854775807) (hc : ∀ j, j < zs.length → w.cell? ⟨b, off + j, none⟩ = some (.int .i64 (zs.getD j 0))) :
    Calls Tryz.prog 111 #[.slice (some ⟨b, off, none⟩) n c, .int .i64 x] w fun e w' => e = .returned (.bool ((zs.take n).contains x)) ∧ w' = w := Any.slices_Contains_int Tryz.lays107 b off n c zs x w hz hbig hc
open Go.Lib in
/-- The same at a slice of length 0, a nil one too. (LAID: no walk: one application.) -/
theorem Tryz.slices_Contains_int_empty (a : Option Addr) (c : Nat) (x : Int) (w : World) :
    Calls Tryz.prog 111 #[.slice a 0 c, .int .i64 x] w fun e w' => e = .returned (.bool false) ∧ w' = w := Any.slices_Contains_int_empty Tryz.lays107 a c x w
def Tryz.laysNm220_ren : Go.Shelf.Ren := ⟨fun | 20 => 150 | n => n, fun | 22 => 94 | 3 => 3 | 4 => 4 | 0 => 0 | n => n, fun | n => n⟩
theorem Tryz.laysNm220 : Go.Proofs.Lays2.n20 Tryz.prog Tryz.laysNm220_ren := {
  mixed := by kernel_rfl
  f20 := Tryz.func150.trans (congrArg some (by kernel_rfl))
  t0 := Tryz.underlying0
  a0 := Tryz.isAgg0
  z0 := Tryz.sizeOf0
  v0 := Tryz.zeroValue0
  t3 := Tryz.underlying3
  a3 := Tryz.isAgg3
  z3 := Tryz.sizeOf3
  v3 := Tryz.zeroValue3
  t4 := Tryz.underlying4
  a4 := Tryz.isAgg4
  z4 := Tryz.sizeOf4
  v4 := Tryz.zeroValue4
  t22 := Tryz.underlying94
  a22 := Tryz.isAgg94
  z22 := Tryz.sizeOf94
  v22 := Tryz.zeroValue94
  i3 := by kernel_rfl }
open Go.RowKit Go.Lib Go.Sort in
/-- slices.Compact at []int, over an array: the library's two loops are walked. (LAID: no walk: one application.) -/
theorem Tryz.slices_Compact_int_arr (blk off cap : Nat) (d : Array Int) (w : World) (hH : Holds encI w blk off d) (hsz : d.size ≤ 9223372036854775807) (hcap : d.size ≤ cap) :
    Calls Tryz.prog 150 #[.slice (some ⟨blk, off, none⟩) d.size cap] w fun e w' => e = .returned (.slice (some ⟨blk, off, none⟩) (compactUpTo d d.size).length cap) ∧ ∃ q, w' = putRow encI (Sort.ahead w q) blk off (compactUpTo d d.size ++ List.replicate (d.size - (compactUpTo d d.size).length) 0).toArray := Any.slices_Compact_int_arr Tryz.laysNm220 blk off cap d w hH hsz hcap
open Go.RowKit Go.Lib Go.Sort in
/-- slices.Compact at []int: "Compact replaces consecutive runs of equal elements with a single copy. This is like the uniq command found on Unix. Compact modifies the contents of the slice s and returns the modified slice, which may have a smaller length. Compact zeroes the elements between the new length and the original length. The result preserves the nilness of s.": IT RETURNS THE SLICE CUT TO 'Lib.compact zs'; ITS CELLS HOLD 'Lib.compact zs', THEN ZERO VALUES up to the old length; all else is as it was, but for the count of draws. IN THE WORDS OF slices.Sort's CONTRACT ('Holds', 'putRow'): so the everyday 'slices.Sort(xs); xs = slices.Compact(xs)' goes from the one contract to the other. It asks 'zs.length ≤ cap' (every slice's: the reslicing 's[:k]' looks at it). Length 0, nil: '.._empty'. (LAID: no walk: one application.) -/
theorem Tryz.slices_Compact_int (blk off cap : Nat) (zs : List Int) (w : World) (hH : Holds (Value.int .i64) w blk off zs.toArray) (hsz : zs.length ≤ 9223372036854775807) (hcap : zs.length ≤ cap) :
    Calls Tryz.prog 150 #[.slice (some ⟨blk, off, none⟩) zs.length cap] w fun e w' => e = .returned (.slice (some ⟨blk, off, none⟩) (Lib.compact zs).length cap) ∧ ∃ q, w' = putRow (Value.int .i64) (Sort.ahead w q) blk off (Lib.compact zs ++ List.replicate (zs.length - (Lib.compact zs).length) 0).toArray := Any.slices_Compact_int Tryz.laysNm220 blk off cap zs w hH hsz hcap
open Go.RowKit Go.Lib Go.Sort in
/-- The same at a slice of length 0, a nil one too: it comes back as it is. (LAID: no walk: one application.) -/
theorem Tryz.slices_Compact_int_empty (a : Option Addr) (cap : Nat) (w : World) :
    Calls Tryz.prog 150 #[.slice a 0 cap] w fun e w' => e = .returned (.slice a 0 cap) ∧ w' = w := Any.slices_Compact_int_empty Tryz.laysNm220 a cap w
open Go.RowKit Go.Sort in
/-- .. and plain. (LAID: no walk: one application.) -/
theorem Tryz.slices_Sort_int_none (p : Option Addr) (cap : Nat) (w : World) :
    Calls Tryz.prog 149 #[.slice p 0 cap] w fun e w' => e = .returned (.tuple #[]) ∧ w' = w := Any.slices_Sort_int_none Tryz.lays189 p cap w
def Tryz.laysSlE43_f150_ren : Go.Shelf.Ren := ⟨fun | 43 => 150 | n => n, fun | 22 => 94 | 23 => 3 | 3 => 3 | 4 => 4 | 0 => 0 | n => n, fun | n => n⟩
theorem Tryz.laysSlE43_f150 : Go.Proofs.SlLaysE.n43 Tryz.prog Tryz.laysSlE43_f150_ren := {
  mixed := by kernel_rfl
  f43 := ⟨Tryz.f150.name, by decide, Tryz.func150.trans (congrArg some (by kernel_rfl))⟩
  t0 := Tryz.underlying0
  a0 := Tryz.isAgg0
  z0 := Tryz.sizeOf0
  v0 := Tryz.zeroValue0
  t3 := Tryz.underlying3
  a3 := Tryz.isAgg3
  z3 := Tryz.sizeOf3
  v3 := Tryz.zeroValue3
  t4 := Tryz.underlying4
  a4 := Tryz.isAgg4
  z4 := Tryz.sizeOf4
  v4 := Tryz.zeroValue4
  t22 := Tryz.underlying94
  a22 := Tryz.isAgg94
  z22 := Tryz.sizeOf94
  v22 := Tryz.zeroValue94
  a23 := Tryz.isAgg3
  z23 := Tryz.sizeOf3 }
open Go.RowKit Go.Lib Go.Sort in
/-- slices.Compact: "Compact replaces consecutive runs of equal elements with a single copy. .. Compact zeroes the elements between the new length and the original length.": IT RETURNS THE SLICE CUT TO 'compactUpTo d d.size'; ITS CELLS HOLD THAT, THEN ZERO VALUES up to the old length; the library's two loops are walked. (LAID AT THE INSTANCE 'slices.Compact[[]int,int]': no walk: one application.) -/
theorem Tryz.slices_Compact {α : Type} [Inhabited α] [DecidableEq α] (enc : α → Value) (hO : OneCell enc) (heq : EqlAt Tryz.prog 3 enc (fun x y => decide (x = y))) (hne : NeqAt Tryz.prog 3 enc (fun x y => decide (x = y))) (zr : α) (v23 : ∀ w, (zeroValue 3).run Tryz.prog w = .ok (enc zr) w) (blk off cap : Nat) (d : Array α) (w : World) (hH : Holds enc w blk off d) (hsz : d.size ≤ 9223372036854775807) (hcap : d.size ≤ cap) :
    Calls Tryz.prog 150 #[.slice (some ⟨blk, off, none⟩) d.size cap] w fun e w' => e = .returned (.slice (some ⟨blk, off, none⟩) (compactUpTo d d.size).length cap) ∧ ∃ q, w' = putRow enc (Sort.ahead w q) blk off (compactUpTo d d.size ++ List.replicate (d.size - (compactUpTo d d.size).length) zr).toArray := AnyE.slices_Compact Tryz.laysSlE43_f150 enc hO heq hne zr v23 blk off cap d w hH hsz hcap
def Tryz.laysSlH6_f159_ren : Go.Shelf.Ren := ⟨fun | 6 => 159 | n => n, fun | 22 => 94 | 23 => 3 | 25 => 130 | 3 => 3 | 0 => 0 | 4 => 4 | n => n, fun | n => n⟩
theorem Tryz.laysSlH6_f159 : Go.Proofs.SlLaysH.n6 Tryz.prog Tryz.laysSlH6_f159_ren := {
  mixed := by kernel_rfl
  f6 := ⟨Tryz.f159.name, by decide, Tryz.func159.trans (congrArg some (by kernel_rfl))⟩
  t0 := Tryz.underlying0
  a0 := Tryz.isAgg0
  z0 := Tryz.sizeOf0
  v0 := Tryz.zeroValue0
  t3 := Tryz.underlying3
  a3 := Tryz.isAgg3
  z3 := Tryz.sizeOf3
  v3 := Tryz.zeroValue3
  t4 := Tryz.underlying4
  a4 := Tryz.isAgg4
  z4 := Tryz.sizeOf4
  v4 := Tryz.zeroValue4
  t22 := Tryz.underlying94
  a22 := Tryz.isAgg94
  z22 := Tryz.sizeOf94
  v22 := Tryz.zeroValue94
  a23 := Tryz.isAgg3
  z23 := Tryz.sizeOf3
  t25 := Tryz.underlying130
  a25 := Tryz.isAgg130
  z25 := Tryz.sizeOf130
  v25 := Tryz.zeroValue130 }
open Go.RowKit Go.Lib in
/-- slices.IndexFunc: "IndexFunc returns the first index i satisfying f(s[i]), or -1 if none do." (LAID AT THE INSTANCE 'slices.IndexFunc[[]int,int]': no walk: one application.) -/
theorem Tryz.slices_IndexFunc {α : Type} [Inhabited α] (enc : α → Value) (p : α → Bool) (g : Nat) (lb : Array Value) (eg : ∀ args w, (callFunc g args).run Tryz.prog w = .ok (.enter g args) w) (b off n c : Nat) (zs : List α) (w : World) (hp : PredAt Tryz.prog g lb enc p w) (hz : n ≤ zs.length) (hbig : n ≤ 9223372036854775807) (hc : ∀ j, j < zs.length → w.cell? ⟨b, off + j, none⟩ = some (enc zs[j]!)) :
    Calls Tryz.prog 159 #[.slice (some ⟨b, off, none⟩) n c, .func (.func g) #[] lb] w fun e w' => e = .returned (.int .i64 (Lib.idxBy (fun _ y => p y) (zs.take n) default)) ∧ ∃ q, w' = w.drewN q := AnyE.slices_IndexFunc Tryz.laysSlH6_f159 enc p g lb eg b off n c zs w hp hz hbig hc
open Go.RowKit Go.Lib in
/-- The same at a slice of length 0, a nil one too: the predicate is not called: nothing is asked of it. (LAID AT THE INSTANCE 'slices.IndexFunc[[]int,int]': no walk: one application.) -/
theorem Tryz.slices_IndexFunc_empty {α : Type} [Inhabited α] (a : Option Addr) (c : Nat) (fv : Value) (w : World) :
    Calls Tryz.prog 159 #[.slice a 0 c, fv] w fun e w' => e = .returned (.int .i64 (-1)) ∧ w' = w := AnyE.slices_IndexFunc_empty Tryz.laysSlH6_f159 a c fv w
def Tryz.laysSlH10_f136_ren : Go.Shelf.Ren := ⟨fun | 10 => 136 | 6 => 159 | n => n, fun | 22 => 94 | 23 => 3 | 25 => 130 | 3 => 3 | 4 => 4 | 0 => 0 | n => n, fun | n => n⟩
theorem Tryz.laysSlH10_f136 : Go.Proofs.SlLaysH.n10 Tryz.prog Tryz.laysSlH10_f136_ren := {
  mixed := by kernel_rfl
  f6 := ⟨Tryz.f159.name, by decide, Tryz.func159.trans (congrArg some (by kernel_rfl))⟩
  f10 := ⟨Tryz.f136.name, by decide, Tryz.func136.trans (congrArg some (by kernel_rfl))⟩
  t0 := Tryz.underlying0
  a0 := Tryz.isAgg0
  z0 := Tryz.sizeOf0
  v0 := Tryz.zeroValue0
  t3 := Tryz.underlying3
  a3 := Tryz.isAgg3
  z3 := Tryz.sizeOf3
  v3 := Tryz.zeroValue3
  t4 := Tryz.underlying4
  a4 := Tryz.isAgg4
  z4 := Tryz.sizeOf4
  v4 := Tryz.zeroValue4
  t22 := Tryz.underlying94
  a22 := Tryz.isAgg94
  z22 := Tryz.sizeOf94
  v22 := Tryz.zeroValue94
  a23 := Tryz.isAgg3
  z23 := Tryz.sizeOf3
  t25 := Tryz.underlying130
  a25 := Tryz.isAgg130
  z25 := Tryz.sizeOf130
  v25 := Tryz.zeroValue130 }
open Go.RowKit Go.Lib Go.Sort in
theorem Tryz.slices_DeleteFunc {α : Type} [Inhabited α] (enc : α → Value) (hO : OneCell enc) (p : α → Bool) (g : Nat) (lb : Array Value) (eg : ∀ args w, (callFunc g args).run Tryz.prog w = .ok (.enter g args) w) (zr : α) (v23 : ∀ w, (zeroValue 3).run Tryz.prog w = .ok (enc zr) w) (blk off cap : Nat) (d : Array α) (w : World) (hp : PredAt Tryz.prog g lb enc p w) (hpo : PredOver Tryz.prog g lb enc p blk off d.size w) (hH : Holds enc w blk off d) (hsz : d.size ≤ 9223372036854775807) (hcap : d.size ≤ cap) :
    Calls Tryz.prog 136 #[.slice (some ⟨blk, off, none⟩) d.size cap, .func (.func g) #[] lb] w fun e w' => e = .returned (.slice (some ⟨blk, off, none⟩) (d.toList.filter fun x => !p x).length cap) ∧ ∃ q, w' = putRow enc (Sort.ahead w q) blk off ((d.toList.filter fun x => !p x) ++ List.replicate (d.size - (d.toList.filter fun x => !p x).length) zr).toArray := AnyE.slices_DeleteFunc Tryz.laysSlH10_f136 enc hO p g lb eg zr v23 blk off cap d w hp hpo hH hsz hcap
end Go.Proofs

/- Plain law: which texts are boards, as strings.IndexFunc over a closure finds out. -/
namespace Go.Proofs.YtafmapadkpjliaaGreatDoor.Sp
open Go.Lib

/-- The byte is a cell's: '.', or one of the fourteen letters. -/
def cellB (c : Nat) : Bool := c == 46 || c == 75 || c == 65 || c == 66 || c == 78 || c == 82 || c == 67 || c == 80 || c == 107 || c == 97 || c == 98 || c == 110 || c == 114 || c == 99 || c == 112
theorem cellB_le {c : Nat} (h : cellB c = true) : c ≤ 122 := by
  simp only [cellB, Bool.or_eq_true, beq_iff_eq] at h
  omega
/-- A text is a board. -/
def isBoard (s : ByteArray) : Bool := s.size == 90 && s.data.toList.all (fun b => cellB b.toNat)
def badR (r : Nat) : Bool := decide (122 < r) || !(cellB r)

theorem decode_small (s : ByteArray) (i : Nat) (h : (s.get! i).toNat < 128) : Utf8.decode s i = ((s.get! i).toNat, 1) := by
  unfold Utf8.decode
  simp only [Nat.add_zero]
  rw [if_pos h]
theorem decode_big (s : ByteArray) (i : Nat) (h : ¬ (s.get! i).toNat < 128) : 128 ≤ (Utf8.decode s i).1 := by
  unfold Utf8.decode
  simp only [Nat.add_zero]
  rw [if_neg h]
  have e : (128 : Nat) ≤ Utf8.runeError := by decide
  repeat' split
  all_goals first | exact e | (simp_all; done) | (simp_all; omega)

theorem get_at (s : ByteArray) (i : Nat) (h : i < s.size) : s.get! i = s.data.toList[i]'(by rw [Array.length_toList]; exact h) := by
  show s.data[i]! = _
  rw [getElem!_pos s.data i h]; simp

theorem idx_neg (s : ByteArray) : ∀ (f pos : Nat), s.size ≤ f + pos → (idxFuncFrom badR true s f pos < 0 ↔ ∀ i, pos ≤ i → (h : i < s.data.toList.length) → cellB (s.data.toList[i]'h).toNat = true)
  | 0, pos, hf => by
    have e : s.data.toList.length = s.size := by rw [Array.length_toList]; rfl
    simp only [idxFuncFrom]
    exact ⟨fun _ i h1 h2 => by omega, fun _ => by decide⟩
  | f + 1, pos, hf => by
    have e : s.data.toList.length = s.size := by rw [Array.length_toList]; rfl
    unfold idxFuncFrom
    by_cases hp : pos < s.size
    · rw [if_pos hp]
      by_cases hb : (s.get! pos).toNat < 128
      · rw [decode_small s pos hb]
        have hg := get_at s pos hp
        by_cases hc : cellB (s.get! pos).toNat = true
        · have hn : ¬ badR (s.get! pos).toNat = true := by
            have := cellB_le hc
            simp [badR, hc]; omega
          rw [if_neg hn, idx_neg s f (pos + 1) (by omega)]
          constructor
          · intro h i h1 h2
            by_cases hi : i = pos
            · subst hi; rw [← hg]; exact hc
            · exact h i (by omega) h2
          · intro h i h1 h2; exact h i (by omega) h2
        · have hn : badR (s.get! pos).toNat = true := by simp [badR, hc]
          rw [if_pos hn]
          constructor
          · intro h; omega
          · intro h; exact absurd (by rw [hg]; exact h pos (Nat.le_refl _) (by omega)) hc
      · have h1 := decode_big s pos hb
        have hn : badR (Utf8.decode s pos).1 = true := by simp [badR]; left; omega
        rw [if_pos hn]
        constructor
        · intro h; omega
        · intro h
          have hc := h pos (Nat.le_refl _) (by omega)
          rw [← get_at s pos hp] at hc
          have := cellB_le hc
          omega
    · rw [if_neg hp]
      exact ⟨fun _ i h1 h2 => by omega, fun _ => by decide⟩

theorem idx_all (s : ByteArray) : decide (idxFunc badR true s < 0) = s.data.toList.all (fun b => cellB b.toNat) := by
  have h := idx_neg s s.size 0 (by omega)
  rw [Bool.eq_iff_iff, decide_eq_true_iff, List.all_eq_true]
  unfold idxFunc
  rw [h]
  constructor
  · intro k b hb
    obtain ⟨i, hi, rfl⟩ := List.getElem_of_mem hb
    exact k i (Nat.zero_le _) hi
  · intro k i _ hi
    exact k _ (List.getElem_mem hi)
end Go.Proofs.YtafmapadkpjliaaGreatDoor.Sp

/- Plain law: pieces, squares, and where a piece reaches: the document's answer over a board as a function from squares to bytes. -/
namespace Go.Proofs.YtafmapadkpjliaaGreatDoor.Sp

def isRed (x : Nat) : Bool := x == 75 || x == 65 || x == 66 || x == 78 || x == 82 || x == 67 || x == 80
def isBlack (x : Nat) : Bool := x == 107 || x == 97 || x == 98 || x == 110 || x == 114 || x == 99 || x == 112
def sideN (x : Nat) : Int := if isRed x then 0 else if isBlack x then 1 else -1
def kindN (x : Nat) : Nat := if isRed x then x else if isBlack x then x - 32 else 0
/-- The fifteen bytes of a board. -/
def letters : List Nat := [46, 75, 65, 66, 78, 82, 67, 80, 107, 97, 98, 110, 114, 99, 112]
theorem cellB_mem : ∀ x, cellB x = true → x ∈ letters := by
  intro x h
  simp only [cellB, Bool.or_eq_true, beq_iff_eq] at h
  simp only [letters, List.mem_cons, List.not_mem_nil, or_false]
  omega

/-- A square's rank from a side's own. -/
def ownR (n : Nat) (side : Int) : Nat := if side = 1 then 9 - n / 9 else n / 9
def palaceN (n : Nat) (side : Int) : Bool := decide (3 ≤ n % 9) && decide (n % 9 ≤ 5) && decide (ownR n side ≤ 2)
def overN (n : Nat) (side : Int) : Bool := decide (5 ≤ ownR n side)
def mayN (x n : Nat) : Bool :=
  if sideN x < 0 then false
  else if kindN x = 75 then palaceN n (sideN x)
  else if kindN x = 65 then (n % 9 == 4 && ownR n (sideN x) == 1) || ((n % 9 == 3 || n % 9 == 5) && (ownR n (sideN x) == 0 || ownR n (sideN x) == 2))
  else if kindN x = 66 then ((ownR n (sideN x) == 0 || ownR n (sideN x) == 4) && (n % 9 == 2 || n % 9 == 6)) || (ownR n (sideN x) == 2 && (n % 9 == 0 || n % 9 == 4 || n % 9 == 8))
  else if kindN x = 80 then decide (5 ≤ ownR n (sideN x)) || (decide (3 ≤ ownR n (sideN x)) && n % 9 % 2 == 0)
  else true

/-- How far two numbers are. -/
def away (a b : Nat) : Nat := if a ≤ b then b - a else a - b
/-- The squares between two of a line, the lesser ones first; none, if they are on no line. -/
def betwL (a b : Nat) : List Nat :=
  if a / 9 = b / 9 then (List.range (away a b - 1)).map (fun i => Nat.min a b + 1 + i)
  else if a % 9 = b % 9 then (List.range (away (a / 9) (b / 9) - 1)).map (fun i => Nat.min a b + 9 * (i + 1))
  else []
/-- How many pieces stand between; -1: on no line, or the same. -/
def betwN (c : Nat → Nat) (a b : Nat) : Int :=
  if a = b then -1 else if a / 9 = b / 9 ∨ a % 9 = b % 9 then ((betwL a b).countP (fun i => c i != 46) : Nat) else -1
/-- The square next to a, towards b, along the longer way of a horse. -/
def legN (a b : Nat) : Nat :=
  if away (a % 9) (b % 9) = 1 then (if b / 9 > a / 9 then a + 9 else a - 9) else (if b % 9 > a % 9 then a + 1 else a - 1)
def horseN (c : Nat → Nat) (a b : Nat) : Bool :=
  ((away (a % 9) (b % 9) == 1 && away (a / 9) (b / 9) == 2) || (away (a % 9) (b % 9) == 2 && away (a / 9) (b / 9) == 1)) && c (legN a b) == 46
def pawnN (side : Int) (a b : Nat) : Bool :=
  (if side = 1 then b + 9 == a else b == a + 9) || (overN a side && a / 9 == b / 9 && away a b == 1)
/-- P5.2, of something on a, nothing of its own on b. -/
def canN (c : Nat → Nat) (a b : Nat) : Bool :=
  if kindN (c a) = 75 then away (a % 9) (b % 9) + away (a / 9) (b / 9) == 1 && mayN (c a) b
  else if kindN (c a) = 65 then away (a % 9) (b % 9) == 1 && away (a / 9) (b / 9) == 1 && mayN (c a) b
  else if kindN (c a) = 66 then away (a % 9) (b % 9) == 2 && away (a / 9) (b / 9) == 2 && mayN (c a) b && c ((a + b) / 2) == 46
  else if kindN (c a) = 78 then horseN c a b
  else if kindN (c a) = 82 then betwN c a b == 0
  else if kindN (c a) = 67 then (betwN c a b == 0 && c b == 46) || (betwN c a b == 1 && c b != 46)
  else pawnN (sideN (c a)) a b
def fastN (c : Nat → Nat) (a b : Nat) : Bool := decide (0 ≤ sideN (c a)) && sideN (c b) != sideN (c a) && canN c a b
def allN (c : Nat → Nat) (a : Nat) : List Nat := (List.range 90).filter (fastN c a)
end Go.Proofs.YtafmapadkpjliaaGreatDoor.Sp

/- Walks: pieces, boards, squares. -/
namespace Go.Proofs.YtafmapadkpjliaaGreatDoor.K
open Go.RowKit Go.Lib Go.Proofs.YtafmapadkpjliaaGreatDoorW.PrintWords Go.Proofs.YtafmapadkpjliaaGreatDoor.Sp
set_option linter.unusedVariables false
set_option linter.unusedSimpArgs false
/-- The byte of a text. -/
def cel (s : ByteArray) (n : Nat) : Nat := (s.get! n).toNat
theorem cel_get (s : ByteArray) (n : Nat) (h : n < s.size) : (s[n]'h).toNat = cel s n := by unfold cel; rw [Sp.get_at s n h]; rfl
attribute [local go_sem] cel_get   -- for this text's walks alone
theorem ret_int {k : IntKind} {a b : Int} (h : a = b) : Ending.returned (.int k a) = Ending.returned (.int k b) := by rw [h]
theorem ret_bool {a b : Bool} (h : a = b) : Ending.returned (.bool a) = Ending.returned (.bool b) := by rw [h]
theorem red_at : ∀ x : Fin 256, (0 ≤ Lib.indexByte [75, 65, 66, 78, 82, 67, 80] (UInt8.ofNat x.1) ↔ isRed x.1 = true) := by decide +kernel
theorem black_at : ∀ x : Fin 256, (0 ≤ Lib.indexByte [107, 97, 98, 110, 114, 99, 112] (UInt8.ofNat x.1) ↔ isBlack x.1 = true) := by decide +kernel
theorem side_c (x : Nat) (hx : x < 256) (w : World) : Calls Tryz.prog 105 #[.int .u8 (x : Int)] w fun e w' => e = .returned (.int .i64 (sideN x)) ∧ w' = w := by
  have H1 := Aside0.mk (red_at ⟨x, hx⟩)
  have H2 := Aside0.mk (black_at ⟨x, hx⟩)
  go_enter Tryz.func105, Tryz.ntmps105
  go_wp2_with (go_at_call 107; refine (Tryz.strings_IndexByte _ _ _).mono ?_; rintro e w' ⟨rfl, rfl⟩)
  all_goals
    go_ret
    refine ⟨ret_int ?_, rfl⟩
    have h1 := H1.out
    have h2 := H2.out
    clear H1 H2
    unfold sideN
    cases hr : isRed x <;> cases hb : isBlack x <;> simp_all <;> omega
theorem sideN_le (x : Nat) : -1 ≤ sideN x ∧ sideN x ≤ 1 := by unfold sideN; split <;> (try split) <;> omega
theorem red_lt {x : Nat} (h : isRed x = true) : x < 256 := by simp [isRed] at h; omega
theorem black_lt {x : Nat} (h : isBlack x = true) : 97 ≤ x ∧ x < 256 := by simp [isBlack] at h; omega
theorem kind_c (x : Nat) (hx : x < 256) (w : World) : Calls Tryz.prog 96 #[.int .u8 (x : Int)] w fun e w' => e = .returned (.int .u8 (kindN x : Int)) ∧ w' = w := by
  have HX := Aside0.mk hx
  clear hx
  cases hr : isRed x
  case true =>
    have hs : sideN x = 0 := by unfold sideN; rw [hr]; rfl
    have hk : kindN x = x := by unfold kindN; rw [hr]; rfl
    have HS := side_c x HX.out w
    rw [hs] at HS
    have HS := Aside0.mk HS
    rw [hk]
    clear hr hs hk
    go_enter Tryz.func96, Tryz.ntmps96
    go_wp2_with (go_at_call 105; refine HS.out.mono ?_; rintro e w' ⟨rfl, rfl⟩)
    go_ret
    exact ⟨rfl, rfl⟩
  case false =>
  cases hb : isBlack x
  case true =>
    have hs : sideN x = 1 := by unfold sideN; rw [hr, hb]; rfl
    have hk : kindN x = x - 32 := by unfold kindN; rw [hr, hb]; rfl
    have hlt := black_lt hb
    have hm : (((x : Nat) : Int) - 32) % 256 = ((x - 32 : Nat) : Int) := by omega
    have HM := Aside0.mk hm
    have HS := side_c x HX.out w
    rw [hs] at HS
    have HS := Aside0.mk HS
    rw [hk]
    clear hr hs hk hb hlt hm
    go_enter Tryz.func96, Tryz.ntmps96
    go_wp2_with (go_at_call 105; refine HS.out.mono ?_; rintro e w' ⟨rfl, rfl⟩)
    go_ret
    exact ⟨ret_int HM.out, rfl⟩
  case false =>
    have hs : sideN x = -1 := by unfold sideN; rw [hr, hb]; rfl
    have hk : kindN x = 0 := by unfold kindN; rw [hr, hb]; rfl
    have HS := side_c x HX.out w
    rw [hs] at HS
    have HS := Aside0.mk HS
    rw [hk]
    clear hr hs hk hb
    go_enter Tryz.func96, Tryz.ntmps96
    go_wp2_with (go_at_call 105; refine HS.out.mono ?_; rintro e w' ⟨rfl, rfl⟩)
    go_ret
    exact ⟨rfl, rfl⟩
theorem cellB_side : ∀ x : Fin 256, cellB x.1 = (x.1 == 46 || decide (0 ≤ sideN x.1)) := by decide +kernel
theorem isCell_c (x : Nat) (hx : x < 256) (w : World) : Calls Tryz.prog 115 #[.int .u8 (x : Int)] w fun e w' => e = .returned (.bool (cellB x)) ∧ w' = w := by
  have HS := Aside0.mk (side_c x hx w)
  have HC := Aside0.mk (cellB_side ⟨x, hx⟩)
  have hq : (((x : Nat) : Int) == 46) = (x == 46) := by rw [Bool.eq_iff_iff, beq_iff_eq, beq_iff_eq]; omega
  cases h0 : (x == 46)
  all_goals
    rw [h0] at hq
    have H0 := Aside0.mk h0
    clear h0
    go_enter Tryz.func115, Tryz.ntmps115
    go_wp2_with (go_at_call 105; refine HS.out.mono ?_; rintro e w' ⟨rfl, rfl⟩)
    go_ret
    exact ⟨by rw [HC.out, H0.out]; rfl, rfl⟩
theorem isSquare_c (n : Int) (w : World) : Calls Tryz.prog 108 #[.int .i64 n] w fun e w' => e = .returned (.bool (decide (0 ≤ n ∧ n < 90))) ∧ w' = w := by
  by_cases h0 : 0 ≤ n
  all_goals
    go_enter Tryz.func108, Tryz.ntmps108
    go_wp2_with fail
    go_ret
    refine ⟨ret_bool ?_, rfl⟩
    rw [Bool.eq_iff_iff]; simp; omega
/-- The closure of board.Is. -/
theorem is_closure (w : World) : PredAt Tryz.prog 114 #[] encR badR w := fun W r _ => by
  unfold FnGives
  by_cases h1 : 122 < r
  · have z1 : (122 : Int) < (r : Int) := by omega
    go_enter Tryz.func114, Tryz.ntmps114
    go_wp2
    all_goals first | (exfalso; omega) | (go_ret; exact ⟨by simp [badR, h1], 0, rfl⟩)
  · have z1 : (r : Int) ≤ 122 := by omega
    have HC := Aside0.mk (isCell_c r (by omega) W)
    have hb : badR r = !(cellB r) := by simp [badR, h1]
    have Hb := Lib.hid hb
    clear hb
    go_enter Tryz.func114, Tryz.ntmps114
    go_wp2_with (go_at_call 115; refine HC.out.mono ?_; rintro e w' ⟨rfl, rfl⟩)
    go_ret
    have hz : decide ((122 : Int) < (r : Int)) = false := by simp only [decide_eq_false_iff_not]; omega
    exact ⟨by rw [Hb.out]; simp [hz], 0, rfl⟩
set_option maxHeartbeats 1000000 in
theorem is_c (s : ByteArray) (w : World) : Calls Tryz.prog 79 #[.string s] w fun e w' => e = .returned (.bool (isBoard s)) ∧ Below w.heap.size w w' := by
  have HALL := Aside0.mk (Sp.idx_all s)
  have HC := Aside0.mk (Tryz.strings_IndexFunc 114 #[] (enters_of Tryz.func114 (by kernel_rfl) rfl) badR s w (is_closure w))
  by_cases hs : s.size = 90
  · have hs1 : ((s.size : Int) == 90) = true := by simp [hs]
    have HS := Lib.hid hs
    clear hs
    go_enter Tryz.func79, Tryz.ntmps79
    go_wp2_with (go_at_call 113; refine HC.out.mono ?_; rintro e w' ⟨rfl, hb⟩)
    go_ret
    exact ⟨ret_bool (by rw [isBoard, HS.out, ← HALL.out]; simp), hb⟩
  · have hs1 : ((s.size : Int) == 90) = false := by simp; omega
    have HS := Lib.hid hs
    clear hs
    go_enter Tryz.func79, Tryz.ntmps79
    go_wp2_with fail
    go_ret
    exact ⟨ret_bool (by rw [isBoard]; simp [HS.out]), Below.refl _ _⟩
theorem board_size {s : ByteArray} (h : isBoard s = true) : s.size = 90 := by
  unfold isBoard at h; simp at h; exact h.1
theorem board_cell {s : ByteArray} (h : isBoard s = true) {n : Nat} (hn : n < 90) : cel s n ∈ letters := by
  have hs := board_size h
  unfold isBoard at h
  simp only [Bool.and_eq_true, List.all_eq_true] at h
  have hm := h.2 _ (List.getElem_mem (l := s.data.toList) (n := n) (by rw [Array.length_toList]; show n < s.size; omega))
  unfold cel
  rw [Sp.get_at s n (by omega)]
  exact cellB_mem _ hm
theorem cel_lt (s : ByteArray) (n : Nat) : cel s n < 256 := (s.get! n).toNat_lt
/-- What stands on a square. -/
def atS (s : ByteArray) (a : Int) : Nat := if isBoard s = true ∧ 0 ≤ a ∧ a < 90 then cel s a.toNat else 46
theorem at_c (s : ByteArray) (a : Int) (w : World) : Calls Tryz.prog 73 #[.string s, .int .i64 a] w fun e w' => e = .returned (.int .u8 (atS s a : Int)) ∧ Below w.heap.size w w' := by
  have HQ := Aside0.mk (isSquare_c a w)
  have HI := Aside0.mk (is_c s w)
  by_cases h0 : 0 ≤ a ∧ a < 90
  · rw [show decide (0 ≤ a ∧ a < 90) = true from decide_eq_true h0] at HQ
    obtain ⟨h1, h2⟩ := h0
    cases hb : isBoard s
    · rw [hb] at HI
      rw [show atS s a = 46 by unfold atS; rw [if_neg (by rw [hb]; simp)]]
      clear hb
      go_enter Tryz.func73, Tryz.ntmps73
      go_wp2_with (first | (go_at_call 108; refine HQ.out.mono ?_; rintro e w' ⟨rfl, rfl⟩) | (go_at_call 79; refine HI.out.mono ?_; rintro e w' ⟨rfl, hb⟩))
      go_ret
      exact ⟨rfl, hb⟩
    · rw [hb] at HI
      have h3 : a < (s.size : Int) := by rw [board_size hb]; exact h2
      rw [show atS s a = cel s a.toNat by unfold atS; rw [if_pos ⟨hb, h1, h2⟩]]
      clear hb
      go_enter Tryz.func73, Tryz.ntmps73
      go_wp2_with (first | (go_at_call 108; refine HQ.out.mono ?_; rintro e w' ⟨rfl, rfl⟩) | (go_at_call 79; refine HI.out.mono ?_; rintro e w' ⟨rfl, hb⟩))
      go_ret
      exact ⟨rfl, hb⟩
  · rw [show decide (0 ≤ a ∧ a < 90) = false from decide_eq_false h0] at HQ
    rw [show atS s a = 46 by unfold atS; rw [if_neg (fun h => h0 h.2)]]
    clear h0
    go_enter Tryz.func73, Tryz.ntmps73
    go_wp2_with (first | (go_at_call 108; refine HQ.out.mono ?_; rintro e w' ⟨rfl, rfl⟩))
    go_ret
    exact ⟨rfl, Below.refl _ _⟩
theorem file_c (n : Nat) (hn : n < 90) (w : World) : Calls Tryz.prog 98 #[.int .i64 (n : Int)] w fun e w' => e = .returned (.int .i64 ((n % 9 : Nat) : Int)) ∧ w' = w := by
  have HQ := isSquare_c n w
  rw [show decide (0 ≤ (n : Int) ∧ (n : Int) < 90) = true from decide_eq_true (by omega)] at HQ
  have HQ := Aside0.mk HQ
  have h0 : 0 ≤ (n : Int) := by omega
  clear hn
  go_enter Tryz.func98, Tryz.ntmps98
  go_wp2_with (first | (go_at_call 108; refine HQ.out.mono ?_; rintro e w' ⟨rfl, rfl⟩))
  go_ret
  exact ⟨ret_int (by omega), rfl⟩
theorem rank_c (n : Nat) (hn : n < 90) (w : World) : Calls Tryz.prog 134 #[.int .i64 (n : Int)] w fun e w' => e = .returned (.int .i64 ((n / 9 : Nat) : Int)) ∧ w' = w := by
  have HQ := isSquare_c n w
  rw [show decide (0 ≤ (n : Int) ∧ (n : Int) < 90) = true from decide_eq_true (by omega)] at HQ
  have HQ := Aside0.mk HQ
  have h0 : 0 ≤ (n : Int) := by omega
  have h1 : (n : Int) < 90 := by omega
  clear hn
  go_enter Tryz.func134, Tryz.ntmps134
  go_wp2_with (first | (go_at_call 108; refine HQ.out.mono ?_; rintro e w' ⟨rfl, rfl⟩))
  go_ret
  exact ⟨ret_int (by omega), rfl⟩
theorem file_n (n : Int) (hn : ¬ (0 ≤ n ∧ n < 90)) (w : World) : Calls Tryz.prog 98 #[.int .i64 n] w fun e w' => e = .returned (.int .i64 (-1)) ∧ w' = w := by
  have HQ := isSquare_c n w
  rw [show decide (0 ≤ n ∧ n < 90) = false from decide_eq_false hn] at HQ
  have HQ := Aside0.mk HQ
  clear hn
  go_enter Tryz.func98, Tryz.ntmps98
  go_wp2_with (first | (go_at_call 108; refine HQ.out.mono ?_; rintro e w' ⟨rfl, rfl⟩))
  go_ret
  exact ⟨rfl, rfl⟩
theorem rank_n (n : Int) (hn : ¬ (0 ≤ n ∧ n < 90)) (w : World) : Calls Tryz.prog 134 #[.int .i64 n] w fun e w' => e = .returned (.int .i64 (-1)) ∧ w' = w := by
  have HQ := isSquare_c n w
  rw [show decide (0 ≤ n ∧ n < 90) = false from decide_eq_false hn] at HQ
  have HQ := Aside0.mk HQ
  clear hn
  go_enter Tryz.func134, Tryz.ntmps134
  go_wp2_with (first | (go_at_call 108; refine HQ.out.mono ?_; rintro e w' ⟨rfl, rfl⟩))
  go_ret
  exact ⟨rfl, rfl⟩
def squareZ (f r : Int) : Int := if 0 ≤ f ∧ f < 9 ∧ 0 ≤ r ∧ r < 10 then 9 * r + f else -1
theorem square_c (f r : Int) (w : World) : Calls Tryz.prog 202 #[.int .i64 f, .int .i64 r] w fun e w' => e = .returned (.int .i64 (squareZ f r)) ∧ w' = w := by
  by_cases h1 : 0 ≤ f
  all_goals by_cases h2 : f < 9
  all_goals by_cases h3 : 0 ≤ r
  all_goals by_cases h4 : r < 10
  all_goals
    go_enter Tryz.func202, Tryz.ntmps202
    go_wp2_with fail
    go_ret
    refine ⟨ret_int ?_, rfl⟩
    unfold squareZ
    first | (rw [if_pos (by omega)]; done) | (rw [if_neg (by omega)]; done) | (rw [if_pos (by omega)]; omega) | (rw [if_neg (by omega)])
end Go.Proofs.YtafmapadkpjliaaGreatDoor.K

/- Plain law: sets of squares as bits. -/
namespace Go.Proofs.YtafmapadkpjliaaGreatDoor.K
open Go.RowKit Go.Lib Go.Proofs.YtafmapadkpjliaaGreatDoor.Sp
set_option linter.unusedVariables false
/-- The number whose bits, of the first k, are those of f. -/
def bitsTo (f : Nat → Bool) : Nat → Nat
  | 0 => 0
  | k + 1 => bitsTo f k + (if f k = true then 2 ^ k else 0)
theorem bitsTo_lt (f : Nat → Bool) : ∀ k, bitsTo f k < 2 ^ k
  | 0 => by simp [bitsTo]
  | k + 1 => by
    have := bitsTo_lt f k
    unfold bitsTo
    rw [Nat.pow_succ]
    split <;> omega
theorem bitsTo_test (f : Nat → Bool) : ∀ k i, (bitsTo f k).testBit i = (decide (i < k) && f i)
  | 0, i => by simp [bitsTo]
  | k + 1, i => by
    have ih := bitsTo_test f k i
    have hlt := bitsTo_lt f k
    unfold bitsTo
    by_cases hf : f k = true
    · rw [if_pos hf, Nat.add_comm]
      rcases Nat.lt_trichotomy i k with h | h | h
      · rw [Nat.testBit_two_pow_add_gt h, ih]
        simp [h, show i < k + 1 by omega]
      · subst h
        rw [Nat.testBit_two_pow_add_eq, ih]
        simp [hf]
      · rw [Nat.testBit_lt_two_pow (Nat.lt_of_lt_of_le (by rw [Nat.pow_succ]; omega : 2 ^ k + bitsTo f k < 2 ^ (k + 1)) (Nat.pow_le_pow_right (by decide) h))]
        simp [show ¬ i < k + 1 by omega]
    · rw [if_neg hf, Nat.add_zero, ih]
      rcases Nat.lt_trichotomy i k with h | h | h
      · simp [h, show i < k + 1 by omega]
      · subst h
        simp [hf]
      · simp [show ¬ i < k by omega, show ¬ i < k + 1 by omega]
theorem bitsTo_ext {x k : Nat} {f : Nat → Bool} (hx : x < 2 ^ k) (h : ∀ i, i < k → x.testBit i = f i) : x = bitsTo f k := by
  apply Nat.eq_of_testBit_eq
  intro i
  rw [bitsTo_test]
  by_cases hi : i < k
  · simp [hi, h i hi]
  · rw [Nat.testBit_lt_two_pow (Nat.lt_of_lt_of_le hx (Nat.pow_le_pow_right (by decide) (by omega)))]
    simp [hi]
theorem bitsTo_congr {f g : Nat → Bool} {k : Nat} (h : ∀ i, i < k → f i = g i) : bitsTo f k = bitsTo g k :=
  bitsTo_ext (bitsTo_lt f k) (fun i hi => by rw [bitsTo_test]; simp [hi, h i hi])
theorem bits_mask45 (f : Nat → Bool) : bitsTo f 45 &&& 35184372088831 = bitsTo f 45 := by
  refine bitsTo_ext (Nat.lt_of_le_of_lt Nat.and_le_left (bitsTo_lt f 45)) (fun i hi => ?_)
  rw [Nat.testBit_and, bitsTo_test, show (35184372088831 : Nat) = 2 ^ 45 - 1 from rfl, Nat.testBit_two_pow_sub_one]
  simp [hi]
theorem bits_or45 (f g : Nat → Bool) : bitsTo f 45 ||| bitsTo g 45 = bitsTo (fun i => f i || g i) 45 := by
  refine bitsTo_ext (Nat.or_lt_two_pow (bitsTo_lt f 45) (bitsTo_lt g 45)) (fun i hi => ?_)
  rw [Nat.testBit_or, bitsTo_test, bitsTo_test]
  simp [hi]
theorem bits_not45 (f g : Nat → Bool) : bitsTo f 45 &&& (18446744073709551615 - bitsTo g 45) = bitsTo (fun i => f i && !g i) 45 := by
  have hg := bitsTo_lt g 45
  refine bitsTo_ext (Nat.lt_of_le_of_lt Nat.and_le_left (bitsTo_lt f 45)) (fun i hi => ?_)
  rw [Nat.testBit_and, bitsTo_test, show 18446744073709551615 - bitsTo g 45 = 2 ^ 64 - (bitsTo g 45 + 1) by omega, Nat.testBit_two_pow_sub_succ (by omega), bitsTo_test]
  simp [hi, show i < 64 by omega]
theorem bits_one45 (n : Nat) (hn : n < 45) : (2 : Nat) ^ n = bitsTo (fun i => i == n) 45 := by
  refine bitsTo_ext (Nat.pow_lt_pow_right (by decide) hn) (fun i hi => ?_)
  rw [Nat.testBit_two_pow, Bool.eq_iff_iff, decide_eq_true_iff, beq_iff_eq]
  exact eq_comm
theorem bits_none : bitsTo (fun _ => false) 45 = 0 := by decide
theorem bits_zero {f : Nat → Bool} {k : Nat} : bitsTo f k = 0 ↔ ∀ i, i < k → f i = false := by
  constructor
  · intro h i hi
    have := bitsTo_test f k i
    rw [h, Nat.zero_testBit] at this
    simpa [hi] using this.symm
  · intro h
    symm
    exact bitsTo_ext (Nat.two_pow_pos k) (fun i hi => by rw [Nat.zero_testBit, h i hi])
/-- The lowest bit. -/
theorem bits_low {f : Nat → Bool} (h : bitsTo f 45 ≠ 0) : f (Lib.ctz 64 (bitsTo f 45)) = true ∧ Lib.ctz 64 (bitsTo f 45) < 45 ∧ ∀ i, i < Lib.ctz 64 (bitsTo f 45) → f i = false := by
  have hlt := bitsTo_lt f 45
  obtain ⟨m, hm, hc⟩ := Lib.ctzFrom_spec 64 (bitsTo f 45) (by omega) (by omega)
  have hctz : Lib.ctz 64 (bitsTo f 45) = Lib.ctzFrom 64 (bitsTo f 45) := by unfold Lib.ctz; rw [if_neg h]
  rw [hctz]
  generalize Lib.ctzFrom 64 (bitsTo f 45) = c at *
  have hle : 2 ^ c ≤ bitsTo f 45 := by rw [hm]; exact Nat.le_mul_of_pos_right _ (by omega)
  have hc45 : c < 45 := by
    rcases Nat.lt_or_ge c 45 with h | h
    · exact h
    · have := Nat.pow_le_pow_right (show 0 < 2 by decide) h
      omega
  have tb : ∀ i, (bitsTo f 45).testBit i = (2 ^ c * (2 * m + 1)).testBit i := fun i => by rw [← hm]
  refine ⟨?_, hc45, fun i hi => ?_⟩
  · have := tb c
    rw [bitsTo_test, Nat.testBit_two_pow_mul] at this
    simp [hc45] at this
    exact this
  · have := tb i
    rw [bitsTo_test, Nat.testBit_two_pow_mul] at this
    simp [show i < 45 by omega, show ¬ c ≤ i by omega] at this
    exact this
/-! ### the squares of a set -/
abbrev loB (f : Nat → Bool) : Nat := bitsTo f 45
abbrev hiB (f : Nat → Bool) : Nat := bitsTo (fun i => f (45 + i)) 45
def memL (f : Nat → Bool) : List Nat := (List.range 90).filter f
theorem memL_cons {f : Nat → Bool} {n : Nat} {tl : List Nat} (h : memL f = n :: tl) : f n = true ∧ n < 90 ∧ (∀ i, i < n → f i = false) ∧ memL (fun i => f i && !(i == n)) = tl := by
  have hp : (memL f).Pairwise (· < ·) := List.pairwise_lt_range.filter _
  have hn : n ∈ memL f := by rw [h]; exact List.mem_cons_self
  obtain ⟨h1, h2⟩ := List.mem_filter.1 hn
  have h1 := List.mem_range.1 h1
  rw [h, List.pairwise_cons] at hp
  refine ⟨h2, h1, fun i hi => ?_, ?_⟩
  · cases hf : f i
    · rfl
    · have : i ∈ memL f := List.mem_filter.2 ⟨List.mem_range.2 (by omega), hf⟩
      rw [h] at this
      rcases List.mem_cons.1 this with e | e
      · omega
      · have := hp.1 i e; omega
  · have e : memL (fun i => f i && !(i == n)) = (memL f).filter (fun i => !(i == n)) := by
      unfold memL
      rw [List.filter_filter]
      congr 1
      funext i
      rw [Bool.and_comm]
    rw [e, h, List.filter_cons_of_neg (by simp), List.filter_eq_self]
    intro i hi
    have := hp.1 i hi
    simp; omega
theorem memL_nil {f : Nat → Bool} (h : memL f = []) : loB f = 0 ∧ hiB f = 0 := by
  have key : ∀ i, i < 90 → f i = false := by
    intro i hi
    cases hf : f i
    · rfl
    · have : i ∈ memL f := List.mem_filter.2 ⟨List.mem_range.2 hi, hf⟩
      rw [h] at this; cases this
  exact ⟨bits_zero.2 (fun i hi => key i (by omega)), bits_zero.2 (fun i hi => key (45 + i) (by omega))⟩
/-- What First tells. -/
theorem first_at {f : Nat → Bool} {n : Nat} {tl : List Nat} (h : memL f = n :: tl) : (loB f ≠ 0 ∧ Lib.ctz 64 (loB f) = n) ∨ (loB f = 0 ∧ hiB f ≠ 0 ∧ 45 + Lib.ctz 64 (hiB f) = n) := by
  obtain ⟨h1, h2, h3, _⟩ := memL_cons h
  by_cases h0 : loB f = 0
  · right
    have hlow := bits_zero.1 h0
    have hn45 : 45 ≤ n := by
      rcases Nat.lt_or_ge n 45 with h | h
      · rw [hlow n h] at h1; cases h1
      · exact h
    have hne : hiB f ≠ 0 := by
      intro e
      have := bits_zero.1 e (n - 45) (by omega)
      rw [show 45 + (n - 45) = n by omega, h1] at this
      cases this
    refine ⟨h0, hne, ?_⟩
    obtain ⟨k1, k2, k3⟩ : f (45 + Lib.ctz 64 (hiB f)) = true ∧ Lib.ctz 64 (hiB f) < 45 ∧ ∀ i, i < Lib.ctz 64 (hiB f) → f (45 + i) = false := bits_low hne
    rcases Nat.lt_trichotomy (45 + Lib.ctz 64 (hiB f)) n with h | h | h
    · rw [h3 _ h] at k1; cases k1
    · exact h
    · have := k3 (n - 45) (by omega)
      rw [show 45 + (n - 45) = n by omega, h1] at this
      cases this
  · left
    refine ⟨h0, ?_⟩
    obtain ⟨k1, k2, k3⟩ : f (Lib.ctz 64 (loB f)) = true ∧ Lib.ctz 64 (loB f) < 45 ∧ ∀ i, i < Lib.ctz 64 (loB f) → f i = false := bits_low h0
    rcases Nat.lt_trichotomy (Lib.ctz 64 (loB f)) n with h | h | h
    · rw [h3 _ h] at k1; cases k1
    · exact h
    · have := k3 n h
      rw [h1] at this
      cases this
end Go.Proofs.YtafmapadkpjliaaGreatDoor.K

/- Walks: where pieces may stand. -/
namespace Go.Proofs.YtafmapadkpjliaaGreatDoor.K
open Go.RowKit Go.Lib Go.Proofs.YtafmapadkpjliaaGreatDoorW.PrintWords Go.Proofs.YtafmapadkpjliaaGreatDoor.Sp
set_option linter.unusedVariables false
set_option linter.unusedSimpArgs false
theorem ret_spot {f g r s : Int} {b : Bool} (h1 : f = g) (h2 : r = s) : Ending.returned (.tuple #[.agg #[.int .i64 f, .int .i64 r], .bool b]) = Ending.returned (.tuple #[.agg #[.int .i64 g, .int .i64 s], .bool b]) := by rw [h1, h2]
def spF (n : Nat) (side : Int) : Nat := if side = 1 then (89 - n) % 9 else n % 9
def spR (n : Nat) (side : Int) : Nat := if side = 1 then (89 - n) / 9 else n / 9
def spV (n : Nat) (side : Int) : Value := .agg #[.int .i64 (spF n side : Int), .int .i64 (spR n side : Int)]
set_option maxRecDepth 100000 in
theorem seen_yes (n : Nat) (hn : n < 90) (side : Int) (hs : side = 0 ∨ side = 1) (w : World) : Calls Tryz.prog 126 #[.int .i64 (n : Int), .int .i64 side] w fun e w' => e = .returned (.tuple #[spV n side, .bool true]) ∧ Below w.heap.size w w' := by
  have h0 : 0 ≤ (n : Int) := by omega
  have h1 : (n : Int) ≤ 89 := by omega
  rcases hs with rfl | rfl
  · go_enter Tryz.func126, Tryz.ntmps126
    go_wp2_with fail
    go_returns
    exact ⟨ret_spot (by unfold spF; rw [if_neg (by omega)]; omega) (by unfold spR; rw [if_neg (by omega)]; omega), by (repeat' (first | (with_reducible exact Below.refl _ _) | (with_reducible refine pw_below_drewN ?_ _) | (with_reducible refine below_alloc ?_ _) | (with_reducible refine Below.drew ?_) | (with_reducible refine Below.setCell ?_ ?_ _) | (simp; done)))⟩
  · go_enter Tryz.func126, Tryz.ntmps126
    go_wp2_with fail
    go_returns
    exact ⟨ret_spot (by unfold spF; rw [if_pos rfl]; omega) (by unfold spR; rw [if_pos rfl]; omega), by (repeat' (first | (with_reducible exact Below.refl _ _) | (with_reducible refine pw_below_drewN ?_ _) | (with_reducible refine below_alloc ?_ _) | (with_reducible refine Below.drew ?_) | (with_reducible refine Below.setCell ?_ ?_ _) | (simp; done)))⟩
theorem seen_no (n side : Int) (h : ¬ (0 ≤ n ∧ n < 90) ∨ ¬ (side = 0 ∨ side = 1)) (w : World) : Calls Tryz.prog 126 #[.int .i64 n, .int .i64 side] w fun e w' => e = .returned (.tuple #[.agg #[.int .i64 0, .int .i64 0], .bool false]) ∧ Below w.heap.size w w' := by
  by_cases h0 : 0 ≤ n
  all_goals by_cases h1 : n ≤ 89
  all_goals by_cases h2 : side = 0
  all_goals by_cases h3 : side = 1
  all_goals first | (exfalso; omega) | skip
  all_goals
    have b2 : (side == 0) = decide (side = 0) := by rw [Bool.eq_iff_iff]; simp
    have b3 : (side == 1) = decide (side = 1) := by rw [Bool.eq_iff_iff]; simp
    have c2 : (side != 0) = !decide (side = 0) := by rw [bne, b2]
    have c3 : (side != 1) = !decide (side = 1) := by rw [bne, b3]
    simp only [h2, h3, decide_true, decide_false, Bool.not_true, Bool.not_false] at b2 b3 c2 c3
    clear h h2 h3
    go_enter Tryz.func126, Tryz.ntmps126
    go_wp2_with fail
    go_returns
    exact ⟨rfl, by (repeat' (first | (with_reducible exact Below.refl _ _) | (with_reducible refine pw_below_drewN ?_ _) | (with_reducible refine below_alloc ?_ _) | (with_reducible refine Below.drew ?_) | (with_reducible refine Below.setCell ?_ ?_ _) | (simp; done)))⟩
/-- The tests of a square seen from a side. -/
def palF (f r : Nat) : Bool := decide (3 ≤ f) && decide (f ≤ 5) && decide (r ≤ 2)
def advF (f r : Nat) : Bool := palF f r && (f + r) % 2 == 1
def eleF (f r : Nat) : Bool := decide (r ≤ 4) && r % 2 == 0 && decide ((f : Int) % 4 = 2 - (r : Int) % 4)
def ovrF (r : Nat) : Bool := decide (5 ≤ r)
def pwnF (f r : Nat) : Bool := ovrF r || (decide (3 ≤ r) && f % 2 == 0)
abbrev spot (f r : Nat) : Value := .agg #[.int .i64 (f : Int), .int .i64 (r : Int)]
theorem palace_c (f r : Nat) (hf : f < 9) (hr : r < 10) (w : World) : Calls Tryz.prog 127 #[spot f r] w fun e w' => e = .returned (.bool (palF f r)) ∧ Below w.heap.size w w' := by
  go_enter Tryz.func127, Tryz.ntmps127
  go_wp2_with fail
  all_goals
    go_ret
    refine ⟨ret_bool ?_, by (repeat' (first | (with_reducible exact Below.refl _ _) | (with_reducible refine pw_below_drewN ?_ _) | (with_reducible refine below_alloc ?_ _) | (with_reducible refine Below.drew ?_) | (with_reducible refine Below.setCell ?_ ?_ _) | (simp; done)))⟩
    rw [Bool.eq_iff_iff]; unfold palF; simp_all; omega
theorem over_c (f r : Nat) (w : World) : Calls Tryz.prog 155 #[spot f r] w fun e w' => e = .returned (.bool (ovrF r)) ∧ Below w.heap.size w w' := by
  go_enter Tryz.func155, Tryz.ntmps155
  go_wp2_with fail
  go_ret
  exact ⟨ret_bool (by rw [Bool.eq_iff_iff]; unfold ovrF; simp; omega), by (repeat' (first | (with_reducible exact Below.refl _ _) | (with_reducible refine pw_below_drewN ?_ _) | (with_reducible refine below_alloc ?_ _) | (with_reducible refine Below.drew ?_) | (with_reducible refine Below.setCell ?_ ?_ _) | (simp; done)))⟩
theorem elephant_c (f r : Nat) (hf : f < 9) (hr : r < 10) (w : World) : Calls Tryz.prog 129 #[spot f r] w fun e w' => e = .returned (.bool (eleF f r)) ∧ Below w.heap.size w w' := by
  have h0 : 0 ≤ (r : Int) := by omega
  have h00 : 0 ≤ (f : Int) := by omega
  have h9 : (r : Int) < 10 := by omega
  go_enter Tryz.func129, Tryz.ntmps129
  go_wp2_with fail
  all_goals
    go_ret
    refine ⟨ret_bool ?_, by (repeat' (first | (with_reducible exact Below.refl _ _) | (with_reducible refine pw_below_drewN ?_ _) | (with_reducible refine below_alloc ?_ _) | (with_reducible refine Below.drew ?_) | (with_reducible refine Below.setCell ?_ ?_ _) | (simp; done)))⟩
    rw [Bool.eq_iff_iff]; unfold eleF; simp_all; omega
theorem advisor_c (f r : Nat) (hf : f < 9) (hr : r < 10) (w : World) : Calls Tryz.prog 128 #[spot f r] w fun e w' => e = .returned (.bool (advF f r)) ∧ Below w.heap.size w w' := by
  have HP := Aside0.mk (fun W => palace_c f r hf hr W)
  have h0 : 0 ≤ (f : Int) := by omega
  have h1 : 0 ≤ (r : Int) := by omega
  have h2 : (f : Int) < 9 := by omega
  have h3 : (r : Int) < 10 := by omega
  clear hf hr
  cases hp : palF f r
  all_goals
    simp only [hp] at HP
    have H0 := Aside0.mk hp
    clear hp
    go_enter Tryz.func128, Tryz.ntmps128
    go_wp2_with (go_at_call 127; refine (HP.out _).mono ?_; rintro e w1 ⟨rfl, hb⟩; have c0 := (hb.cell (p := ⟨w.heap.size, 0, none⟩) (by simp)).trans (show _ = some (Value.int .i64 (f : Int)) by simp); have c1 := (hb.cell (p := ⟨w.heap.size, 1, none⟩) (by simp)).trans (show _ = some (Value.int .i64 (r : Int)) by simp))
    go_ret
    refine ⟨ret_bool ?_, (below_alloc (Below.refl _ _) _).trans (hb.mono (by simp))⟩
    have h := H0.out
    rw [Bool.eq_iff_iff]; unfold advF; rw [h]; simp
    try omega
theorem pawn_c (f r : Nat) (hf : f < 9) (hr : r < 10) (w : World) : Calls Tryz.prog 130 #[spot f r] w fun e w' => e = .returned (.bool (pwnF f r)) ∧ Below w.heap.size w w' := by
  have HP := Aside0.mk (fun W => over_c f r W)
  have h0 : 0 ≤ (f : Int) := by omega
  have h1 : 0 ≤ (r : Int) := by omega
  have h2 : (f : Int) < 9 := by omega
  have h3 : (r : Int) < 10 := by omega
  clear hf hr
  cases hp : ovrF r
  all_goals
    simp only [hp] at HP
    have H0 := Aside0.mk hp
    clear hp
    go_enter Tryz.func130, Tryz.ntmps130
    go_wp2_with (go_at_call 155; refine (HP.out _).mono ?_; rintro e w1 ⟨rfl, hb⟩; have c0 := (hb.cell (p := ⟨w.heap.size, 0, none⟩) (by simp)).trans (show _ = some (Value.int .i64 (f : Int)) by simp); have c1 := (hb.cell (p := ⟨w.heap.size, 1, none⟩) (by simp)).trans (show _ = some (Value.int .i64 (r : Int)) by simp); have HBB := Aside0.mk ((below_alloc (Below.refl w.heap.size w) _).trans (hb.mono (by simp))); clear hb)
  all_goals
    go_ret
    refine ⟨ret_bool ?_, HBB.out⟩
    have h := H0.out
    rw [Bool.eq_iff_iff]; unfold pwnF; rw [h]; simp
    try omega
end Go.Proofs.YtafmapadkpjliaaGreatDoor.K

/- Walks: place.May, Over, Most. -/
namespace Go.Proofs.YtafmapadkpjliaaGreatDoor.K
open Go.RowKit Go.Lib Go.Proofs.YtafmapadkpjliaaGreatDoorW.PrintWords Go.Proofs.YtafmapadkpjliaaGreatDoor.Sp
set_option linter.unusedVariables false
set_option linter.unusedSimpArgs false
def mayP (x n : Nat) : Bool :=
  if kindN x = 75 then palF (spF n (sideN x)) (spR n (sideN x)) else if kindN x = 65 then advF (spF n (sideN x)) (spR n (sideN x)) else if kindN x = 66 then eleF (spF n (sideN x)) (spR n (sideN x)) else if kindN x = 80 then pwnF (spF n (sideN x)) (spR n (sideN x)) else true
set_option maxRecDepth 100000 in
theorem may_eq : ∀ x ∈ letters, 0 ≤ sideN x → ∀ n : Fin 90, mayN x n.1 = mayP x n.1 := by decide +kernel
theorem sp_lt : ∀ n : Fin 90, spF n.1 0 < 9 ∧ spR n.1 0 < 10 ∧ spF n.1 1 < 9 ∧ spR n.1 1 < 10 ∧ ovrF (spR n.1 0) = overN n.1 0 ∧ ovrF (spR n.1 1) = overN n.1 1 := by decide +kernel
theorem side01 {x : Nat} (h : 0 ≤ sideN x) : sideN x = 0 ∨ sideN x = 1 := by unfold sideN at h ⊢; split <;> (try split) <;> simp_all
theorem side_mem {x : Nat} (h : 0 ≤ sideN x) : x ∈ letters := by
  refine cellB_mem x ?_
  unfold sideN at h
  cases hr : isRed x
  · rw [hr] at h
    cases hb : isBlack x
    · rw [hb] at h; simp at h
    · unfold cellB; simp [isBlack] at hb; simp; omega
  · unfold cellB; simp [isRed] at hr; simp; omega
def mayS (x : Nat) (n : Int) : Bool := decide (0 ≤ sideN x ∧ 0 ≤ n ∧ n < 90) && mayN x n.toNat
theorem kinds {x : Nat} (h : 0 ≤ sideN x) : kindN x = 75 ∨ kindN x = 65 ∨ kindN x = 66 ∨ kindN x = 78 ∨ kindN x = 82 ∨ kindN x = 67 ∨ kindN x = 80 := by
  have : ∀ x ∈ letters, 0 ≤ sideN x → (kindN x = 75 ∨ kindN x = 65 ∨ kindN x = 66 ∨ kindN x = 78 ∨ kindN x = 82 ∨ kindN x = 67 ∨ kindN x = 80) := by decide
  exact this x (side_mem h) h
set_option maxRecDepth 100000 in
set_option maxHeartbeats 2000000 in
theorem may_c (x : Nat) (hx : x < 256) (n : Int) (w : World) : Calls Tryz.prog 94 #[.int .u8 (x : Int), .int .i64 n] w fun e w' => e = .returned (.bool (mayS x n)) ∧ Below w.heap.size w w' := by
  have HS := Aside0.mk (fun W => side_c x hx W)
  have HK := Aside0.mk (fun W => kind_c x hx W)
  by_cases hz : 0 ≤ sideN x ∧ 0 ≤ n ∧ n < 90
  case neg =>
    have hm : mayS x n = false := by unfold mayS; rw [decide_eq_false hz]; rfl
    rw [hm]
    have HN := Aside0.mk (fun W => seen_no n (sideN x) (by have := sideN_le x; omega) W)
    generalize sideN x = s at HS HN
    clear hz hm HK hx
    have hu := Tryz.underlying141
    go_enter Tryz.func94, Tryz.ntmps94
    go_wp2_with (first | (go_at_call 105; refine (HS.out _).mono ?_; rintro e w' ⟨rfl, rfl⟩) | (go_at_call 126; refine (HN.out _).mono ?_; rintro e w1 ⟨rfl, hb⟩))
    go_ret
    exact ⟨rfl, below_alloc hb _⟩
  obtain ⟨hs, h0, h1⟩ := hz
  obtain ⟨m, rfl⟩ : ∃ m : Nat, n = m := ⟨n.toNat, by omega⟩
  have hm : m < 90 := by omega
  have hmay : mayS x (m : Int) = mayP x m := by
    unfold mayS
    rw [decide_eq_true ⟨hs, h0, h1⟩, Bool.true_and]
    exact may_eq x (side_mem hs) hs ⟨m, hm⟩
  have hlt : spF m (sideN x) < 9 ∧ spR m (sideN x) < 10 := by
    have := sp_lt ⟨m, hm⟩
    rcases side01 hs with h | h <;> rw [h] <;> exact ⟨by first | exact this.1 | exact this.2.2.1, by first | exact this.2.1 | exact this.2.2.2.1⟩
  have HN := Aside0.mk (fun W => seen_yes m hm (sideN x) (side01 hs) W)
  rw [hmay]
  have hk := kinds hs
  unfold mayP
  unfold spV at HN
  have HP := Aside0.mk (fun W => palace_c _ _ hlt.1 hlt.2 W)
  have HA := Aside0.mk (fun W => advisor_c _ _ hlt.1 hlt.2 W)
  have HE := Aside0.mk (fun W => elephant_c _ _ hlt.1 hlt.2 W)
  have HW := Aside0.mk (fun W => pawn_c _ _ hlt.1 hlt.2 W)
  generalize spF m (sideN x) = f at HN HP HA HE HW
  generalize spR m (sideN x) = r at HN HP HA HE HW
  generalize sideN x = s at HS HN
  clear hlt hmay hs h0 h1 hm hx
  have hu := Tryz.underlying141
  rcases hk with hk | hk | hk | hk | hk | hk | hk
  all_goals
    rw [hk] at HK
    simp only [hk, if_true, if_false, reduceCtorEq, Nat.reduceEqDiff]
    clear hk
    go_enter Tryz.func94, Tryz.ntmps94
    go_wp2_with (first | (go_at_call 105; refine (HS.out _).mono ?_; rintro e w' ⟨rfl, rfl⟩) | (go_at_call 126; refine (HN.out _).mono ?_; rintro e w1 ⟨rfl, hb⟩; have HB := Aside0.mk (below_alloc hb (.cells #[.int .i64 (f : Int), .int .i64 (r : Int)] 141)); clear hb) | (go_at_call 96; refine (HK.out _).mono ?_; rintro e w' ⟨rfl, rfl⟩))
  all_goals
    first
    | ((first
        | (go_at_call 127; refine (HP.out _).mono ?_)
        | (go_at_call 128; refine (HA.out _).mono ?_)
        | (go_at_call 129; refine (HE.out _).mono ?_)
        | (go_at_call 130; refine (HW.out _).mono ?_))
       rintro e w2 ⟨rfl, hb2⟩
       go_wp2_with fail
       go_ret
       exact ⟨rfl, ((below_alloc HB.out _)).trans (hb2.mono (by have := HB.out.size; simp at this ⊢; omega))⟩)
    | (go_ret
       exact ⟨rfl, below_alloc HB.out _⟩)
def overS (n side : Int) : Bool := decide (0 ≤ n ∧ n < 90 ∧ (side = 0 ∨ side = 1)) && overN n.toNat side
theorem Over_c (n side : Int) (w : World) : Calls Tryz.prog 142 #[.int .i64 n, .int .i64 side] w fun e w' => e = .returned (.bool (overS n side)) ∧ Below w.heap.size w w' := by
  by_cases hz : 0 ≤ n ∧ n < 90 ∧ (side = 0 ∨ side = 1)
  · obtain ⟨h0, h1, h2⟩ := hz
    obtain ⟨m, rfl⟩ : ∃ m : Nat, n = m := ⟨n.toNat, by omega⟩
    have HN := Aside0.mk (fun W => seen_yes m (by omega) side h2 W)
    have ho : overS (m : Int) side = ovrF (spR m side) := by
      unfold overS
      rw [decide_eq_true ⟨h0, h1, h2⟩, Bool.true_and]
      have := sp_lt ⟨m, by omega⟩
      rcases h2 with rfl | rfl
      · exact this.2.2.2.2.1.symm
      · exact this.2.2.2.2.2.symm
    rw [ho]
    unfold spV at HN
    have HO := Aside0.mk (fun W => over_c (spF m side) (spR m side) W)
    generalize spF m side = f at HN HO
    generalize spR m side = r at HN HO
    clear h0 h1 h2 ho
    have hu := Tryz.underlying141
    go_enter Tryz.func142, Tryz.ntmps142
    go_wp2_with (first | (go_at_call 126; refine (HN.out _).mono ?_; rintro e w1 ⟨rfl, hb⟩; have HB := Aside0.mk (below_alloc hb (.cells #[.int .i64 (f : Int), .int .i64 (r : Int)] 141)); clear hb) | (go_at_call 155; refine (HO.out _).mono ?_; rintro e w2 ⟨rfl, hb2⟩))
    go_ret
    exact ⟨rfl, HB.out.trans (hb2.mono HB.out.size)⟩
  · have HN := Aside0.mk (fun W => seen_no n side (by omega) W)
    rw [show overS n side = false by unfold overS; rw [decide_eq_false hz]; rfl]
    clear hz
    have hu := Tryz.underlying141
    go_enter Tryz.func142, Tryz.ntmps142
    go_wp2_with (first | (go_at_call 126; refine (HN.out _).mono ?_; rintro e w1 ⟨rfl, hb⟩))
    go_ret
    exact ⟨rfl, below_alloc hb _⟩
/-- How many of a piece there may be. -/
def mostN (x : Nat) : Nat := if kindN x = 0 then 0 else if kindN x = 75 then 1 else if kindN x = 80 then 5 else 2
theorem most_c (x : Nat) (hx : x < 256) (w : World) : Calls Tryz.prog 95 #[.int .u8 (x : Int)] w fun e w' => e = .returned (.int .i64 (mostN x : Int)) ∧ w' = w := by
  have HK := Aside0.mk (kind_c x hx w)
  unfold mostN
  generalize kindN x = k at HK
  have h0 : ((k : Int) == 0) = decide (k = 0) := by rw [Bool.eq_iff_iff]; simp
  have h1 : ((k : Int) == 75) = decide (k = 75) := by rw [Bool.eq_iff_iff]; simp; omega
  have h2 : ((k : Int) == 80) = decide (k = 80) := by rw [Bool.eq_iff_iff]; simp; omega
  clear hx
  go_enter Tryz.func95, Tryz.ntmps95
  go_wp2_with (first | (go_at_call 96; refine HK.out.mono ?_; rintro e w' ⟨rfl, rfl⟩))
  all_goals
    go_ret
    refine ⟨ret_int ?_, rfl⟩
    clear h0 h1 h2 HK
    simp_all
end Go.Proofs.YtafmapadkpjliaaGreatDoor.K

/- Walks: the references of boards and places. -/
namespace Go.Proofs.YtafmapadkpjliaaGreatDoor.K
open Go.RowKit Go.Lib Go.Proofs.YtafmapadkpjliaaGreatDoorW.PrintWords Go.Proofs.YtafmapadkpjliaaGreatDoor.Sp
set_option linter.unusedVariables false
set_option linter.unusedSimpArgs false
attribute [local go_sem] cel_get   -- for this text's walks alone
theorem rside_c (x : Nat) (hx : x < 256) (w : World) : Calls Tryz.prog 46 #[.int .u8 (x : Int)] w fun e w' => e = .returned (.int .i64 (sideN x)) ∧ w' = w := by
  go_enter Tryz.func46, Tryz.ntmps46
  go_wp2_with fail
  all_goals
    go_ret
    refine ⟨ret_int ?_, rfl⟩
    unfold sideN isRed isBlack
    simp only [beq_iff_eq, beq_eq_false_iff_ne, ne_eq, Bool.or_eq_true] at *
    repeat' (split)
    all_goals first | rfl | (exfalso; omega)
theorem rkind_c (x : Nat) (hx : x < 256) (w : World) : Calls Tryz.prog 48 #[.int .u8 (x : Int)] w fun e w' => e = .returned (.int .u8 (kindN x : Int)) ∧ w' = w := by
  have HS := Aside0.mk (rside_c x hx w)
  cases hr : isRed x
  case true =>
    have hs : sideN x = 0 := by unfold sideN; rw [hr]; rfl
    have hk : kindN x = x := by unfold kindN; rw [hr]; rfl
    rw [hs] at HS
    rw [hk]
    clear hr hs hk hx
    go_enter Tryz.func48, Tryz.ntmps48
    go_wp2_with (go_at_call 46; refine HS.out.mono ?_; rintro e w' ⟨rfl, rfl⟩)
    go_ret
    exact ⟨rfl, rfl⟩
  case false =>
  cases hb : isBlack x
  case true =>
    have hs : sideN x = 1 := by unfold sideN; rw [hr, hb]; rfl
    have hk : kindN x = x - 32 := by unfold kindN; rw [hr, hb]; rfl
    have hlt := black_lt hb
    have HM := Aside0.mk (show ((((x : Nat) : Int) - 97) % 256 + 65) % 256 = ((x - 32 : Nat) : Int) by omega)
    rw [hs] at HS
    rw [hk]
    clear hr hs hk hb hlt hx
    go_enter Tryz.func48, Tryz.ntmps48
    go_wp2_with (go_at_call 46; refine HS.out.mono ?_; rintro e w' ⟨rfl, rfl⟩)
    go_ret
    exact ⟨ret_int HM.out, rfl⟩
  case false =>
    have hs : sideN x = -1 := by unfold sideN; rw [hr, hb]; rfl
    have hk : kindN x = 0 := by unfold kindN; rw [hr, hb]; rfl
    rw [hs] at HS
    rw [hk]
    clear hr hs hk hb hx
    go_enter Tryz.func48, Tryz.ntmps48
    go_wp2_with (go_at_call 46; refine HS.out.mono ?_; rintro e w' ⟨rfl, rfl⟩)
    go_ret
    exact ⟨rfl, rfl⟩
theorem board_iff (s : ByteArray) (h : s.size = 90) : isBoard s = true ↔ ∀ n, n < 90 → cellB (cel s n) = true := by
  unfold isBoard
  simp only [h, beq_self_eq_true, Bool.true_and, List.all_eq_true]
  constructor
  · intro hall n hn
    have := hall _ (List.getElem_mem (l := s.data.toList) (n := n) (by rw [Array.length_toList]; show n < s.size; omega))
    unfold cel; rw [Sp.get_at s n (by omega)]; exact this
  · intro hall b hb
    obtain ⟨n, hn, rfl⟩ := List.getElem_of_mem hb
    have hn' : n < 90 := by rw [Array.length_toList] at hn; have : s.data.size = 90 := h; omega
    have := hall n hn'
    unfold cel at this; rw [Sp.get_at s n (by omega)] at this; exact this
theorem cellB_side' (x : Nat) (hx : x < 256) : cellB x = (x == 46 || decide (0 ≤ sideN x)) := cellB_side ⟨x, hx⟩
set_option maxRecDepth 100000 in
theorem ris_c (s : ByteArray) (hs : s.size ≤ maxLen) (w : World) : Calls Tryz.prog 54 #[.string s] w fun e w' => e = .returned (.bool (isBoard s)) ∧ w' = w := by
  have HSI := Aside0.mk hs
  clear hs
  by_cases h90 : s.size = 90
  case neg =>
    have b1 : ((s.size : Int) == 90) = false := by simp; omega
    have b2 : ((s.size : Int) != 90) = true := by simp [bne, b1]
    rw [show isBoard s = false by unfold isBoard; simp [h90]]
    clear h90
    go_enter Tryz.func54, Tryz.ntmps54
    go_wp2_with fail
    go_ret
    exact ⟨rfl, rfl⟩
  have b1 : ((s.size : Int) == 90) = true := by simp; omega
  have b2 : ((s.size : Int) != 90) = false := by simp [bne, b1]
  have HI := Aside0.mk (board_iff s h90)
  have H90 := Aside0.mk h90
  clear h90
  go_enter Tryz.func54, Tryz.ntmps54
  go_wp2_with fail
  go_loopg [3] 90 (fun gg s2 wr => ∃ i : Nat, s2 = .int .i64 i ∧ i + gg = 90 ∧ wr = w ∧ Aside0 (∀ n, n < i → cellB (cel s n) = true))
  case atStart => exact ⟨0, rfl, by omega, rfl, ⟨fun n hn => by omega⟩⟩
  case round =>
    obtain ⟨i, rfl, hig, rfl, HA⟩ := hrel
    have HG := Aside0.mk hig
    by_cases hlt : i < 90
    · have c0 : 0 ≤ (i : Int) := by omega
      have c1 : (i : Int) < 90 := by omega
      have c2 : (i : Int) < (s.size : Int) := by have := H90.out; omega
      have HS := Aside0.mk (fun W => rside_c (cel s i) (cel_lt s i) W)
      have HB := Aside0.mk (cellB_side' (cel s i) (cel_lt s i))
      generalize hx : cel s i = x at HS HB
      have hq : (((x : Nat) : Int) == 46) = (x == 46) := by rw [Bool.eq_iff_iff, beq_iff_eq, beq_iff_eq]; omega
      have hq2 : (((x : Nat) : Int) != 46) = !(x == 46) := by rw [bne, hq]
      have HXX := Aside0.mk hx
      clear hig
      go_wp2_with (go_at_call 46; refine (HS.out _).mono ?_; rintro e w' ⟨rfl, rfl⟩)
      all_goals
        first
        | (go_ret
           refine ⟨ret_bool ?_, rfl⟩
           have hcb : cellB x = false := by rw [HB.out]; simp_all
           cases hb : isBoard s
           · rfl
           · have := HI.out.1 hb i hlt; rw [HXX.out, hcb] at this; cases this)
        | (have hcb : cellB x = true := by rw [HB.out]; simp_all
           have HCB := Aside0.mk hcb
           clear hcb
           go_roundg (90 - (i + 1))
           case measure => have := HG.out; omega
           case rel => exact ⟨i + 1, by go_num, by have := HG.out; omega, rfl, ⟨fun n hn => by
             by_cases h : n = i
             · subst h; rw [HXX.out]; exact HCB.out
             · exact HA.out n (by omega)⟩⟩)
    · have c1 : decide ((i : Int) < 90) = false := decide_eq_false (by omega)
      clear hig
      go_wp2_with fail
      go_ret
      have : isBoard s = true := HI.out.2 (fun n hn => HA.out n (by have := HG.out; omega))
      exact ⟨ret_bool this.symm, rfl⟩
theorem rfile_c (n : Nat) (hn : n < 90) (w : World) : Calls Tryz.prog 89 #[.int .i64 (n : Int)] w fun e w' => e = .returned (.int .i64 ((n % 9 : Nat) : Int)) ∧ w' = w := by
  have h0 : 0 ≤ (n : Int) := by omega
  have h1 : (n : Int) ≤ 89 := by omega
  clear hn
  go_enter Tryz.func89, Tryz.ntmps89
  go_wp2_with fail
  go_ret
  exact ⟨ret_int (by omega), rfl⟩
theorem rrank_c (n : Nat) (hn : n < 90) (w : World) : Calls Tryz.prog 125 #[.int .i64 (n : Int)] w fun e w' => e = .returned (.int .i64 ((n / 9 : Nat) : Int)) ∧ w' = w := by
  have h0 : 0 ≤ (n : Int) := by omega
  have h1 : (n : Int) ≤ 89 := by omega
  clear hn
  go_enter Tryz.func125, Tryz.ntmps125
  go_wp2_with fail
  go_ret
  exact ⟨ret_int (by omega), rfl⟩
theorem real_c (n side : Int) (w : World) : Calls Tryz.prog 88 #[.int .i64 n, .int .i64 side] w fun e w' => e = .returned (.bool (decide (0 ≤ n ∧ n < 90 ∧ (side = 0 ∨ side = 1)))) ∧ w' = w := by
  go_enter Tryz.func88, Tryz.ntmps88
  go_wp2_with fail
  all_goals
    go_ret
    refine ⟨ret_bool ?_, rfl⟩
    rw [Bool.eq_iff_iff]; simp_all
    try omega
theorem own_c (n : Nat) (hn : n < 90) (side : Int) (w : World) : Calls Tryz.prog 90 #[.int .i64 (n : Int), .int .i64 side] w fun e w' => e = .returned (.int .i64 (ownR n side : Int)) ∧ w' = w := by
  have HR := Aside0.mk (rrank_c n hn w)
  have hm : n / 9 < 10 := by omega
  have ho : ownR n side = if side = 1 then 9 - n / 9 else n / 9 := rfl
  rw [ho]
  clear ho
  generalize n / 9 = r at *
  have h0 : 0 ≤ (r : Int) := by omega
  have h9 : (r : Int) < 10 := by omega
  clear hn
  by_cases hz : side = 1
  · rw [if_pos hz]
    have b1 : (side == 1) = true := by simp [hz]
    clear hz
    go_enter Tryz.func90, Tryz.ntmps90
    go_wp2_with (go_at_call 125; refine HR.out.mono ?_; rintro e w' ⟨rfl, rfl⟩)
    go_ret
    exact ⟨ret_int (by omega), rfl⟩
  · rw [if_neg hz]
    have b1 : (side == 1) = false := by simp [hz]
    clear hz
    go_enter Tryz.func90, Tryz.ntmps90
    go_wp2_with (go_at_call 125; refine HR.out.mono ?_; rintro e w' ⟨rfl, rfl⟩)
    go_ret
    exact ⟨rfl, rfl⟩
theorem rover_c (n : Nat) (hn : n < 90) (side : Int) (hs : side = 0 ∨ side = 1) (w : World) : Calls Tryz.prog 154 #[.int .i64 (n : Int), .int .i64 side] w fun e w' => e = .returned (.bool (overN n side)) ∧ w' = w := by
  have HL := real_c n side w
  rw [show decide (0 ≤ (n : Int) ∧ (n : Int) < 90 ∧ (side = 0 ∨ side = 1)) = true from decide_eq_true ⟨by omega, by omega, hs⟩] at HL
  have HL := Aside0.mk HL
  have HO := Aside0.mk (own_c n hn side w)
  unfold overN
  generalize ownR n side = r at *
  clear hn hs
  go_enter Tryz.func154, Tryz.ntmps154
  go_wp2_with (first | (go_at_call 88; refine HL.out.mono ?_; rintro e w' ⟨rfl, rfl⟩) | (go_at_call 90; refine HO.out.mono ?_; rintro e w' ⟨rfl, rfl⟩))
  go_ret
  exact ⟨ret_bool (by rw [Bool.eq_iff_iff]; simp; omega), rfl⟩
theorem rpalace_c (n : Nat) (hn : n < 90) (side : Int) (hs : side = 0 ∨ side = 1) (w : World) : Calls Tryz.prog 91 #[.int .i64 (n : Int), .int .i64 side] w fun e w' => e = .returned (.bool (palaceN n side)) ∧ w' = w := by
  have HL := real_c n side w
  rw [show decide (0 ≤ (n : Int) ∧ (n : Int) < 90 ∧ (side = 0 ∨ side = 1)) = true from decide_eq_true ⟨by omega, by omega, hs⟩] at HL
  have HL := Aside0.mk HL
  have HO := Aside0.mk (own_c n hn side w)
  have HF := Aside0.mk (rfile_c n hn w)
  unfold palaceN
  generalize ownR n side = r at *
  generalize n % 9 = f at *
  clear hn hs
  go_enter Tryz.func91, Tryz.ntmps91
  go_wp2_with (first | (go_at_call 88; refine HL.out.mono ?_; rintro e w' ⟨rfl, rfl⟩) | (go_at_call 90; refine HO.out.mono ?_; rintro e w' ⟨rfl, rfl⟩) | (go_at_call 89; refine HF.out.mono ?_; rintro e w' ⟨rfl, rfl⟩))
  all_goals
    go_ret
    refine ⟨ret_bool ?_, rfl⟩
    clear HL HO HF
    rw [Bool.eq_iff_iff]; simp_all
    try omega
def radvF (f r : Nat) : Bool := (f == 4 && r == 1) || ((f == 3 || f == 5) && (r == 0 || r == 2))
def releF (f r : Nat) : Bool := ((r == 0 || r == 4) && (f == 2 || f == 6)) || (r == 2 && (f == 0 || f == 4 || f == 8))
theorem radvisor_c (f r : Nat) (w : World) : Calls Tryz.prog 92 #[.int .i64 (f : Int), .int .i64 (r : Int)] w fun e w' => e = .returned (.bool (radvF f r)) ∧ w' = w := by
  go_enter Tryz.func92, Tryz.ntmps92
  go_wp2_with fail
  all_goals
    go_ret
    refine ⟨ret_bool ?_, rfl⟩
    rw [Bool.eq_iff_iff]; unfold radvF; simp_all
    try omega
theorem relephant_c (f r : Nat) (w : World) : Calls Tryz.prog 93 #[.int .i64 (f : Int), .int .i64 (r : Int)] w fun e w' => e = .returned (.bool (releF f r)) ∧ w' = w := by
  go_enter Tryz.func93, Tryz.ntmps93
  go_wp2_with fail
  all_goals
    go_ret
    refine ⟨ret_bool ?_, rfl⟩
    rw [Bool.eq_iff_iff]; unfold releF; simp_all
    try omega
end Go.Proofs.YtafmapadkpjliaaGreatDoor.K

/- Walks: the references of May and of reach. -/
namespace Go.Proofs.YtafmapadkpjliaaGreatDoor.K
open Go.RowKit Go.Lib Go.Proofs.YtafmapadkpjliaaGreatDoorW.PrintWords Go.Proofs.YtafmapadkpjliaaGreatDoor.Sp
set_option linter.unusedVariables false
set_option linter.unusedSimpArgs false
attribute [local go_sem] cel_get   -- for this text's walks alone
def rmayP (x n : Nat) : Bool :=
  if kindN x = 75 then palaceN n (sideN x) else if kindN x = 65 then radvF (n % 9) (ownR n (sideN x)) else if kindN x = 66 then releF (n % 9) (ownR n (sideN x)) else if kindN x = 80 then decide (5 ≤ ownR n (sideN x)) || (decide (3 ≤ ownR n (sideN x)) && n % 9 % 2 == 0) else true
theorem rmay_eq : ∀ x ∈ letters, 0 ≤ sideN x → ∀ n : Fin 90, mayN x n.1 = rmayP x n.1 := by decide +kernel
set_option maxRecDepth 100000 in
theorem rmay_c (x : Nat) (hs : 0 ≤ sideN x) (n : Nat) (hn : n < 90) (w : World) : Calls Tryz.prog 59 #[.int .u8 (x : Int), .int .i64 (n : Int)] w fun e w' => e = .returned (.bool (mayN x n)) ∧ w' = w := by
  have hx : x < 256 := by
    have : ∀ x ∈ letters, x < 256 := by decide
    exact this x (side_mem hs)
  have HS := Aside0.mk (rside_c x hx w)
  have HK := Aside0.mk (rkind_c x hx w)
  have h01 := side01 hs
  have HL := real_c n (sideN x) w
  rw [show decide (0 ≤ (n : Int) ∧ (n : Int) < 90 ∧ (sideN x = 0 ∨ sideN x = 1)) = true from decide_eq_true ⟨by omega, by omega, h01⟩] at HL
  have HL := Aside0.mk HL
  have HO := Aside0.mk (own_c n hn (sideN x) w)
  have HF := Aside0.mk (rfile_c n hn w)
  have HP := Aside0.mk (rpalace_c n hn (sideN x) h01 w)
  have HA := Aside0.mk (radvisor_c (n % 9) (ownR n (sideN x)) w)
  have HE := Aside0.mk (relephant_c (n % 9) (ownR n (sideN x)) w)
  rw [rmay_eq x (side_mem hs) hs ⟨n, hn⟩]
  have hk := kinds hs
  have s0 : decide (sideN x < 0) = false := decide_eq_false (by omega)
  unfold rmayP
  simp only
  generalize palaceN n (sideN x) = p at *
  generalize ownR n (sideN x) = r at *
  have hf : n % 9 < 9 := Nat.mod_lt _ (by omega)
  generalize n % 9 = f at *
  generalize sideN x = s at *
  have f0 : 0 ≤ (f : Int) := by omega
  have f1 : (f : Int) < 9 := by omega
  clear h01 hs hx hn hf
  rcases hk with hk | hk | hk | hk | hk | hk | hk
  all_goals
    rw [hk] at HK
    simp only [hk, if_true, if_false, reduceCtorEq, Nat.reduceEqDiff]
    clear hk
    go_enter Tryz.func59, Tryz.ntmps59
    go_wp2_with (first | (go_at_call 46; refine HS.out.mono ?_; rintro e w' ⟨rfl, rfl⟩) | (go_at_call 88; refine HL.out.mono ?_; rintro e w' ⟨rfl, rfl⟩) | (go_at_call 90; refine HO.out.mono ?_; rintro e w' ⟨rfl, rfl⟩) | (go_at_call 89; refine HF.out.mono ?_; rintro e w' ⟨rfl, rfl⟩) | (go_at_call 48; refine HK.out.mono ?_; rintro e w' ⟨rfl, rfl⟩) | (go_at_call 91; refine HP.out.mono ?_; rintro e w' ⟨rfl, rfl⟩) | (go_at_call 92; refine HA.out.mono ?_; rintro e w' ⟨rfl, rfl⟩) | (go_at_call 93; refine HE.out.mono ?_; rintro e w' ⟨rfl, rfl⟩))
  all_goals
    go_ret
    first
    | exact ⟨rfl, rfl⟩
    | (refine ⟨ret_bool ?_, rfl⟩
       clear HS HK HL HO HF HP HA HE
       rw [Bool.eq_iff_iff]; simp_all
       try omega)
theorem rmost_c (x : Nat) (hx : x < 256) (w : World) : Calls Tryz.prog 58 #[.int .u8 (x : Int)] w fun e w' => e = .returned (.int .i64 (mostN x : Int)) ∧ w' = w := by
  have HK := Aside0.mk (rkind_c x hx w)
  unfold mostN
  generalize kindN x = k at HK
  have h0 : ((k : Int) == 0) = decide (k = 0) := by rw [Bool.eq_iff_iff]; simp
  have h1 : ((k : Int) == 75) = decide (k = 75) := by rw [Bool.eq_iff_iff]; simp; omega
  have h2 : ((k : Int) == 80) = decide (k = 80) := by rw [Bool.eq_iff_iff]; simp; omega
  clear hx
  go_enter Tryz.func58, Tryz.ntmps58
  go_wp2_with (first | (go_at_call 48; refine HK.out.mono ?_; rintro e w' ⟨rfl, rfl⟩))
  all_goals
    go_ret
    refine ⟨ret_int ?_, rfl⟩
    clear h0 h1 h2 HK
    simp_all
theorem away_c (a b : Nat) (ha : a < 90) (hb : b < 90) (w : World) : Calls Tryz.prog 119 #[.int .i64 (a : Int), .int .i64 (b : Int)] w fun e w' => e = .returned (.int .i64 (away a b : Int)) ∧ w' = w := by
  have h0 : 0 ≤ (a : Int) := by omega
  have h1 : 0 ≤ (b : Int) := by omega
  have h2 : (a : Int) < 90 := by omega
  have h3 : (b : Int) < 90 := by omega
  clear ha hb
  by_cases h : (a : Int) ≤ (b : Int)
  all_goals
    go_enter Tryz.func119, Tryz.ntmps119
    go_wp2_with fail
    go_ret
    exact ⟨ret_int (by unfold away; split <;> omega), rfl⟩
end Go.Proofs.YtafmapadkpjliaaGreatDoor.K

/- Walks: what stands between two squares. -/
namespace Go.Proofs.YtafmapadkpjliaaGreatDoor.K
open Go.RowKit Go.Lib Go.Proofs.YtafmapadkpjliaaGreatDoorW.PrintWords Go.Proofs.YtafmapadkpjliaaGreatDoor.Sp
set_option linter.unusedVariables false
set_option linter.unusedSimpArgs false
attribute [local go_sem] cel_get   -- for this text's walks alone
/-- The squares between, as the loop meets them. -/
theorem betwL_row (a b : Nat) (h : a ≠ b) (hr : a / 9 = b / 9) : ∃ m, betwL a b = (List.range m).map (fun j => min a b + 1 * (j + 1)) ∧ max a b = min a b + m + 1 := by
  refine ⟨away a b - 1, ?_, ?_⟩
  · unfold betwL; rw [if_pos hr]; apply List.map_congr_left; intro i _; show min a b + 1 + i = min a b + 1 * (i + 1); omega
  · unfold away; split <;> omega
theorem betwL_col (a b : Nat) (h : a ≠ b) (hr : a / 9 ≠ b / 9) (hc : a % 9 = b % 9) : ∃ m, betwL a b = (List.range m).map (fun j => min a b + 9 * (j + 1)) ∧ max a b = min a b + 9 * m + 9 := by
  refine ⟨away (a / 9) (b / 9) - 1, ?_, ?_⟩
  · unfold betwL; rw [if_neg hr, if_pos hc]
  · unfold away; split <;> omega
/-- How many of the first ones are pieces. -/
def cntN (s : ByteArray) (mn st j : Nat) : Nat := ((List.range j).map (fun j => mn + st * (j + 1))).countP (fun i => cel s i != 46)
theorem cntN_succ (s : ByteArray) (mn st j : Nat) : cntN s mn st (j + 1) = cntN s mn st j + (if cel s (mn + st * (j + 1)) = 46 then 0 else 1) := by
  unfold cntN
  rw [List.range_succ, List.map_append, List.countP_append]
  simp [List.countP_cons]
  try (split <;> simp_all)
theorem cntN_le (s : ByteArray) (mn st j : Nat) : cntN s mn st j ≤ j := by
  unfold cntN
  refine Nat.le_trans List.countP_le_length ?_
  simp
set_option maxRecDepth 100000 in
set_option maxHeartbeats 1000000 in
theorem rbetween_c (s : ByteArray) (hs : s.size = 90) (a b : Nat) (ha : a < 90) (hb : b < 90) (w : World) : Calls Tryz.prog 121 #[.string s, .int .i64 (a : Int), .int .i64 (b : Int)] w fun e w' => e = .returned (.int .i64 (betwN (cel s) a b)) ∧ w' = w := by
  have a0 : 0 ≤ (a : Int) := by omega
  have a1 : (a : Int) < 90 := by omega
  have b0 : 0 ≤ (b : Int) := by omega
  have b1 : (b : Int) < 90 := by omega
  have q0 : ((a : Int) == (b : Int)) = (a == b) := by rw [Bool.eq_iff_iff, beq_iff_eq, beq_iff_eq]; omega
  have q1 : ((a : Int) / 9 == (b : Int) / 9) = (a / 9 == b / 9) := by rw [Bool.eq_iff_iff, beq_iff_eq, beq_iff_eq]; omega
  have q2 : ((a : Int) % 9 == (b : Int) % 9) = (a % 9 == b % 9) := by rw [Bool.eq_iff_iff, beq_iff_eq, beq_iff_eq]; omega
  by_cases h : a = b
  · have e0 : (a == b) = true := by simp [h]
    rw [show betwN (cel s) a b = -1 by unfold betwN; rw [if_pos h]]
    rw [e0] at q0
    clear h q1 q2 e0
    go_enter Tryz.func121, Tryz.ntmps121
    go_wp2_with fail
    go_ret
    exact ⟨rfl, rfl⟩
  have e0 : (a == b) = false := by simp [h]
  rw [e0] at q0
  by_cases hr : a / 9 = b / 9
  case neg =>
    have e1 : (a / 9 == b / 9) = false := by simp [hr]
    rw [e1] at q1
    by_cases hc : a % 9 = b % 9
    case neg =>
      rw [show betwN (cel s) a b = -1 by unfold betwN; rw [if_neg h, if_neg (by omega)]]
      have e2 : (a % 9 == b % 9) = false := by simp [hc]
      rw [e2] at q2
      clear h hr hc e0 e1 e2
      go_enter Tryz.func121, Tryz.ntmps121
      go_wp2_with fail
      go_ret
      exact ⟨rfl, rfl⟩
    have e2 : (a % 9 == b % 9) = true := by simp [hc]
    rw [e2] at q2
    obtain ⟨m, hL, hM⟩ := betwL_col a b h hr hc
    rw [show betwN (cel s) a b = (cntN s (min a b) 9 m : Int) by unfold betwN cntN; rw [if_neg h, if_pos (by omega), hL]]
    have HX := Aside0.mk (show max (a : Int) (b : Int) = ((min a b : Nat) : Int) + 9 * m + 9 by omega)
    have HN := Aside0.mk (show min (a : Int) (b : Int) = ((min a b : Nat) : Int) by omega)
    have HLT := Aside0.mk (show min a b + 9 * m < 90 - 9 by omega)
    generalize min a b = mn at *
    have HS := Aside0.mk hs
    clear hL hM e0 e1 e2 h hr hc hs
    go_enter Tryz.func121, Tryz.ntmps121
    go_wp2_with (fail)
    go_loopg [8, 9] m (fun gg s8 s9 wr => ∃ j i c : Nat, s8 = .int .i64 c ∧ s9 = .int .i64 i ∧ j + gg = m ∧ wr = w ∧ Aside0 (i = mn + 9 * (j + 1) ∧ c = cntN s mn 9 j))
    case atStart => exact ⟨0, mn + 9, 0, rfl, by rw [HN.out]; rfl, by omega, rfl, ⟨by omega, rfl⟩⟩
    case round =>
      obtain ⟨j, i, c, rfl, rfl, hjg, rfl, HI⟩ := hrel
      have HG := Aside0.mk hjg
      clear hjg
      by_cases hlt : j < m
      · have k1 : decide ((i : Int) < max (a : Int) (b : Int)) = true := decide_eq_true (by rw [HX.out, HI.out.1]; omega)
        have k2 : 0 ≤ (i : Int) := by omega
        have k3 : (i : Int) < (s.size : Int) := by rw [HS.out, HI.out.1]; have := HLT.out; omega
        have k4 : (i : Int) ≤ 90 := by rw [HI.out.1]; have := HLT.out; omega
        have k5 : (c : Int) ≤ 90 := by rw [HI.out.2]; have := cntN_le s mn 9 j; have := HLT.out; omega
        have hcs := cntN_succ s mn 9 j
        rw [← HI.out.1, ← HI.out.2] at hcs
        generalize hx : cel s i = x at hcs
        have HX2 := Aside0.mk hcs
        have q : ((x : Int) != 46) = (x != 46) := by rw [Bool.eq_iff_iff, bne_iff_ne, bne_iff_ne]; omega
        clear hcs
        cases h46 : (x != 46)
        all_goals
          rw [h46] at q
          have H46 := Aside0.mk h46
          clear h46
          go_wp2_with fail
          go_roundg (m - (j + 1))
          case measure => have := HG.out; omega
          case rel =>
            have h46 := H46.out
            have hcs := HX2.out
            first
            | (rw [if_pos (by simpa using h46)] at hcs; exact ⟨j + 1, i + 9, c, rfl, by go_num, by have := HG.out; omega, rfl, ⟨by have := HI.out.1; omega, by omega⟩⟩)
            | (rw [if_neg (by simpa using h46)] at hcs; exact ⟨j + 1, i + 9, c + 1, by go_num, by go_num, by have := HG.out; omega, rfl, ⟨by have := HI.out.1; omega, by omega⟩⟩)
      · have k1 : decide ((i : Int) < max (a : Int) (b : Int)) = false := decide_eq_false (by rw [HX.out, HI.out.1]; have := HG.out; omega)
        go_wp2_with fail
        go_ret
        exact ⟨ret_int (by rw [HI.out.2, show j = m by have := HG.out; omega]), rfl⟩
  have e1 : (a / 9 == b / 9) = true := by simp [hr]
  rw [e1] at q1
  obtain ⟨m, hL, hM⟩ := betwL_row a b h hr
  rw [show betwN (cel s) a b = (cntN s (min a b) 1 m : Int) by unfold betwN cntN; rw [if_neg h, if_pos (by omega), hL]]
  have HX := Aside0.mk (show max (a : Int) (b : Int) = ((min a b : Nat) : Int) + 1 * m + 1 by omega)
  have HN := Aside0.mk (show min (a : Int) (b : Int) = ((min a b : Nat) : Int) by omega)
  have HLT := Aside0.mk (show min a b + 1 * m < 90 - 1 by omega)
  generalize min a b = mn at *
  have HS := Aside0.mk hs
  clear hL hM e0 e1 q2 h hr hs
  go_enter Tryz.func121, Tryz.ntmps121
  go_wp2_with (fail)
  go_loopg [8, 9] m (fun gg s8 s9 wr => ∃ j i c : Nat, s8 = .int .i64 c ∧ s9 = .int .i64 i ∧ j + gg = m ∧ wr = w ∧ Aside0 (i = mn + 1 * (j + 1) ∧ c = cntN s mn 1 j))
  case atStart => exact ⟨0, mn + 1, 0, rfl, by rw [HN.out]; rfl, by omega, rfl, ⟨by omega, rfl⟩⟩
  case round =>
    obtain ⟨j, i, c, rfl, rfl, hjg, rfl, HI⟩ := hrel
    have HG := Aside0.mk hjg
    clear hjg
    by_cases hlt : j < m
    · have k1 : decide ((i : Int) < max (a : Int) (b : Int)) = true := decide_eq_true (by rw [HX.out, HI.out.1]; omega)
      have k2 : 0 ≤ (i : Int) := by omega
      have k3 : (i : Int) < (s.size : Int) := by rw [HS.out, HI.out.1]; have := HLT.out; omega
      have k4 : (i : Int) ≤ 90 := by rw [HI.out.1]; have := HLT.out; omega
      have k5 : (c : Int) ≤ 90 := by rw [HI.out.2]; have := cntN_le s mn 1 j; have := HLT.out; omega
      have hcs := cntN_succ s mn 1 j
      rw [← HI.out.1, ← HI.out.2] at hcs
      generalize hx : cel s i = x at hcs
      have HX2 := Aside0.mk hcs
      have q : ((x : Int) != 46) = (x != 46) := by rw [Bool.eq_iff_iff, bne_iff_ne, bne_iff_ne]; omega
      clear hcs
      cases h46 : (x != 46)
      all_goals
        rw [h46] at q
        have H46 := Aside0.mk h46
        clear h46
        go_wp2_with fail
        go_roundg (m - (j + 1))
        case measure => have := HG.out; omega
        case rel =>
          have h46 := H46.out
          have hcs := HX2.out
          first
          | (rw [if_pos (by simpa using h46)] at hcs; exact ⟨j + 1, i + 1, c, rfl, by go_num, by have := HG.out; omega, rfl, ⟨by have := HI.out.1; omega, by omega⟩⟩)
          | (rw [if_neg (by simpa using h46)] at hcs; exact ⟨j + 1, i + 1, c + 1, by go_num, by go_num, by have := HG.out; omega, rfl, ⟨by have := HI.out.1; omega, by omega⟩⟩)
    · have k1 : decide ((i : Int) < max (a : Int) (b : Int)) = false := decide_eq_false (by rw [HX.out, HI.out.1]; have := HG.out; omega)
      go_wp2_with fail
      go_ret
      exact ⟨ret_int (by rw [HI.out.2, show j = m by have := HG.out; omega]), rfl⟩
end Go.Proofs.YtafmapadkpjliaaGreatDoor.K
