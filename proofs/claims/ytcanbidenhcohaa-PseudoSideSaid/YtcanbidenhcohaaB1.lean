/- Walks and plain laws that several statements lean on, joined: no statement of the seat is proved here. -/
import Derived.Shelf.Small.Bits
import Derived.Shelf.Small.Strs
import Derived.Shelf.Small.Wraps
import Derived.Shelf.Strconv.Itoa0
import Derived.Shelf.Strings.Search1
import Derived.Shelf.Sort.Plain
import Derived.Shelf.GgClosure.StringsIndexFunc
import Derived.Ground.GgwProg
import Derived.Shelf.GgClosure.StringsIndexFuncTop
import Derived.Shelf.Strings.FuncGrows
import Derived.Shelf.Slices.Turned
import Derived.Ground.Names2Prog
import Derived.Shelf.Slices.CompactI
import Derived.Shelf.Slices.In.SortNone
import Derived.Ground.SlgnProg
import Derived.Shelf.SlicesE.Compact
import Derived.Ground.SlgfProg
import Derived.Shelf.SlicesE.IndexFunc
import Derived.Shelf.SlicesE.DeleteFunc
import Derived.Test.YtcanbidenhcohaaProg
import Derived.Test.YtcanbidenhcohaaBW
import Derived.Lib.Hide
import Derived.Deep.QuietTactic
import Derived.BigQuiet
import Derived.Handy
import Derived.Laws.EntriesVeiled
import Derived.Deep.LoopGhost
import Derived.Deep.RegionHeld3
import Derived.Lib.SlBytesConst
import Derived.Lib.SlicesCompact

/- The shelf's contracts at this translation, as the shelf's own plain mode writes them. -/
/-
  DERIVED: THE SHELF's CONTRACTS AT THIS DUMP, IN PLAIN WORDS (tools/lay-plain.mjs out of 'TryShelf.lean', which tools/lay-shelf.mjs wrote): THE SAME DECLARATIONS UNDER THE SAME NAMES: 'import', 'namespace', 'open', 'def', 'theorem' AND NOTHING ELSE: no command of the shelf's: FOR A HAND-IN. Each laying: the table of numbers ('.._ren') and one theorem, a field a fact of the dump's own or the kernel's comparison; each contract: ONE APPLICATION.
-/
namespace Go.Proofs
open Go.Shelf
def Try.lays128_ren : Go.Shelf.Ren := ⟨fun | 128 => 105 | n => n, fun | 51 => 93 | 3 => 3 | 4 => 4 | 46 => 75 | 5 => 5 | 9 => 9 | n => n, fun | n => n⟩
theorem Try.lays128 : Go.Proofs.Lays.n128 Try.prog Try.lays128_ren := {
  mixed := by kernel_rfl
  f128 := Try.func105.trans (congrArg some (by kernel_rfl))
  t3 := Try.underlying3
  a3 := Try.isAgg3
  z3 := Try.sizeOf3
  v3 := Try.zeroValue3
  t4 := Try.underlying4
  a4 := Try.isAgg4
  z4 := Try.sizeOf4
  v4 := Try.zeroValue4
  t5 := Try.underlying5
  a5 := Try.isAgg5
  z5 := Try.sizeOf5
  v5 := Try.zeroValue5
  t9 := Try.underlying9
  a9 := Try.isAgg9
  z9 := Try.sizeOf9
  v9 := Try.zeroValue9
  t46 := Try.underlying75
  a46 := Try.isAgg75
  z46 := Try.sizeOf75
  v46 := Try.zeroValue75
  t51 := Try.underlying93
  a51 := Try.isAgg93
  z51 := Try.sizeOf93
  v51 := Try.zeroValue93 }
/-- bits.Len32: "Len32 returns the minimum number of bits required to represent x; the result is 0 for x == 0.": IT RETURNS 'Lib.bitLen x'; the world is as it was. ('h0', 'h1': x is a uint32.) (LAID: no walk: one application.) -/
theorem Try.bits_Len32 (x : Int) (w : World) (h0 : 0 ≤ x) (h1 : x ≤ 4294967295) :
    Calls Try.prog 105 #[.int .u32 x] w fun e w' => e = .returned (.int .i64 (Lib.bitLen x.toNat)) ∧ w' = w := Any.bits_Len32 Try.lays128 x w h0 h1
def Try.lays125_ren : Go.Shelf.Ren := ⟨fun | 125 => 78 | 128 => 105 | 129 => 106 | n => n, fun | 46 => 75 | 3 => 3 | 51 => 93 | 53 => 95 | 4 => 4 | 5 => 5 | 9 => 9 | n => n, fun | n => n⟩
theorem Try.lays125 : Go.Proofs.Lays.n125 Try.prog Try.lays125_ren := {
  mixed := by kernel_rfl
  f125 := Try.func78.trans (congrArg some (by kernel_rfl))
  f128 := Try.func105.trans (congrArg some (by kernel_rfl))
  f129 := Try.func106.trans (congrArg some (by kernel_rfl))
  t3 := Try.underlying3
  a3 := Try.isAgg3
  z3 := Try.sizeOf3
  v3 := Try.zeroValue3
  t4 := Try.underlying4
  a4 := Try.isAgg4
  z4 := Try.sizeOf4
  v4 := Try.zeroValue4
  t5 := Try.underlying5
  a5 := Try.isAgg5
  z5 := Try.sizeOf5
  v5 := Try.zeroValue5
  t9 := Try.underlying9
  a9 := Try.isAgg9
  z9 := Try.sizeOf9
  v9 := Try.zeroValue9
  t46 := Try.underlying75
  a46 := Try.isAgg75
  z46 := Try.sizeOf75
  v46 := Try.zeroValue75
  t51 := Try.underlying93
  a51 := Try.isAgg93
  z51 := Try.sizeOf93
  v51 := Try.zeroValue93
  t53 := Try.underlying95
  a53 := Try.isAgg95
  z53 := Try.sizeOf95
  v53 := Try.zeroValue95 }
/-- bits.Len: "Len returns the minimum number of bits required to represent x; the result is 0 for x == 0.": IT RETURNS 'Lib.bitLen x'; the world is as it was. (A uint has 64 bits in the model.) ITS CALLEE bits.Len64 IS MET BY ITS OWN CONTRACT OFF THE SHELF (lay that first). (LAID: no walk: one application.) -/
theorem Try.bits_Len (x : Int) (w : World) (h0 : 0 ≤ x) (h1 : x ≤ 18446744073709551615) :
    Calls Try.prog 78 #[.int .u64 x] w fun e w' => e = .returned (.int .i64 (Lib.bitLen x.toNat)) ∧ w' = w := Any.bits_Len Try.lays125 x w h0 h1
def Try.lays137_ren : Go.Shelf.Ren := ⟨fun | 137 => 54 | 217 => 83 | 266 => 111 | n => n, fun | 9 => 9 | 5 => 5 | 3 => 3 | n => n, fun | n => n⟩
theorem Try.lays137 : Go.Proofs.Lays.n137 Try.prog Try.lays137_ren := {
  mixed := by kernel_rfl
  f137 := Try.func54.trans (congrArg some (by kernel_rfl))
  f217 := Try.func83.trans (congrArg some (by kernel_rfl))
  f266 := Try.func111.trans (congrArg some (by kernel_rfl))
  t3 := Try.underlying3
  a3 := Try.isAgg3
  z3 := Try.sizeOf3
  v3 := Try.zeroValue3
  t5 := Try.underlying5
  a5 := Try.isAgg5
  z5 := Try.sizeOf5
  v5 := Try.zeroValue5
  t9 := Try.underlying9
  a9 := Try.isAgg9
  z9 := Try.sizeOf9
  v9 := Try.zeroValue9 }
open Go.RowKit in
/-- strings.IndexByte: "IndexByte returns the index of the first instance of c in s, or -1 if c is not present in s.": IT RETURNS 'Lib.indexByte s c'; the world is as it was. (LAID: no walk: one application.) -/
theorem Try.strings_IndexByte (s : ByteArray) (c : Int) (w : World) :
    Calls Try.prog 54 #[.string s, .int .u8 c] w fun e w' => e = .returned (.int .i64 (Lib.indexByte s.data.toList c.toNat.toUInt8)) ∧ w' = w := Any.strings_IndexByte Try.lays137 s c w
def Try.lays215_ren : Go.Shelf.Ren := ⟨fun | 215 => 121 | n => n, fun | 3 => 3 | 4 => 4 | n => n, fun | n => n⟩
theorem Try.lays215 : Go.Proofs.Lays.n215 Try.prog Try.lays215_ren := {
  mixed := by kernel_rfl
  f215 := Try.func121.trans (congrArg some (by kernel_rfl))
  t3 := Try.underlying3
  a3 := Try.isAgg3
  z3 := Try.sizeOf3
  v3 := Try.zeroValue3
  t4 := Try.underlying4
  a4 := Try.isAgg4
  z4 := Try.sizeOf4
  v4 := Try.zeroValue4 }
open Go.RowKit in
/-- cmp.isNaN at int: 'x != x': false. (LAID: no walk: one application.) -/
theorem Try.cmp_isNaN_int (x : Int) (w : World) :
    Calls Try.prog 121 #[.int .i64 x] w fun e w' => e = .returned (.bool false) ∧ w' = w := Any.cmp_isNaN_int Try.lays215 x w
def Try.lays129_ren : Go.Shelf.Ren := ⟨fun | 129 => 106 | n => n, fun | 53 => 95 | 3 => 3 | 4 => 4 | 46 => 75 | 5 => 5 | 9 => 9 | n => n, fun | n => n⟩
theorem Try.lays129 : Go.Proofs.Lays.n129 Try.prog Try.lays129_ren := {
  mixed := by kernel_rfl
  f129 := Try.func106.trans (congrArg some (by kernel_rfl))
  t3 := Try.underlying3
  a3 := Try.isAgg3
  z3 := Try.sizeOf3
  v3 := Try.zeroValue3
  t4 := Try.underlying4
  a4 := Try.isAgg4
  z4 := Try.sizeOf4
  v4 := Try.zeroValue4
  t5 := Try.underlying5
  a5 := Try.isAgg5
  z5 := Try.sizeOf5
  v5 := Try.zeroValue5
  t9 := Try.underlying9
  a9 := Try.isAgg9
  z9 := Try.sizeOf9
  v9 := Try.zeroValue9
  t46 := Try.underlying75
  a46 := Try.isAgg75
  z46 := Try.sizeOf75
  v46 := Try.zeroValue75
  t53 := Try.underlying95
  a53 := Try.isAgg95
  z53 := Try.sizeOf95
  v53 := Try.zeroValue95 }
/-- bits.Len64: "Len64 returns the minimum number of bits required to represent x; the result is 0 for x == 0.": IT RETURNS 'Lib.bitLen x'; the world is as it was. ('h0', 'h1': x is a uint64.) (LAID: no walk: one application.) -/
theorem Try.bits_Len64 (x : Int) (w : World) (h0 : 0 ≤ x) (h1 : x ≤ 18446744073709551615) :
    Calls Try.prog 106 #[.int .u64 x] w fun e w' => e = .returned (.int .i64 (Lib.bitLen x.toNat)) ∧ w' = w := Any.bits_Len64 Try.lays129 x w h0 h1
def Try.lays217_ren : Go.Shelf.Ren := ⟨fun | 217 => 83 | 266 => 111 | n => n, fun | 9 => 9 | 5 => 5 | 3 => 3 | n => n, fun | n => n⟩
theorem Try.lays217 : Go.Proofs.Lays.n217 Try.prog Try.lays217_ren := {
  mixed := by kernel_rfl
  f217 := Try.func83.trans (congrArg some (by kernel_rfl))
  f266 := Try.func111.trans (congrArg some (by kernel_rfl))
  t3 := Try.underlying3
  a3 := Try.isAgg3
  z3 := Try.sizeOf3
  v3 := Try.zeroValue3
  t5 := Try.underlying5
  a5 := Try.isAgg5
  z5 := Try.sizeOf5
  v5 := Try.zeroValue5
  t9 := Try.underlying9
  a9 := Try.isAgg9
  z9 := Try.sizeOf9
  v9 := Try.zeroValue9 }
open Go.RowKit Go.Lib in
/-- internal/stringslite.IndexByte (what strings.IndexByte calls): IT RETURNS 'Lib.indexByte s c'; the world is as it was. (LAID: no walk: one application.) -/
theorem Try.stringslite_IndexByte (s : ByteArray) (c : Int) (w : World) :
    Calls Try.prog 83 #[.string s, .int .u8 c] w fun e w' => e = .returned (.int .i64 (Lib.indexByte s.data.toList c.toNat.toUInt8)) ∧ w' = w := Any.stringslite_IndexByte Try.lays217 s c w
def Try.lays189_ren : Go.Shelf.Ren := ⟨fun | 189 => 45 | 125 => 78 | 257 => 77 | 128 => 105 | 129 => 106 | 294 => 96 | 295 => 97 | 296 => 98 | 297 => 99 | 298 => 100 | 299 => 101 | 216 => 102 | 300 => 103 | 301 => 104 | 328 => 116 | 329 => 117 | 330 => 118 | 331 => 119 | 332 => 120 | 215 => 121 | 343 => 124 | n => n, fun | 28 => 24 | 3 => 3 | 46 => 75 | 0 => 0 | 51 => 93 | 53 => 95 | 4 => 4 | 183 => 86 | 182 => 85 | 131 => 90 | 5 => 5 | 9 => 9 | 218 => 100 | 222 => 104 | 228 => 107 | 229 => 108 | n => n, fun | n => n⟩
theorem Try.lays189 : Go.Proofs.Lays.n189 Try.prog Try.lays189_ren := {
  mixed := by kernel_rfl
  f125 := Try.func78.trans (congrArg some (by kernel_rfl))
  f128 := Try.func105.trans (congrArg some (by kernel_rfl))
  f129 := Try.func106.trans (congrArg some (by kernel_rfl))
  f189 := Try.func45.trans (congrArg some (by kernel_rfl))
  f215 := Try.func121.trans (congrArg some (by kernel_rfl))
  f216 := Try.func102.trans (congrArg some (by kernel_rfl))
  f257 := Try.func77.trans (congrArg some (by kernel_rfl))
  f294 := Try.func96.trans (congrArg some (by kernel_rfl))
  f295 := Try.func97.trans (congrArg some (by kernel_rfl))
  f296 := Try.func98.trans (congrArg some (by kernel_rfl))
  f297 := Try.func99.trans (congrArg some (by kernel_rfl))
  f298 := Try.func100.trans (congrArg some (by kernel_rfl))
  f299 := Try.func101.trans (congrArg some (by kernel_rfl))
  f300 := Try.func103.trans (congrArg some (by kernel_rfl))
  f301 := Try.func104.trans (congrArg some (by kernel_rfl))
  f328 := Try.func116.trans (congrArg some (by kernel_rfl))
  f329 := Try.func117.trans (congrArg some (by kernel_rfl))
  f330 := Try.func118.trans (congrArg some (by kernel_rfl))
  f331 := Try.func119.trans (congrArg some (by kernel_rfl))
  f332 := Try.func120.trans (congrArg some (by kernel_rfl))
  f343 := Try.func124.trans (congrArg some (by kernel_rfl))
  t0 := Try.underlying0
  a0 := Try.isAgg0
  z0 := Try.sizeOf0
  v0 := Try.zeroValue0
  t3 := Try.underlying3
  a3 := Try.isAgg3
  z3 := Try.sizeOf3
  v3 := Try.zeroValue3
  t4 := Try.underlying4
  a4 := Try.isAgg4
  z4 := Try.sizeOf4
  v4 := Try.zeroValue4
  t5 := Try.underlying5
  a5 := Try.isAgg5
  z5 := Try.sizeOf5
  v5 := Try.zeroValue5
  t9 := Try.underlying9
  a9 := Try.isAgg9
  z9 := Try.sizeOf9
  v9 := Try.zeroValue9
  t28 := Try.underlying24
  a28 := Try.isAgg24
  z28 := Try.sizeOf24
  v28 := Try.zeroValue24
  t46 := Try.underlying75
  a46 := Try.isAgg75
  z46 := Try.sizeOf75
  v46 := Try.zeroValue75
  t51 := Try.underlying93
  a51 := Try.isAgg93
  z51 := Try.sizeOf93
  v51 := Try.zeroValue93
  t53 := Try.underlying95
  a53 := Try.isAgg95
  z53 := Try.sizeOf95
  v53 := Try.zeroValue95
  t131 := Try.underlying90
  a131 := Try.isAgg90
  z131 := Try.sizeOf90
  v131 := Try.zeroValue90
  t182 := Try.underlying85
  a182 := Try.isAgg85
  z182 := Try.sizeOf85
  v182 := Try.zeroValue85
  t183 := Try.underlying86
  a183 := Try.isAgg86
  z183 := Try.sizeOf86
  v183 := Try.zeroValue86
  t218 := Try.underlying100
  a218 := Try.isAgg100
  z218 := Try.sizeOf100
  v218 := Try.zeroValue100
  t222 := Try.underlying104
  a222 := Try.isAgg104
  z222 := Try.sizeOf104
  v222 := Try.zeroValue104
  t228 := Try.underlying107
  a228 := Try.isAgg107
  z228 := Try.sizeOf107
  v228 := Try.zeroValue107
  t229 := Try.underlying108
  a229 := Try.isAgg108
  z229 := Try.sizeOf108
  v229 := Try.zeroValue108 }
open Go.Sort Go.RowKit in
theorem Try.slices_Sort_int (blk off cap : Nat) (zs : List Int) (w : World) (hH : Holds (Value.int .i64) w blk off zs.toArray) (hblk : blk < w.heap.size) (hsz : zs.length < 4611686018427387904) :
    Calls Try.prog 45 #[.slice (some ⟨blk, off, none⟩) zs.length cap] w fun e w' =>
      e = .returned (.tuple #[]) ∧ ∃ n os, w' = grow (putRow (Value.int .i64) (Sort.ahead w n) blk off (zs.mergeSort fun x y => decide (x ≤ y)).toArray) os := Any.slices_Sort_int Try.lays189 blk off cap zs w hH hblk hsz
def Try.lays315_ren : Go.Shelf.Ren := ⟨fun | 315 => 110 | n => n, fun | 9 => 9 | 40 => 78 | 4 => 4 | 3 => 3 | 0 => 0 | 21 => 21 | n => n, fun | n => n⟩
theorem Try.lays315 : Go.Proofs.Lays.n315 Try.prog Try.lays315_ren := {
  mixed := by kernel_rfl
  f315 := Try.func110.trans (congrArg some (by kernel_rfl))
  t0 := Try.underlying0
  a0 := Try.isAgg0
  z0 := Try.sizeOf0
  v0 := Try.zeroValue0
  t3 := Try.underlying3
  a3 := Try.isAgg3
  z3 := Try.sizeOf3
  v3 := Try.zeroValue3
  t4 := Try.underlying4
  a4 := Try.isAgg4
  z4 := Try.sizeOf4
  v4 := Try.zeroValue4
  t9 := Try.underlying9
  a9 := Try.isAgg9
  z9 := Try.sizeOf9
  v9 := Try.zeroValue9
  t21 := Try.underlying21
  a21 := Try.isAgg21
  z21 := Try.sizeOf21
  v21 := Try.zeroValue21
  t40 := Try.underlying78
  a40 := Try.isAgg78
  z40 := Try.sizeOf78
  v40 := Try.zeroValue78 }
open Go.RowKit Go.Lib in
theorem Try.strings_indexFunc (g : Nat) (lb : Array Value) (eg : ∀ args w, (callFunc g args).run Try.prog w = .ok (.enter g args) w) (p : Nat → Bool) (truth : Bool) (s : ByteArray) (w : World) (hp : PredAt Try.prog g lb encR p w) :
    Calls Try.prog 110 #[.string s, .func (.func g) #[] lb, .bool truth] w fun e w' => e = .returned (.int .i64 (Lib.idxFunc p truth s)) ∧ Below w.heap.size w w' := Any.strings_indexFunc Try.lays315 g lb eg p truth s w hp
def Try.laysGw15_ren : Go.Shelf.Ren := ⟨fun | 15 => 81 | 20 => 110 | n => n, fun | 9 => 9 | 23 => 78 | 3 => 3 | 4 => 4 | 0 => 0 | 21 => 21 | n => n, fun | n => n⟩
theorem Try.laysGw15 : Go.Proofs.LaysGw.n15 Try.prog Try.laysGw15_ren := {
  mixed := by kernel_rfl
  f15 := Try.func81.trans (congrArg some (by kernel_rfl))
  f20 := Try.func110.trans (congrArg some (by kernel_rfl))
  t0 := Try.underlying0
  a0 := Try.isAgg0
  z0 := Try.sizeOf0
  v0 := Try.zeroValue0
  i0 := by kernel_rfl
  t3 := Try.underlying3
  a3 := Try.isAgg3
  z3 := Try.sizeOf3
  v3 := Try.zeroValue3
  i3 := by kernel_rfl
  t4 := Try.underlying4
  a4 := Try.isAgg4
  z4 := Try.sizeOf4
  v4 := Try.zeroValue4
  i4 := by kernel_rfl
  t9 := Try.underlying9
  a9 := Try.isAgg9
  z9 := Try.sizeOf9
  v9 := Try.zeroValue9
  i9 := by kernel_rfl
  t21 := Try.underlying21
  a21 := Try.isAgg21
  z21 := Try.sizeOf21
  v21 := Try.zeroValue21
  i21 := by kernel_rfl
  t23 := Try.underlying78
  a23 := Try.isAgg78
  z23 := Try.sizeOf78
  v23 := Try.zeroValue78
  i23 := by kernel_rfl }
open Go.RowKit Go.Lib in
theorem Try.strings_IndexFunc (g : Nat) (lb : Array Value) (eg : ∀ args w, (callFunc g args).run Try.prog w = .ok (.enter g args) w) (p : Nat → Bool) (s : ByteArray) (w : World) (hp : PredAt Try.prog g lb encR p w) :
    Calls Try.prog 81 #[.string s, .func (.func g) #[] lb] w fun e w' => e = .returned (.int .i64 (Lib.idxFunc p true s)) ∧ Below w.heap.size w w' := Any.strings_IndexFunc Try.laysGw15 g lb eg p s w hp
open Go.RowKit Go.Lib in
theorem Try.strings_indexFunc_grows (g : Nat) (lb : Array Value) (eg : ∀ args w, (callFunc g args).run Try.prog w = .ok (.enter g args) w) (p : Nat → Bool) (truth : Bool) (s : ByteArray) (w : World) (hp : PredGrows Try.prog g lb p w) :
    Calls Try.prog 110 #[.string s, .func (.func g) #[] lb, .bool truth] w fun e w' => e = .returned (.int .i64 (Lib.idxFunc p truth s)) ∧ Below w.heap.size w w' := Any.strings_indexFunc_grows Try.lays315 g lb eg p truth s w hp
open Go.RowKit Go.Lib in
theorem Try.strings_IndexFunc_grows (g : Nat) (lb : Array Value) (eg : ∀ args w, (callFunc g args).run Try.prog w = .ok (.enter g args) w) (p : Nat → Bool) (s : ByteArray) (w : World) (hp : PredGrows Try.prog g lb p w) :
    Calls Try.prog 81 #[.string s, .func (.func g) #[] lb] w fun e w' => e = .returned (.int .i64 (Lib.idxFunc p true s)) ∧ Below w.heap.size w w' := Any.strings_IndexFunc_grows Try.laysGw15 g lb eg p s w hp
def Try.lays108_ren : Go.Shelf.Ren := ⟨fun | 108 => 80 | n => n, fun | 28 => 24 | 3 => 3 | 0 => 0 | 4 => 4 | n => n, fun | n => n⟩
theorem Try.lays108 : Go.Proofs.Lays.n108 Try.prog Try.lays108_ren := {
  mixed := by kernel_rfl
  f108 := Try.func80.trans (congrArg some (by kernel_rfl))
  t0 := Try.underlying0
  a0 := Try.isAgg0
  z0 := Try.sizeOf0
  v0 := Try.zeroValue0
  t3 := Try.underlying3
  a3 := Try.isAgg3
  z3 := Try.sizeOf3
  v3 := Try.zeroValue3
  t4 := Try.underlying4
  a4 := Try.isAgg4
  z4 := Try.sizeOf4
  v4 := Try.zeroValue4
  t28 := Try.underlying24
  a28 := Try.isAgg24
  z28 := Try.sizeOf24
  v28 := Try.zeroValue24 }
open Go.Lib in
/-- slices.Index at []int: "Index returns the index of the first occurrence of v in s, or -1 if not present.": IT RETURNS 'Lib.idxOf (the elements) v'; the world is as it was. 'zs': what the cells behind the slice's address hold (its spare capacity too, if you have it); 'zs.take n': its elements. (LAID: no walk: one application.) -/
theorem Try.slices_Index_int (b off n c : Nat) (zs : List Int) (x : Int) (w : World) (hz : n ≤ zs.length) (hbig : n ≤ 9223372036854775807) (hc : ∀ j, j < zs.length → w.cell? ⟨b, off + j, none⟩ = some (.int .i64 (zs.getD j 0))) :
    Calls Try.prog 80 #[.slice (some ⟨b, off, none⟩) n c, .int .i64 x] w fun e w' => e = .returned (.int .i64 (Lib.idxOf (zs.take n) x)) ∧ w' = w := Any.slices_Index_int Try.lays108 b off n c zs x w hz hbig hc
open Go.Lib in
/-- The same at a slice of length 0, a nil one too: no cell is known, none is asked for. (LAID: no walk: one application.) -/
theorem Try.slices_Index_int_empty (a : Option Addr) (c : Nat) (x : Int) (w : World) :
    Calls Try.prog 80 #[.slice a 0 c, .int .i64 x] w fun e w' => e = .returned (.int .i64 (Lib.idxOf [] x)) ∧ w' = w := Any.slices_Index_int_empty Try.lays108 a c x w
def Try.lays107_ren : Go.Shelf.Ren := ⟨fun | 107 => 50 | 108 => 80 | n => n, fun | 28 => 24 | 3 => 3 | 4 => 4 | 0 => 0 | n => n, fun | n => n⟩
theorem Try.lays107 : Go.Proofs.Lays.n107 Try.prog Try.lays107_ren := {
  mixed := by kernel_rfl
  f107 := Try.func50.trans (congrArg some (by kernel_rfl))
  f108 := Try.func80.trans (congrArg some (by kernel_rfl))
  t0 := Try.underlying0
  a0 := Try.isAgg0
  z0 := Try.sizeOf0
  v0 := Try.zeroValue0
  t3 := Try.underlying3
  a3 := Try.isAgg3
  z3 := Try.sizeOf3
  v3 := Try.zeroValue3
  t4 := Try.underlying4
  a4 := Try.isAgg4
  z4 := Try.sizeOf4
  v4 := Try.zeroValue4
  t28 := Try.underlying24
  a28 := Try.isAgg24
  z28 := Try.sizeOf24
  v28 := Try.zeroValue24 }
open Go.Lib in
/-- slices.Contains at []int: "Contains reports whether v is present in s.": IT RETURNS 'elements.contains v'; the world is as it was. ITS CALLEE slices.Index IS MET BY ITS OWN CONTRACT OFF THE SHELF (lay that first): no loop is walked here. (LAID: no walk: one application.) -/
theorem Try.slices_Contains_int (b off n c : Nat) (zs : List Int) (x : Int) (w : World) (hz : n ≤ zs.length) (hbig : n ≤ 9223372036854775807) (hc : ∀ j, j < zs.length → w.cell? ⟨b, off + j, none⟩ = some (.int .i64 (zs.getD j 0))) :
    Calls Try.prog 50 #[.slice (some ⟨b, off, none⟩) n c, .int .i64 x] w fun e w' => e = .returned (.bool ((zs.take n).contains x)) ∧ w' = w := Any.slices_Contains_int Try.lays107 b off n c zs x w hz hbig hc
open Go.Lib in
/-- The same at a slice of length 0, a nil one too. (LAID: no walk: one application.) -/
theorem Try.slices_Contains_int_empty (a : Option Addr) (c : Nat) (x : Int) (w : World) :
    Calls Try.prog 50 #[.slice a 0 c, .int .i64 x] w fun e w' => e = .returned (.bool false) ∧ w' = w := Any.slices_Contains_int_empty Try.lays107 a c x w
def Try.laysNm220_ren : Go.Shelf.Ren := ⟨fun | 20 => 46 | n => n, fun | 22 => 24 | 3 => 3 | 4 => 4 | 0 => 0 | n => n, fun | n => n⟩
theorem Try.laysNm220 : Go.Proofs.Lays2.n20 Try.prog Try.laysNm220_ren := {
  mixed := by kernel_rfl
  f20 := Try.func46.trans (congrArg some (by kernel_rfl))
  t0 := Try.underlying0
  a0 := Try.isAgg0
  z0 := Try.sizeOf0
  v0 := Try.zeroValue0
  t3 := Try.underlying3
  a3 := Try.isAgg3
  z3 := Try.sizeOf3
  v3 := Try.zeroValue3
  t4 := Try.underlying4
  a4 := Try.isAgg4
  z4 := Try.sizeOf4
  v4 := Try.zeroValue4
  t22 := Try.underlying24
  a22 := Try.isAgg24
  z22 := Try.sizeOf24
  v22 := Try.zeroValue24
  i3 := by kernel_rfl }
open Go.RowKit Go.Lib Go.Sort in
/-- slices.Compact at []int, over an array: the library's two loops are walked. (LAID: no walk: one application.) -/
theorem Try.slices_Compact_int_arr (blk off cap : Nat) (d : Array Int) (w : World) (hH : Holds encI w blk off d) (hsz : d.size ≤ 9223372036854775807) (hcap : d.size ≤ cap) :
    Calls Try.prog 46 #[.slice (some ⟨blk, off, none⟩) d.size cap] w fun e w' => e = .returned (.slice (some ⟨blk, off, none⟩) (compactUpTo d d.size).length cap) ∧ ∃ q, w' = putRow encI (Sort.ahead w q) blk off (compactUpTo d d.size ++ List.replicate (d.size - (compactUpTo d d.size).length) 0).toArray := Any.slices_Compact_int_arr Try.laysNm220 blk off cap d w hH hsz hcap
open Go.RowKit Go.Lib Go.Sort in
/-- slices.Compact at []int: "Compact replaces consecutive runs of equal elements with a single copy. This is like the uniq command found on Unix. Compact modifies the contents of the slice s and returns the modified slice, which may have a smaller length. Compact zeroes the elements between the new length and the original length. The result preserves the nilness of s.": IT RETURNS THE SLICE CUT TO 'Lib.compact zs'; ITS CELLS HOLD 'Lib.compact zs', THEN ZERO VALUES up to the old length; all else is as it was, but for the count of draws. IN THE WORDS OF slices.Sort's CONTRACT ('Holds', 'putRow'): so the everyday 'slices.Sort(xs); xs = slices.Compact(xs)' goes from the one contract to the other. It asks 'zs.length ≤ cap' (every slice's: the reslicing 's[:k]' looks at it). Length 0, nil: '.._empty'. (LAID: no walk: one application.) -/
theorem Try.slices_Compact_int (blk off cap : Nat) (zs : List Int) (w : World) (hH : Holds (Value.int .i64) w blk off zs.toArray) (hsz : zs.length ≤ 9223372036854775807) (hcap : zs.length ≤ cap) :
    Calls Try.prog 46 #[.slice (some ⟨blk, off, none⟩) zs.length cap] w fun e w' => e = .returned (.slice (some ⟨blk, off, none⟩) (Lib.compact zs).length cap) ∧ ∃ q, w' = putRow (Value.int .i64) (Sort.ahead w q) blk off (Lib.compact zs ++ List.replicate (zs.length - (Lib.compact zs).length) 0).toArray := Any.slices_Compact_int Try.laysNm220 blk off cap zs w hH hsz hcap
open Go.RowKit Go.Lib Go.Sort in
/-- The same at a slice of length 0, a nil one too: it comes back as it is. (LAID: no walk: one application.) -/
theorem Try.slices_Compact_int_empty (a : Option Addr) (cap : Nat) (w : World) :
    Calls Try.prog 46 #[.slice a 0 cap] w fun e w' => e = .returned (.slice a 0 cap) ∧ w' = w := Any.slices_Compact_int_empty Try.laysNm220 a cap w
open Go.RowKit Go.Sort in
/-- .. and plain. (LAID: no walk: one application.) -/
theorem Try.slices_Sort_int_none (p : Option Addr) (cap : Nat) (w : World) :
    Calls Try.prog 45 #[.slice p 0 cap] w fun e w' => e = .returned (.tuple #[]) ∧ w' = w := Any.slices_Sort_int_none Try.lays189 p cap w
def Try.laysSlE43_f46_ren : Go.Shelf.Ren := ⟨fun | 43 => 46 | n => n, fun | 22 => 24 | 23 => 3 | 3 => 3 | 4 => 4 | 0 => 0 | n => n, fun | n => n⟩
theorem Try.laysSlE43_f46 : Go.Proofs.SlLaysE.n43 Try.prog Try.laysSlE43_f46_ren := {
  mixed := by kernel_rfl
  f43 := ⟨Try.f46.name, by decide, Try.func46.trans (congrArg some (by kernel_rfl))⟩
  t0 := Try.underlying0
  a0 := Try.isAgg0
  z0 := Try.sizeOf0
  v0 := Try.zeroValue0
  t3 := Try.underlying3
  a3 := Try.isAgg3
  z3 := Try.sizeOf3
  v3 := Try.zeroValue3
  t4 := Try.underlying4
  a4 := Try.isAgg4
  z4 := Try.sizeOf4
  v4 := Try.zeroValue4
  t22 := Try.underlying24
  a22 := Try.isAgg24
  z22 := Try.sizeOf24
  v22 := Try.zeroValue24
  a23 := Try.isAgg3
  z23 := Try.sizeOf3 }
open Go.RowKit Go.Lib Go.Sort in
/-- slices.Compact: "Compact replaces consecutive runs of equal elements with a single copy. .. Compact zeroes the elements between the new length and the original length.": IT RETURNS THE SLICE CUT TO 'compactUpTo d d.size'; ITS CELLS HOLD THAT, THEN ZERO VALUES up to the old length; the library's two loops are walked. (LAID AT THE INSTANCE 'slices.Compact[[]int,int]': no walk: one application.) -/
theorem Try.slices_Compact {α : Type} [Inhabited α] [DecidableEq α] (enc : α → Value) (hO : OneCell enc) (heq : EqlAt Try.prog 3 enc (fun x y => decide (x = y))) (hne : NeqAt Try.prog 3 enc (fun x y => decide (x = y))) (zr : α) (v23 : ∀ w, (zeroValue 3).run Try.prog w = .ok (enc zr) w) (blk off cap : Nat) (d : Array α) (w : World) (hH : Holds enc w blk off d) (hsz : d.size ≤ 9223372036854775807) (hcap : d.size ≤ cap) :
    Calls Try.prog 46 #[.slice (some ⟨blk, off, none⟩) d.size cap] w fun e w' => e = .returned (.slice (some ⟨blk, off, none⟩) (compactUpTo d d.size).length cap) ∧ ∃ q, w' = putRow enc (Sort.ahead w q) blk off (compactUpTo d d.size ++ List.replicate (d.size - (compactUpTo d d.size).length) zr).toArray := AnyE.slices_Compact Try.laysSlE43_f46 enc hO heq hne zr v23 blk off cap d w hH hsz hcap
def Try.laysSlH6_f69_ren : Go.Shelf.Ren := ⟨fun | 6 => 69 | n => n, fun | 22 => 24 | 23 => 3 | 25 => 55 | 3 => 3 | 0 => 0 | 4 => 4 | n => n, fun | n => n⟩
theorem Try.laysSlH6_f69 : Go.Proofs.SlLaysH.n6 Try.prog Try.laysSlH6_f69_ren := {
  mixed := by kernel_rfl
  f6 := ⟨Try.f69.name, by decide, Try.func69.trans (congrArg some (by kernel_rfl))⟩
  t0 := Try.underlying0
  a0 := Try.isAgg0
  z0 := Try.sizeOf0
  v0 := Try.zeroValue0
  t3 := Try.underlying3
  a3 := Try.isAgg3
  z3 := Try.sizeOf3
  v3 := Try.zeroValue3
  t4 := Try.underlying4
  a4 := Try.isAgg4
  z4 := Try.sizeOf4
  v4 := Try.zeroValue4
  t22 := Try.underlying24
  a22 := Try.isAgg24
  z22 := Try.sizeOf24
  v22 := Try.zeroValue24
  a23 := Try.isAgg3
  z23 := Try.sizeOf3
  t25 := Try.underlying55
  a25 := Try.isAgg55
  z25 := Try.sizeOf55
  v25 := Try.zeroValue55 }
open Go.RowKit Go.Lib in
/-- slices.IndexFunc: "IndexFunc returns the first index i satisfying f(s[i]), or -1 if none do." (LAID AT THE INSTANCE 'slices.IndexFunc[[]int,int]': no walk: one application.) -/
theorem Try.slices_IndexFunc {α : Type} [Inhabited α] (enc : α → Value) (p : α → Bool) (g : Nat) (lb : Array Value) (eg : ∀ args w, (callFunc g args).run Try.prog w = .ok (.enter g args) w) (b off n c : Nat) (zs : List α) (w : World) (hp : PredAt Try.prog g lb enc p w) (hz : n ≤ zs.length) (hbig : n ≤ 9223372036854775807) (hc : ∀ j, j < zs.length → w.cell? ⟨b, off + j, none⟩ = some (enc zs[j]!)) :
    Calls Try.prog 69 #[.slice (some ⟨b, off, none⟩) n c, .func (.func g) #[] lb] w fun e w' => e = .returned (.int .i64 (Lib.idxBy (fun _ y => p y) (zs.take n) default)) ∧ ∃ q, w' = w.drewN q := AnyE.slices_IndexFunc Try.laysSlH6_f69 enc p g lb eg b off n c zs w hp hz hbig hc
open Go.RowKit Go.Lib in
/-- The same at a slice of length 0, a nil one too: the predicate is not called: nothing is asked of it. (LAID AT THE INSTANCE 'slices.IndexFunc[[]int,int]': no walk: one application.) -/
theorem Try.slices_IndexFunc_empty {α : Type} [Inhabited α] (a : Option Addr) (c : Nat) (fv : Value) (w : World) :
    Calls Try.prog 69 #[.slice a 0 c, fv] w fun e w' => e = .returned (.int .i64 (-1)) ∧ w' = w := AnyE.slices_IndexFunc_empty Try.laysSlH6_f69 a c fv w
def Try.laysSlH10_f41_ren : Go.Shelf.Ren := ⟨fun | 10 => 41 | 6 => 69 | n => n, fun | 22 => 24 | 23 => 3 | 25 => 55 | 3 => 3 | 4 => 4 | 0 => 0 | n => n, fun | n => n⟩
theorem Try.laysSlH10_f41 : Go.Proofs.SlLaysH.n10 Try.prog Try.laysSlH10_f41_ren := {
  mixed := by kernel_rfl
  f6 := ⟨Try.f69.name, by decide, Try.func69.trans (congrArg some (by kernel_rfl))⟩
  f10 := ⟨Try.f41.name, by decide, Try.func41.trans (congrArg some (by kernel_rfl))⟩
  t0 := Try.underlying0
  a0 := Try.isAgg0
  z0 := Try.sizeOf0
  v0 := Try.zeroValue0
  t3 := Try.underlying3
  a3 := Try.isAgg3
  z3 := Try.sizeOf3
  v3 := Try.zeroValue3
  t4 := Try.underlying4
  a4 := Try.isAgg4
  z4 := Try.sizeOf4
  v4 := Try.zeroValue4
  t22 := Try.underlying24
  a22 := Try.isAgg24
  z22 := Try.sizeOf24
  v22 := Try.zeroValue24
  a23 := Try.isAgg3
  z23 := Try.sizeOf3
  t25 := Try.underlying55
  a25 := Try.isAgg55
  z25 := Try.sizeOf55
  v25 := Try.zeroValue55 }
open Go.RowKit Go.Lib Go.Sort in
theorem Try.slices_DeleteFunc {α : Type} [Inhabited α] (enc : α → Value) (hO : OneCell enc) (p : α → Bool) (g : Nat) (lb : Array Value) (eg : ∀ args w, (callFunc g args).run Try.prog w = .ok (.enter g args) w) (zr : α) (v23 : ∀ w, (zeroValue 3).run Try.prog w = .ok (enc zr) w) (blk off cap : Nat) (d : Array α) (w : World) (hp : PredAt Try.prog g lb enc p w) (hpo : PredOver Try.prog g lb enc p blk off d.size w) (hH : Holds enc w blk off d) (hsz : d.size ≤ 9223372036854775807) (hcap : d.size ≤ cap) :
    Calls Try.prog 41 #[.slice (some ⟨blk, off, none⟩) d.size cap, .func (.func g) #[] lb] w fun e w' => e = .returned (.slice (some ⟨blk, off, none⟩) (d.toList.filter fun x => !p x).length cap) ∧ ∃ q, w' = putRow enc (Sort.ahead w q) blk off ((d.toList.filter fun x => !p x) ++ List.replicate (d.size - (d.toList.filter fun x => !p x).length) zr).toArray := AnyE.slices_DeleteFunc Try.laysSlH10_f41 enc hO p g lb eg zr v23 blk off cap d w hp hpo hH hsz hcap
end Go.Proofs

/- Plain law: which texts are boards, as strings.IndexFunc over a closure finds out. -/
namespace Go.Proofs.Ytcanbidenhcohaa.Sp
open Go.Lib

/-- The byte is a cell's: '.', or one of the fourteen letters. -/
def cellB (c : Nat) : Bool := c == 46 || c == 75 || c == 65 || c == 66 || c == 78 || c == 82 || c == 67 || c == 80 || c == 107 || c == 97 || c == 98 || c == 110 || c == 114 || c == 99 || c == 112
theorem cellB_le {c : Nat} (h : cellB c = true) : c ≤ 122 := by
  simp only [cellB, Bool.or_eq_true, beq_iff_eq] at h
  omega
/-- A text is a board. -/
def isBoard (s : ByteArray) : Bool := s.size == 90 && s.data.toList.all (fun b => cellB b.toNat)
def badR (r : Nat) : Bool := decide (122 < r) || !(cellB r)

theorem decode_small (s : ByteArray) (i : Nat) (h : (s.get! i).toNat < 128) : Utf8.decode s i = ((s.get! i).toNat, 1) := by
  unfold Utf8.decode
  simp only [Nat.add_zero]
  rw [if_pos h]
theorem decode_big (s : ByteArray) (i : Nat) (h : ¬ (s.get! i).toNat < 128) : 128 ≤ (Utf8.decode s i).1 := by
  unfold Utf8.decode
  simp only [Nat.add_zero]
  rw [if_neg h]
  have e : (128 : Nat) ≤ Utf8.runeError := by decide
  repeat' split
  all_goals first | exact e | (simp_all; done) | (simp_all; omega)

theorem get_at (s : ByteArray) (i : Nat) (h : i < s.size) : s.get! i = s.data.toList[i]'(by rw [Array.length_toList]; exact h) := by
  show s.data[i]! = _
  rw [getElem!_pos s.data i h]; simp

theorem idx_neg (s : ByteArray) : ∀ (f pos : Nat), s.size ≤ f + pos → (idxFuncFrom badR true s f pos < 0 ↔ ∀ i, pos ≤ i → (h : i < s.data.toList.length) → cellB (s.data.toList[i]'h).toNat = true)
  | 0, pos, hf => by
    have e : s.data.toList.length = s.size := by rw [Array.length_toList]; rfl
    simp only [idxFuncFrom]
    exact ⟨fun _ i h1 h2 => by omega, fun _ => by decide⟩
  | f + 1, pos, hf => by
    have e : s.data.toList.length = s.size := by rw [Array.length_toList]; rfl
    unfold idxFuncFrom
    by_cases hp : pos < s.size
    · rw [if_pos hp]
      by_cases hb : (s.get! pos).toNat < 128
      · rw [decode_small s pos hb]
        have hg := get_at s pos hp
        by_cases hc : cellB (s.get! pos).toNat = true
        · have hn : ¬ badR (s.get! pos).toNat = true := by
            have := cellB_le hc
            simp [badR, hc]; omega
          rw [if_neg hn, idx_neg s f (pos + 1) (by omega)]
          constructor
          · intro h i h1 h2
            by_cases hi : i = pos
            · subst hi; rw [← hg]; exact hc
            · exact h i (by omega) h2
          · intro h i h1 h2; exact h i (by omega) h2
        · have hn : badR (s.get! pos).toNat = true := by simp [badR, hc]
          rw [if_pos hn]
          constructor
          · intro h; omega
          · intro h; exact absurd (by rw [hg]; exact h pos (Nat.le_refl _) (by omega)) hc
      · have h1 := decode_big s pos hb
        have hn : badR (Utf8.decode s pos).1 = true := by simp [badR]; left; omega
        rw [if_pos hn]
        constructor
        · intro h; omega
        · intro h
          have hc := h pos (Nat.le_refl _) (by omega)
          rw [← get_at s pos hp] at hc
          have := cellB_le hc
          omega
    · rw [if_neg hp]
      exact ⟨fun _ i h1 h2 => by omega, fun _ => by decide⟩

theorem idx_all (s : ByteArray) : decide (idxFunc badR true s < 0) = s.data.toList.all (fun b => cellB b.toNat) := by
  have h := idx_neg s s.size 0 (by omega)
  rw [Bool.eq_iff_iff, decide_eq_true_iff, List.all_eq_true]
  unfold idxFunc
  rw [h]
  constructor
  · intro k b hb
    obtain ⟨i, hi, rfl⟩ := List.getElem_of_mem hb
    exact k i (Nat.zero_le _) hi
  · intro k i _ hi
    exact k _ (List.getElem_mem hi)
end Go.Proofs.Ytcanbidenhcohaa.Sp

/- Plain law: pieces, squares, and where a piece reaches: the document's answer over a board as a function from squares to bytes. -/
namespace Go.Proofs.Ytcanbidenhcohaa.Sp

def isRed (x : Nat) : Bool := x == 75 || x == 65 || x == 66 || x == 78 || x == 82 || x == 67 || x == 80
def isBlack (x : Nat) : Bool := x == 107 || x == 97 || x == 98 || x == 110 || x == 114 || x == 99 || x == 112
def sideN (x : Nat) : Int := if isRed x then 0 else if isBlack x then 1 else -1
def kindN (x : Nat) : Nat := if isRed x then x else if isBlack x then x - 32 else 0
/-- The fifteen bytes of a board. -/
def letters : List Nat := [46, 75, 65, 66, 78, 82, 67, 80, 107, 97, 98, 110, 114, 99, 112]
theorem cellB_mem : ∀ x, cellB x = true → x ∈ letters := by
  intro x h
  simp only [cellB, Bool.or_eq_true, beq_iff_eq] at h
  simp only [letters, List.mem_cons, List.not_mem_nil, or_false]
  omega

/-- A square's rank from a side's own. -/
def ownR (n : Nat) (side : Int) : Nat := if side = 1 then 9 - n / 9 else n / 9
def palaceN (n : Nat) (side : Int) : Bool := decide (3 ≤ n % 9) && decide (n % 9 ≤ 5) && decide (ownR n side ≤ 2)
def overN (n : Nat) (side : Int) : Bool := decide (5 ≤ ownR n side)
def mayN (x n : Nat) : Bool :=
  if sideN x < 0 then false
  else if kindN x = 75 then palaceN n (sideN x)
  else if kindN x = 65 then (n % 9 == 4 && ownR n (sideN x) == 1) || ((n % 9 == 3 || n % 9 == 5) && (ownR n (sideN x) == 0 || ownR n (sideN x) == 2))
  else if kindN x = 66 then ((ownR n (sideN x) == 0 || ownR n (sideN x) == 4) && (n % 9 == 2 || n % 9 == 6)) || (ownR n (sideN x) == 2 && (n % 9 == 0 || n % 9 == 4 || n % 9 == 8))
  else if kindN x = 80 then decide (5 ≤ ownR n (sideN x)) || (decide (3 ≤ ownR n (sideN x)) && n % 9 % 2 == 0)
  else true

/-- How far two numbers are. -/
def away (a b : Nat) : Nat := if a ≤ b then b - a else a - b
/-- The squares between two of a line, the lesser ones first; none, if they are on no line. -/
def betwL (a b : Nat) : List Nat :=
  if a / 9 = b / 9 then (List.range (away a b - 1)).map (fun i => Nat.min a b + 1 + i)
  else if a % 9 = b % 9 then (List.range (away (a / 9) (b / 9) - 1)).map (fun i => Nat.min a b + 9 * (i + 1))
  else []
/-- How many pieces stand between; -1: on no line, or the same. -/
def betwN (c : Nat → Nat) (a b : Nat) : Int :=
  if a = b then -1 else if a / 9 = b / 9 ∨ a % 9 = b % 9 then ((betwL a b).countP (fun i => c i != 46) : Nat) else -1
/-- The square next to a, towards b, along the longer way of a horse. -/
def legN (a b : Nat) : Nat :=
  if away (a % 9) (b % 9) = 1 then (if b / 9 > a / 9 then a + 9 else a - 9) else (if b % 9 > a % 9 then a + 1 else a - 1)
def horseN (c : Nat → Nat) (a b : Nat) : Bool :=
  ((away (a % 9) (b % 9) == 1 && away (a / 9) (b / 9) == 2) || (away (a % 9) (b % 9) == 2 && away (a / 9) (b / 9) == 1)) && c (legN a b) == 46
def pawnN (side : Int) (a b : Nat) : Bool :=
  (if side = 1 then b + 9 == a else b == a + 9) || (overN a side && a / 9 == b / 9 && away a b == 1)
/-- P5.2, of something on a, nothing of its own on b. -/
def canN (c : Nat → Nat) (a b : Nat) : Bool :=
  if kindN (c a) = 75 then away (a % 9) (b % 9) + away (a / 9) (b / 9) == 1 && mayN (c a) b
  else if kindN (c a) = 65 then away (a % 9) (b % 9) == 1 && away (a / 9) (b / 9) == 1 && mayN (c a) b
  else if kindN (c a) = 66 then away (a % 9) (b % 9) == 2 && away (a / 9) (b / 9) == 2 && mayN (c a) b && c ((a + b) / 2) == 46
  else if kindN (c a) = 78 then horseN c a b
  else if kindN (c a) = 82 then betwN c a b == 0
  else if kindN (c a) = 67 then (betwN c a b == 0 && c b == 46) || (betwN c a b == 1 && c b != 46)
  else pawnN (sideN (c a)) a b
def fastN (c : Nat → Nat) (a b : Nat) : Bool := decide (0 ≤ sideN (c a)) && sideN (c b) != sideN (c a) && canN c a b
def allN (c : Nat → Nat) (a : Nat) : List Nat := (List.range 90).filter (fastN c a)
end Go.Proofs.Ytcanbidenhcohaa.Sp

/- Walks: pieces, boards, squares. -/
namespace Go.Proofs.Ytcanbidenhcohaa.K
open Go.RowKit Go.Lib Go.Proofs.YtcanbidenhcohaaW.PrintWords Go.Proofs.Ytcanbidenhcohaa.Sp
set_option linter.unusedVariables false
set_option linter.unusedSimpArgs false
/-- The byte of a text. -/
def cel (s : ByteArray) (n : Nat) : Nat := (s.get! n).toNat
theorem cel_get (s : ByteArray) (n : Nat) (h : n < s.size) : (s[n]'h).toNat = cel s n := by unfold cel; rw [Sp.get_at s n h]; rfl
attribute [local go_sem] cel_get   -- for this text's walks alone
theorem ret_int {k : IntKind} {a b : Int} (h : a = b) : Ending.returned (.int k a) = Ending.returned (.int k b) := by rw [h]
theorem ret_bool {a b : Bool} (h : a = b) : Ending.returned (.bool a) = Ending.returned (.bool b) := by rw [h]
theorem red_at : ∀ x : Fin 256, (0 ≤ Lib.indexByte [75, 65, 66, 78, 82, 67, 80] (UInt8.ofNat x.1) ↔ isRed x.1 = true) := by decide +kernel
theorem black_at : ∀ x : Fin 256, (0 ≤ Lib.indexByte [107, 97, 98, 110, 114, 99, 112] (UInt8.ofNat x.1) ↔ isBlack x.1 = true) := by decide +kernel
theorem side_c (x : Nat) (hx : x < 256) (w : World) : Calls Try.prog 22 #[.int .u8 (x : Int)] w fun e w' => e = .returned (.int .i64 (sideN x)) ∧ w' = w := by
  have H1 := Aside0.mk (red_at ⟨x, hx⟩)
  have H2 := Aside0.mk (black_at ⟨x, hx⟩)
  go_enter Try.func22, Try.ntmps22
  go_wp2_with (go_at_call 54; refine (Try.strings_IndexByte _ _ _).mono ?_; rintro e w' ⟨rfl, rfl⟩)
  all_goals
    go_ret
    refine ⟨ret_int ?_, rfl⟩
    have h1 := H1.out
    have h2 := H2.out
    clear H1 H2
    unfold sideN
    cases hr : isRed x <;> cases hb : isBlack x <;> simp_all <;> omega
theorem sideN_le (x : Nat) : -1 ≤ sideN x ∧ sideN x ≤ 1 := by unfold sideN; split <;> (try split) <;> omega
theorem red_lt {x : Nat} (h : isRed x = true) : x < 256 := by simp [isRed] at h; omega
theorem black_lt {x : Nat} (h : isBlack x = true) : 97 ≤ x ∧ x < 256 := by simp [isBlack] at h; omega
theorem kind_c (x : Nat) (hx : x < 256) (w : World) : Calls Try.prog 24 #[.int .u8 (x : Int)] w fun e w' => e = .returned (.int .u8 (kindN x : Int)) ∧ w' = w := by
  have HX := Aside0.mk hx
  clear hx
  cases hr : isRed x
  case true =>
    have hs : sideN x = 0 := by unfold sideN; rw [hr]; rfl
    have hk : kindN x = x := by unfold kindN; rw [hr]; rfl
    have HS := side_c x HX.out w
    rw [hs] at HS
    have HS := Aside0.mk HS
    rw [hk]
    clear hr hs hk
    go_enter Try.func24, Try.ntmps24
    go_wp2_with (go_at_call 22; refine HS.out.mono ?_; rintro e w' ⟨rfl, rfl⟩)
    go_ret
    exact ⟨rfl, rfl⟩
  case false =>
  cases hb : isBlack x
  case true =>
    have hs : sideN x = 1 := by unfold sideN; rw [hr, hb]; rfl
    have hk : kindN x = x - 32 := by unfold kindN; rw [hr, hb]; rfl
    have hlt := black_lt hb
    have hm : (((x : Nat) : Int) - 32) % 256 = ((x - 32 : Nat) : Int) := by omega
    have HM := Aside0.mk hm
    have HS := side_c x HX.out w
    rw [hs] at HS
    have HS := Aside0.mk HS
    rw [hk]
    clear hr hs hk hb hlt hm
    go_enter Try.func24, Try.ntmps24
    go_wp2_with (go_at_call 22; refine HS.out.mono ?_; rintro e w' ⟨rfl, rfl⟩)
    go_ret
    exact ⟨ret_int HM.out, rfl⟩
  case false =>
    have hs : sideN x = -1 := by unfold sideN; rw [hr, hb]; rfl
    have hk : kindN x = 0 := by unfold kindN; rw [hr, hb]; rfl
    have HS := side_c x HX.out w
    rw [hs] at HS
    have HS := Aside0.mk HS
    rw [hk]
    clear hr hs hk hb
    go_enter Try.func24, Try.ntmps24
    go_wp2_with (go_at_call 22; refine HS.out.mono ?_; rintro e w' ⟨rfl, rfl⟩)
    go_ret
    exact ⟨rfl, rfl⟩
theorem cellB_side : ∀ x : Fin 256, cellB x.1 = (x.1 == 46 || decide (0 ≤ sideN x.1)) := by decide +kernel
theorem isCell_c (x : Nat) (hx : x < 256) (w : World) : Calls Try.prog 62 #[.int .u8 (x : Int)] w fun e w' => e = .returned (.bool (cellB x)) ∧ w' = w := by
  have HS := Aside0.mk (side_c x hx w)
  have HC := Aside0.mk (cellB_side ⟨x, hx⟩)
  have hq : (((x : Nat) : Int) == 46) = (x == 46) := by rw [Bool.eq_iff_iff, beq_iff_eq, beq_iff_eq]; omega
  cases h0 : (x == 46)
  all_goals
    rw [h0] at hq
    have H0 := Aside0.mk h0
    clear h0
    go_enter Try.func62, Try.ntmps62
    go_wp2_with (go_at_call 22; refine HS.out.mono ?_; rintro e w' ⟨rfl, rfl⟩)
    go_ret
    exact ⟨by rw [HC.out, H0.out]; rfl, rfl⟩
theorem isSquare_c (n : Int) (w : World) : Calls Try.prog 55 #[.int .i64 n] w fun e w' => e = .returned (.bool (decide (0 ≤ n ∧ n < 90))) ∧ w' = w := by
  by_cases h0 : 0 ≤ n
  all_goals
    go_enter Try.func55, Try.ntmps55
    go_wp2_with fail
    go_ret
    refine ⟨ret_bool ?_, rfl⟩
    rw [Bool.eq_iff_iff]; simp; omega
/-- The closure of board.Is. -/
theorem is_closure (w : World) : PredAt Try.prog 82 #[] encR badR w := fun W r _ => by
  unfold FnGives
  by_cases h1 : 122 < r
  · have z1 : (122 : Int) < (r : Int) := by omega
    go_enter Try.func82, Try.ntmps82
    go_wp2
    all_goals first | (exfalso; omega) | (go_ret; exact ⟨by simp [badR, h1], 0, rfl⟩)
  · have z1 : (r : Int) ≤ 122 := by omega
    have HC := Aside0.mk (isCell_c r (by omega) W)
    have hb : badR r = !(cellB r) := by simp [badR, h1]
    have Hb := Lib.hid hb
    clear hb
    go_enter Try.func82, Try.ntmps82
    go_wp2_with (go_at_call 62; refine HC.out.mono ?_; rintro e w' ⟨rfl, rfl⟩)
    go_ret
    have hz : decide ((122 : Int) < (r : Int)) = false := by simp only [decide_eq_false_iff_not]; omega
    exact ⟨by rw [Hb.out]; simp [hz], 0, rfl⟩
set_option maxHeartbeats 1000000 in
theorem is_c (s : ByteArray) (w : World) : Calls Try.prog 51 #[.string s] w fun e w' => e = .returned (.bool (isBoard s)) ∧ Below w.heap.size w w' := by
  have HALL := Aside0.mk (Sp.idx_all s)
  have HC := Aside0.mk (Try.strings_IndexFunc 82 #[] (enters_of Try.func82 (by kernel_rfl) rfl) badR s w (is_closure w))
  by_cases hs : s.size = 90
  · have hs1 : ((s.size : Int) == 90) = true := by simp [hs]
    have HS := Lib.hid hs
    clear hs
    go_enter Try.func51, Try.ntmps51
    go_wp2_with (go_at_call 81; refine HC.out.mono ?_; rintro e w' ⟨rfl, hb⟩)
    go_ret
    exact ⟨ret_bool (by rw [isBoard, HS.out, ← HALL.out]; simp), hb⟩
  · have hs1 : ((s.size : Int) == 90) = false := by simp; omega
    have HS := Lib.hid hs
    clear hs
    go_enter Try.func51, Try.ntmps51
    go_wp2_with fail
    go_ret
    exact ⟨ret_bool (by rw [isBoard]; simp [HS.out]), Below.refl _ _⟩
theorem board_size {s : ByteArray} (h : isBoard s = true) : s.size = 90 := by
  unfold isBoard at h; simp at h; exact h.1
theorem board_cell {s : ByteArray} (h : isBoard s = true) {n : Nat} (hn : n < 90) : cel s n ∈ letters := by
  have hs := board_size h
  unfold isBoard at h
  simp only [Bool.and_eq_true, List.all_eq_true] at h
  have hm := h.2 _ (List.getElem_mem (l := s.data.toList) (n := n) (by rw [Array.length_toList]; show n < s.size; omega))
  unfold cel
  rw [Sp.get_at s n (by omega)]
  exact cellB_mem _ hm
theorem cel_lt (s : ByteArray) (n : Nat) : cel s n < 256 := (s.get! n).toNat_lt
/-- What stands on a square. -/
def atS (s : ByteArray) (a : Int) : Nat := if isBoard s = true ∧ 0 ≤ a ∧ a < 90 then cel s a.toNat else 46
theorem at_c (s : ByteArray) (a : Int) (w : World) : Calls Try.prog 23 #[.string s, .int .i64 a] w fun e w' => e = .returned (.int .u8 (atS s a : Int)) ∧ Below w.heap.size w w' := by
  have HQ := Aside0.mk (isSquare_c a w)
  have HI := Aside0.mk (is_c s w)
  by_cases h0 : 0 ≤ a ∧ a < 90
  · rw [show decide (0 ≤ a ∧ a < 90) = true from decide_eq_true h0] at HQ
    obtain ⟨h1, h2⟩ := h0
    cases hb : isBoard s
    · rw [hb] at HI
      rw [show atS s a = 46 by unfold atS; rw [if_neg (by rw [hb]; simp)]]
      clear hb
      go_enter Try.func23, Try.ntmps23
      go_wp2_with (first | (go_at_call 55; refine HQ.out.mono ?_; rintro e w' ⟨rfl, rfl⟩) | (go_at_call 51; refine HI.out.mono ?_; rintro e w' ⟨rfl, hb⟩))
      go_ret
      exact ⟨rfl, hb⟩
    · rw [hb] at HI
      have h3 : a < (s.size : Int) := by rw [board_size hb]; exact h2
      rw [show atS s a = cel s a.toNat by unfold atS; rw [if_pos ⟨hb, h1, h2⟩]]
      clear hb
      go_enter Try.func23, Try.ntmps23
      go_wp2_with (first | (go_at_call 55; refine HQ.out.mono ?_; rintro e w' ⟨rfl, rfl⟩) | (go_at_call 51; refine HI.out.mono ?_; rintro e w' ⟨rfl, hb⟩))
      go_ret
      exact ⟨rfl, hb⟩
  · rw [show decide (0 ≤ a ∧ a < 90) = false from decide_eq_false h0] at HQ
    rw [show atS s a = 46 by unfold atS; rw [if_neg (fun h => h0 h.2)]]
    clear h0
    go_enter Try.func23, Try.ntmps23
    go_wp2_with (first | (go_at_call 55; refine HQ.out.mono ?_; rintro e w' ⟨rfl, rfl⟩))
    go_ret
    exact ⟨rfl, Below.refl _ _⟩
theorem file_c (n : Nat) (hn : n < 90) (w : World) : Calls Try.prog 27 #[.int .i64 (n : Int)] w fun e w' => e = .returned (.int .i64 ((n % 9 : Nat) : Int)) ∧ w' = w := by
  have HQ := isSquare_c n w
  rw [show decide (0 ≤ (n : Int) ∧ (n : Int) < 90) = true from decide_eq_true (by omega)] at HQ
  have HQ := Aside0.mk HQ
  have h0 : 0 ≤ (n : Int) := by omega
  clear hn
  go_enter Try.func27, Try.ntmps27
  go_wp2_with (first | (go_at_call 55; refine HQ.out.mono ?_; rintro e w' ⟨rfl, rfl⟩))
  go_ret
  exact ⟨ret_int (by omega), rfl⟩
theorem rank_c (n : Nat) (hn : n < 90) (w : World) : Calls Try.prog 25 #[.int .i64 (n : Int)] w fun e w' => e = .returned (.int .i64 ((n / 9 : Nat) : Int)) ∧ w' = w := by
  have HQ := isSquare_c n w
  rw [show decide (0 ≤ (n : Int) ∧ (n : Int) < 90) = true from decide_eq_true (by omega)] at HQ
  have HQ := Aside0.mk HQ
  have h0 : 0 ≤ (n : Int) := by omega
  have h1 : (n : Int) < 90 := by omega
  clear hn
  go_enter Try.func25, Try.ntmps25
  go_wp2_with (first | (go_at_call 55; refine HQ.out.mono ?_; rintro e w' ⟨rfl, rfl⟩))
  go_ret
  exact ⟨ret_int (by omega), rfl⟩
theorem file_n (n : Int) (hn : ¬ (0 ≤ n ∧ n < 90)) (w : World) : Calls Try.prog 27 #[.int .i64 n] w fun e w' => e = .returned (.int .i64 (-1)) ∧ w' = w := by
  have HQ := isSquare_c n w
  rw [show decide (0 ≤ n ∧ n < 90) = false from decide_eq_false hn] at HQ
  have HQ := Aside0.mk HQ
  clear hn
  go_enter Try.func27, Try.ntmps27
  go_wp2_with (first | (go_at_call 55; refine HQ.out.mono ?_; rintro e w' ⟨rfl, rfl⟩))
  go_ret
  exact ⟨rfl, rfl⟩
theorem rank_n (n : Int) (hn : ¬ (0 ≤ n ∧ n < 90)) (w : World) : Calls Try.prog 25 #[.int .i64 n] w fun e w' => e = .returned (.int .i64 (-1)) ∧ w' = w := by
  have HQ := isSquare_c n w
  rw [show decide (0 ≤ n ∧ n < 90) = false from decide_eq_false hn] at HQ
  have HQ := Aside0.mk HQ
  clear hn
  go_enter Try.func25, Try.ntmps25
  go_wp2_with (first | (go_at_call 55; refine HQ.out.mono ?_; rintro e w' ⟨rfl, rfl⟩))
  go_ret
  exact ⟨rfl, rfl⟩
def squareZ (f r : Int) : Int := if 0 ≤ f ∧ f < 9 ∧ 0 ≤ r ∧ r < 10 then 9 * r + f else -1
theorem square_c (f r : Int) (w : World) : Calls Try.prog 114 #[.int .i64 f, .int .i64 r] w fun e w' => e = .returned (.int .i64 (squareZ f r)) ∧ w' = w := by
  by_cases h1 : 0 ≤ f
  all_goals by_cases h2 : f < 9
  all_goals by_cases h3 : 0 ≤ r
  all_goals by_cases h4 : r < 10
  all_goals
    go_enter Try.func114, Try.ntmps114
    go_wp2_with fail
    go_ret
    refine ⟨ret_int ?_, rfl⟩
    unfold squareZ
    first | (rw [if_pos (by omega)]; done) | (rw [if_neg (by omega)]; done) | (rw [if_pos (by omega)]; omega) | (rw [if_neg (by omega)])
end Go.Proofs.Ytcanbidenhcohaa.K

/- Walks: where pieces may stand. -/
namespace Go.Proofs.Ytcanbidenhcohaa.K
open Go.RowKit Go.Lib Go.Proofs.YtcanbidenhcohaaW.PrintWords Go.Proofs.Ytcanbidenhcohaa.Sp
set_option linter.unusedVariables false
set_option linter.unusedSimpArgs false
theorem ret_spot {f g r s : Int} {b : Bool} (h1 : f = g) (h2 : r = s) : Ending.returned (.tuple #[.agg #[.int .i64 f, .int .i64 r], .bool b]) = Ending.returned (.tuple #[.agg #[.int .i64 g, .int .i64 s], .bool b]) := by rw [h1, h2]
def spF (n : Nat) (side : Int) : Nat := if side = 1 then (89 - n) % 9 else n % 9
def spR (n : Nat) (side : Int) : Nat := if side = 1 then (89 - n) / 9 else n / 9
def spV (n : Nat) (side : Int) : Value := .agg #[.int .i64 (spF n side : Int), .int .i64 (spR n side : Int)]
set_option maxRecDepth 100000 in
theorem seen_yes (n : Nat) (hn : n < 90) (side : Int) (hs : side = 0 ∨ side = 1) (w : World) : Calls Try.prog 56 #[.int .i64 (n : Int), .int .i64 side] w fun e w' => e = .returned (.tuple #[spV n side, .bool true]) ∧ Below w.heap.size w w' := by
  have h0 : 0 ≤ (n : Int) := by omega
  have h1 : (n : Int) ≤ 89 := by omega
  rcases hs with rfl | rfl
  · go_enter Try.func56, Try.ntmps56
    go_wp2_with fail
    go_returns
    exact ⟨ret_spot (by unfold spF; rw [if_neg (by omega)]; omega) (by unfold spR; rw [if_neg (by omega)]; omega), by (repeat' (first | (with_reducible exact Below.refl _ _) | (with_reducible refine pw_below_drewN ?_ _) | (with_reducible refine below_alloc ?_ _) | (with_reducible refine Below.drew ?_) | (with_reducible refine Below.setCell ?_ ?_ _) | (simp; done)))⟩
  · go_enter Try.func56, Try.ntmps56
    go_wp2_with fail
    go_returns
    exact ⟨ret_spot (by unfold spF; rw [if_pos rfl]; omega) (by unfold spR; rw [if_pos rfl]; omega), by (repeat' (first | (with_reducible exact Below.refl _ _) | (with_reducible refine pw_below_drewN ?_ _) | (with_reducible refine below_alloc ?_ _) | (with_reducible refine Below.drew ?_) | (with_reducible refine Below.setCell ?_ ?_ _) | (simp; done)))⟩
theorem seen_no (n side : Int) (h : ¬ (0 ≤ n ∧ n < 90) ∨ ¬ (side = 0 ∨ side = 1)) (w : World) : Calls Try.prog 56 #[.int .i64 n, .int .i64 side] w fun e w' => e = .returned (.tuple #[.agg #[.int .i64 0, .int .i64 0], .bool false]) ∧ Below w.heap.size w w' := by
  by_cases h0 : 0 ≤ n
  all_goals by_cases h1 : n ≤ 89
  all_goals by_cases h2 : side = 0
  all_goals by_cases h3 : side = 1
  all_goals first | (exfalso; omega) | skip
  all_goals
    have b2 : (side == 0) = decide (side = 0) := by rw [Bool.eq_iff_iff]; simp
    have b3 : (side == 1) = decide (side = 1) := by rw [Bool.eq_iff_iff]; simp
    have c2 : (side != 0) = !decide (side = 0) := by rw [bne, b2]
    have c3 : (side != 1) = !decide (side = 1) := by rw [bne, b3]
    simp only [h2, h3, decide_true, decide_false, Bool.not_true, Bool.not_false] at b2 b3 c2 c3
    clear h h2 h3
    go_enter Try.func56, Try.ntmps56
    go_wp2_with fail
    go_returns
    exact ⟨rfl, by (repeat' (first | (with_reducible exact Below.refl _ _) | (with_reducible refine pw_below_drewN ?_ _) | (with_reducible refine below_alloc ?_ _) | (with_reducible refine Below.drew ?_) | (with_reducible refine Below.setCell ?_ ?_ _) | (simp; done)))⟩
/-- The tests of a square seen from a side. -/
def palF (f r : Nat) : Bool := decide (3 ≤ f) && decide (f ≤ 5) && decide (r ≤ 2)
def advF (f r : Nat) : Bool := palF f r && (f + r) % 2 == 1
def eleF (f r : Nat) : Bool := decide (r ≤ 4) && r % 2 == 0 && decide ((f : Int) % 4 = 2 - (r : Int) % 4)
def ovrF (r : Nat) : Bool := decide (5 ≤ r)
def pwnF (f r : Nat) : Bool := ovrF r || (decide (3 ≤ r) && f % 2 == 0)
abbrev spot (f r : Nat) : Value := .agg #[.int .i64 (f : Int), .int .i64 (r : Int)]
theorem palace_c (f r : Nat) (hf : f < 9) (hr : r < 10) (w : World) : Calls Try.prog 58 #[spot f r] w fun e w' => e = .returned (.bool (palF f r)) ∧ Below w.heap.size w w' := by
  go_enter Try.func58, Try.ntmps58
  go_wp2_with fail
  all_goals
    go_ret
    refine ⟨ret_bool ?_, by (repeat' (first | (with_reducible exact Below.refl _ _) | (with_reducible refine pw_below_drewN ?_ _) | (with_reducible refine below_alloc ?_ _) | (with_reducible refine Below.drew ?_) | (with_reducible refine Below.setCell ?_ ?_ _) | (simp; done)))⟩
    rw [Bool.eq_iff_iff]; unfold palF; simp_all; omega
theorem over_c (f r : Nat) (w : World) : Calls Try.prog 57 #[spot f r] w fun e w' => e = .returned (.bool (ovrF r)) ∧ Below w.heap.size w w' := by
  go_enter Try.func57, Try.ntmps57
  go_wp2_with fail
  go_ret
  exact ⟨ret_bool (by rw [Bool.eq_iff_iff]; unfold ovrF; simp; omega), by (repeat' (first | (with_reducible exact Below.refl _ _) | (with_reducible refine pw_below_drewN ?_ _) | (with_reducible refine below_alloc ?_ _) | (with_reducible refine Below.drew ?_) | (with_reducible refine Below.setCell ?_ ?_ _) | (simp; done)))⟩
theorem elephant_c (f r : Nat) (hf : f < 9) (hr : r < 10) (w : World) : Calls Try.prog 60 #[spot f r] w fun e w' => e = .returned (.bool (eleF f r)) ∧ Below w.heap.size w w' := by
  have h0 : 0 ≤ (r : Int) := by omega
  have h00 : 0 ≤ (f : Int) := by omega
  have h9 : (r : Int) < 10 := by omega
  go_enter Try.func60, Try.ntmps60
  go_wp2_with fail
  all_goals
    go_ret
    refine ⟨ret_bool ?_, by (repeat' (first | (with_reducible exact Below.refl _ _) | (with_reducible refine pw_below_drewN ?_ _) | (with_reducible refine below_alloc ?_ _) | (with_reducible refine Below.drew ?_) | (with_reducible refine Below.setCell ?_ ?_ _) | (simp; done)))⟩
    rw [Bool.eq_iff_iff]; unfold eleF; simp_all; omega
theorem advisor_c (f r : Nat) (hf : f < 9) (hr : r < 10) (w : World) : Calls Try.prog 59 #[spot f r] w fun e w' => e = .returned (.bool (advF f r)) ∧ Below w.heap.size w w' := by
  have HP := Aside0.mk (fun W => palace_c f r hf hr W)
  have h0 : 0 ≤ (f : Int) := by omega
  have h1 : 0 ≤ (r : Int) := by omega
  have h2 : (f : Int) < 9 := by omega
  have h3 : (r : Int) < 10 := by omega
  clear hf hr
  cases hp : palF f r
  all_goals
    simp only [hp] at HP
    have H0 := Aside0.mk hp
    clear hp
    go_enter Try.func59, Try.ntmps59
    go_wp2_with (go_at_call 58; refine (HP.out _).mono ?_; rintro e w1 ⟨rfl, hb⟩; have c0 := (hb.cell (p := ⟨w.heap.size, 0, none⟩) (by simp)).trans (show _ = some (Value.int .i64 (f : Int)) by simp); have c1 := (hb.cell (p := ⟨w.heap.size, 1, none⟩) (by simp)).trans (show _ = some (Value.int .i64 (r : Int)) by simp))
    go_ret
    refine ⟨ret_bool ?_, (below_alloc (Below.refl _ _) _).trans (hb.mono (by simp))⟩
    have h := H0.out
    rw [Bool.eq_iff_iff]; unfold advF; rw [h]; simp
    try omega
theorem pawn_c (f r : Nat) (hf : f < 9) (hr : r < 10) (w : World) : Calls Try.prog 61 #[spot f r] w fun e w' => e = .returned (.bool (pwnF f r)) ∧ Below w.heap.size w w' := by
  have HP := Aside0.mk (fun W => over_c f r W)
  have h0 : 0 ≤ (f : Int) := by omega
  have h1 : 0 ≤ (r : Int) := by omega
  have h2 : (f : Int) < 9 := by omega
  have h3 : (r : Int) < 10 := by omega
  clear hf hr
  cases hp : ovrF r
  all_goals
    simp only [hp] at HP
    have H0 := Aside0.mk hp
    clear hp
    go_enter Try.func61, Try.ntmps61
    go_wp2_with (go_at_call 57; refine (HP.out _).mono ?_; rintro e w1 ⟨rfl, hb⟩; have c0 := (hb.cell (p := ⟨w.heap.size, 0, none⟩) (by simp)).trans (show _ = some (Value.int .i64 (f : Int)) by simp); have c1 := (hb.cell (p := ⟨w.heap.size, 1, none⟩) (by simp)).trans (show _ = some (Value.int .i64 (r : Int)) by simp); have HBB := Aside0.mk ((below_alloc (Below.refl w.heap.size w) _).trans (hb.mono (by simp))); clear hb)
  all_goals
    go_ret
    refine ⟨ret_bool ?_, HBB.out⟩
    have h := H0.out
    rw [Bool.eq_iff_iff]; unfold pwnF; rw [h]; simp
    try omega
end Go.Proofs.Ytcanbidenhcohaa.K

/- Walks: place.May, Over, Most. -/
namespace Go.Proofs.Ytcanbidenhcohaa.K
open Go.RowKit Go.Lib Go.Proofs.YtcanbidenhcohaaW.PrintWords Go.Proofs.Ytcanbidenhcohaa.Sp
set_option linter.unusedVariables false
set_option linter.unusedSimpArgs false
def mayP (x n : Nat) : Bool :=
  if kindN x = 75 then palF (spF n (sideN x)) (spR n (sideN x)) else if kindN x = 65 then advF (spF n (sideN x)) (spR n (sideN x)) else if kindN x = 66 then eleF (spF n (sideN x)) (spR n (sideN x)) else if kindN x = 80 then pwnF (spF n (sideN x)) (spR n (sideN x)) else true
set_option maxRecDepth 100000 in
theorem may_eq : ∀ x ∈ letters, 0 ≤ sideN x → ∀ n : Fin 90, mayN x n.1 = mayP x n.1 := by decide +kernel
theorem sp_lt : ∀ n : Fin 90, spF n.1 0 < 9 ∧ spR n.1 0 < 10 ∧ spF n.1 1 < 9 ∧ spR n.1 1 < 10 ∧ ovrF (spR n.1 0) = overN n.1 0 ∧ ovrF (spR n.1 1) = overN n.1 1 := by decide +kernel
theorem side01 {x : Nat} (h : 0 ≤ sideN x) : sideN x = 0 ∨ sideN x = 1 := by unfold sideN at h ⊢; split <;> (try split) <;> simp_all
theorem side_mem {x : Nat} (h : 0 ≤ sideN x) : x ∈ letters := by
  refine cellB_mem x ?_
  unfold sideN at h
  cases hr : isRed x
  · rw [hr] at h
    cases hb : isBlack x
    · rw [hb] at h; simp at h
    · unfold cellB; simp [isBlack] at hb; simp; omega
  · unfold cellB; simp [isRed] at hr; simp; omega
def mayS (x : Nat) (n : Int) : Bool := decide (0 ≤ sideN x ∧ 0 ≤ n ∧ n < 90) && mayN x n.toNat
theorem kinds {x : Nat} (h : 0 ≤ sideN x) : kindN x = 75 ∨ kindN x = 65 ∨ kindN x = 66 ∨ kindN x = 78 ∨ kindN x = 82 ∨ kindN x = 67 ∨ kindN x = 80 := by
  have : ∀ x ∈ letters, 0 ≤ sideN x → (kindN x = 75 ∨ kindN x = 65 ∨ kindN x = 66 ∨ kindN x = 78 ∨ kindN x = 82 ∨ kindN x = 67 ∨ kindN x = 80) := by decide
  exact this x (side_mem h) h
set_option maxRecDepth 100000 in
set_option maxHeartbeats 2000000 in
theorem may_c (x : Nat) (hx : x < 256) (n : Int) (w : World) : Calls Try.prog 28 #[.int .u8 (x : Int), .int .i64 n] w fun e w' => e = .returned (.bool (mayS x n)) ∧ Below w.heap.size w w' := by
  have HS := Aside0.mk (fun W => side_c x hx W)
  have HK := Aside0.mk (fun W => kind_c x hx W)
  by_cases hz : 0 ≤ sideN x ∧ 0 ≤ n ∧ n < 90
  case neg =>
    have hm : mayS x n = false := by unfold mayS; rw [decide_eq_false hz]; rfl
    rw [hm]
    have HN := Aside0.mk (fun W => seen_no n (sideN x) (by have := sideN_le x; omega) W)
    generalize sideN x = s at HS HN
    clear hz hm HK hx
    have hu := Try.underlying64
    go_enter Try.func28, Try.ntmps28
    go_wp2_with (first | (go_at_call 22; refine (HS.out _).mono ?_; rintro e w' ⟨rfl, rfl⟩) | (go_at_call 56; refine (HN.out _).mono ?_; rintro e w1 ⟨rfl, hb⟩))
    go_ret
    exact ⟨rfl, below_alloc hb _⟩
  obtain ⟨hs, h0, h1⟩ := hz
  obtain ⟨m, rfl⟩ : ∃ m : Nat, n = m := ⟨n.toNat, by omega⟩
  have hm : m < 90 := by omega
  have hmay : mayS x (m : Int) = mayP x m := by
    unfold mayS
    rw [decide_eq_true ⟨hs, h0, h1⟩, Bool.true_and]
    exact may_eq x (side_mem hs) hs ⟨m, hm⟩
  have hlt : spF m (sideN x) < 9 ∧ spR m (sideN x) < 10 := by
    have := sp_lt ⟨m, hm⟩
    rcases side01 hs with h | h <;> rw [h] <;> exact ⟨by first | exact this.1 | exact this.2.2.1, by first | exact this.2.1 | exact this.2.2.2.1⟩
  have HN := Aside0.mk (fun W => seen_yes m hm (sideN x) (side01 hs) W)
  rw [hmay]
  have hk := kinds hs
  unfold mayP
  unfold spV at HN
  have HP := Aside0.mk (fun W => palace_c _ _ hlt.1 hlt.2 W)
  have HA := Aside0.mk (fun W => advisor_c _ _ hlt.1 hlt.2 W)
  have HE := Aside0.mk (fun W => elephant_c _ _ hlt.1 hlt.2 W)
  have HW := Aside0.mk (fun W => pawn_c _ _ hlt.1 hlt.2 W)
  generalize spF m (sideN x) = f at HN HP HA HE HW
  generalize spR m (sideN x) = r at HN HP HA HE HW
  generalize sideN x = s at HS HN
  clear hlt hmay hs h0 h1 hm hx
  have hu := Try.underlying64
  rcases hk with hk | hk | hk | hk | hk | hk | hk
  all_goals
    rw [hk] at HK
    simp only [hk, if_true, if_false, reduceCtorEq, Nat.reduceEqDiff]
    clear hk
    go_enter Try.func28, Try.ntmps28
    go_wp2_with (first | (go_at_call 22; refine (HS.out _).mono ?_; rintro e w' ⟨rfl, rfl⟩) | (go_at_call 56; refine (HN.out _).mono ?_; rintro e w1 ⟨rfl, hb⟩; have HB := Aside0.mk (below_alloc hb (.cells #[.int .i64 (f : Int), .int .i64 (r : Int)] 64)); clear hb) | (go_at_call 24; refine (HK.out _).mono ?_; rintro e w' ⟨rfl, rfl⟩))
  all_goals
    first
    | ((first
        | (go_at_call 58; refine (HP.out _).mono ?_)
        | (go_at_call 59; refine (HA.out _).mono ?_)
        | (go_at_call 60; refine (HE.out _).mono ?_)
        | (go_at_call 61; refine (HW.out _).mono ?_))
       rintro e w2 ⟨rfl, hb2⟩
       go_wp2_with fail
       go_ret
       exact ⟨rfl, ((below_alloc HB.out _)).trans (hb2.mono (by have := HB.out.size; simp at this ⊢; omega))⟩)
    | (go_ret
       exact ⟨rfl, below_alloc HB.out _⟩)
def overS (n side : Int) : Bool := decide (0 ≤ n ∧ n < 90 ∧ (side = 0 ∨ side = 1)) && overN n.toNat side
theorem Over_c (n side : Int) (w : World) : Calls Try.prog 26 #[.int .i64 n, .int .i64 side] w fun e w' => e = .returned (.bool (overS n side)) ∧ Below w.heap.size w w' := by
  by_cases hz : 0 ≤ n ∧ n < 90 ∧ (side = 0 ∨ side = 1)
  · obtain ⟨h0, h1, h2⟩ := hz
    obtain ⟨m, rfl⟩ : ∃ m : Nat, n = m := ⟨n.toNat, by omega⟩
    have HN := Aside0.mk (fun W => seen_yes m (by omega) side h2 W)
    have ho : overS (m : Int) side = ovrF (spR m side) := by
      unfold overS
      rw [decide_eq_true ⟨h0, h1, h2⟩, Bool.true_and]
      have := sp_lt ⟨m, by omega⟩
      rcases h2 with rfl | rfl
      · exact this.2.2.2.2.1.symm
      · exact this.2.2.2.2.2.symm
    rw [ho]
    unfold spV at HN
    have HO := Aside0.mk (fun W => over_c (spF m side) (spR m side) W)
    generalize spF m side = f at HN HO
    generalize spR m side = r at HN HO
    clear h0 h1 h2 ho
    have hu := Try.underlying64
    go_enter Try.func26, Try.ntmps26
    go_wp2_with (first | (go_at_call 56; refine (HN.out _).mono ?_; rintro e w1 ⟨rfl, hb⟩; have HB := Aside0.mk (below_alloc hb (.cells #[.int .i64 (f : Int), .int .i64 (r : Int)] 64)); clear hb) | (go_at_call 57; refine (HO.out _).mono ?_; rintro e w2 ⟨rfl, hb2⟩))
    go_ret
    exact ⟨rfl, HB.out.trans (hb2.mono HB.out.size)⟩
  · have HN := Aside0.mk (fun W => seen_no n side (by omega) W)
    rw [show overS n side = false by unfold overS; rw [decide_eq_false hz]; rfl]
    clear hz
    have hu := Try.underlying64
    go_enter Try.func26, Try.ntmps26
    go_wp2_with (first | (go_at_call 56; refine (HN.out _).mono ?_; rintro e w1 ⟨rfl, hb⟩))
    go_ret
    exact ⟨rfl, below_alloc hb _⟩
/-- How many of a piece there may be. -/
def mostN (x : Nat) : Nat := if kindN x = 0 then 0 else if kindN x = 75 then 1 else if kindN x = 80 then 5 else 2
theorem most_c (x : Nat) (hx : x < 256) (w : World) : Calls Try.prog 65 #[.int .u8 (x : Int)] w fun e w' => e = .returned (.int .i64 (mostN x : Int)) ∧ w' = w := by
  have HK := Aside0.mk (kind_c x hx w)
  unfold mostN
  generalize kindN x = k at HK
  have h0 : ((k : Int) == 0) = decide (k = 0) := by rw [Bool.eq_iff_iff]; simp
  have h1 : ((k : Int) == 75) = decide (k = 75) := by rw [Bool.eq_iff_iff]; simp; omega
  have h2 : ((k : Int) == 80) = decide (k = 80) := by rw [Bool.eq_iff_iff]; simp; omega
  clear hx
  go_enter Try.func65, Try.ntmps65
  go_wp2_with (first | (go_at_call 24; refine HK.out.mono ?_; rintro e w' ⟨rfl, rfl⟩))
  all_goals
    go_ret
    refine ⟨ret_int ?_, rfl⟩
    clear h0 h1 h2 HK
    simp_all
end Go.Proofs.Ytcanbidenhcohaa.K

/- Walks: the references of boards and places. -/
namespace Go.Proofs.Ytcanbidenhcohaa.K
open Go.RowKit Go.Lib Go.Proofs.YtcanbidenhcohaaW.PrintWords Go.Proofs.Ytcanbidenhcohaa.Sp
set_option linter.unusedVariables false
set_option linter.unusedSimpArgs false
attribute [local go_sem] cel_get   -- for this text's walks alone
theorem rside_c (x : Nat) (hx : x < 256) (w : World) : Calls Try.prog 38 #[.int .u8 (x : Int)] w fun e w' => e = .returned (.int .i64 (sideN x)) ∧ w' = w := by
  go_enter Try.func38, Try.ntmps38
  go_wp2_with fail
  all_goals
    go_ret
    refine ⟨ret_int ?_, rfl⟩
    unfold sideN isRed isBlack
    simp only [beq_iff_eq, beq_eq_false_iff_ne, ne_eq, Bool.or_eq_true] at *
    repeat' (split)
    all_goals first | rfl | (exfalso; omega)
theorem rkind_c (x : Nat) (hx : x < 256) (w : World) : Calls Try.prog 33 #[.int .u8 (x : Int)] w fun e w' => e = .returned (.int .u8 (kindN x : Int)) ∧ w' = w := by
  have HS := Aside0.mk (rside_c x hx w)
  cases hr : isRed x
  case true =>
    have hs : sideN x = 0 := by unfold sideN; rw [hr]; rfl
    have hk : kindN x = x := by unfold kindN; rw [hr]; rfl
    rw [hs] at HS
    rw [hk]
    clear hr hs hk hx
    go_enter Try.func33, Try.ntmps33
    go_wp2_with (go_at_call 38; refine HS.out.mono ?_; rintro e w' ⟨rfl, rfl⟩)
    go_ret
    exact ⟨rfl, rfl⟩
  case false =>
  cases hb : isBlack x
  case true =>
    have hs : sideN x = 1 := by unfold sideN; rw [hr, hb]; rfl
    have hk : kindN x = x - 32 := by unfold kindN; rw [hr, hb]; rfl
    have hlt := black_lt hb
    have HM := Aside0.mk (show ((((x : Nat) : Int) - 97) % 256 + 65) % 256 = ((x - 32 : Nat) : Int) by omega)
    rw [hs] at HS
    rw [hk]
    clear hr hs hk hb hlt hx
    go_enter Try.func33, Try.ntmps33
    go_wp2_with (go_at_call 38; refine HS.out.mono ?_; rintro e w' ⟨rfl, rfl⟩)
    go_ret
    exact ⟨ret_int HM.out, rfl⟩
  case false =>
    have hs : sideN x = -1 := by unfold sideN; rw [hr, hb]; rfl
    have hk : kindN x = 0 := by unfold kindN; rw [hr, hb]; rfl
    rw [hs] at HS
    rw [hk]
    clear hr hs hk hb hx
    go_enter Try.func33, Try.ntmps33
    go_wp2_with (go_at_call 38; refine HS.out.mono ?_; rintro e w' ⟨rfl, rfl⟩)
    go_ret
    exact ⟨rfl, rfl⟩
theorem board_iff (s : ByteArray) (h : s.size = 90) : isBoard s = true ↔ ∀ n, n < 90 → cellB (cel s n) = true := by
  unfold isBoard
  simp only [h, beq_self_eq_true, Bool.true_and, List.all_eq_true]
  constructor
  · intro hall n hn
    have := hall _ (List.getElem_mem (l := s.data.toList) (n := n) (by rw [Array.length_toList]; show n < s.size; omega))
    unfold cel; rw [Sp.get_at s n (by omega)]; exact this
  · intro hall b hb
    obtain ⟨n, hn, rfl⟩ := List.getElem_of_mem hb
    have hn' : n < 90 := by rw [Array.length_toList] at hn; have : s.data.size = 90 := h; omega
    have := hall n hn'
    unfold cel at this; rw [Sp.get_at s n (by omega)] at this; exact this
theorem cellB_side' (x : Nat) (hx : x < 256) : cellB x = (x == 46 || decide (0 ≤ sideN x)) := cellB_side ⟨x, hx⟩
set_option maxRecDepth 100000 in
theorem ris_c (s : ByteArray) (hs : s.size ≤ maxLen) (w : World) : Calls Try.prog 47 #[.string s] w fun e w' => e = .returned (.bool (isBoard s)) ∧ w' = w := by
  have HSI := Aside0.mk hs
  clear hs
  by_cases h90 : s.size = 90
  case neg =>
    have b1 : ((s.size : Int) == 90) = false := by simp; omega
    have b2 : ((s.size : Int) != 90) = true := by simp [bne, b1]
    rw [show isBoard s = false by unfold isBoard; simp [h90]]
    clear h90
    go_enter Try.func47, Try.ntmps47
    go_wp2_with fail
    go_ret
    exact ⟨rfl, rfl⟩
  have b1 : ((s.size : Int) == 90) = true := by simp; omega
  have b2 : ((s.size : Int) != 90) = false := by simp [bne, b1]
  have HI := Aside0.mk (board_iff s h90)
  have H90 := Aside0.mk h90
  clear h90
  go_enter Try.func47, Try.ntmps47
  go_wp2_with fail
  go_loopg [3] 90 (fun gg s2 wr => ∃ i : Nat, s2 = .int .i64 i ∧ i + gg = 90 ∧ wr = w ∧ Aside0 (∀ n, n < i → cellB (cel s n) = true))
  case atStart => exact ⟨0, rfl, by omega, rfl, ⟨fun n hn => by omega⟩⟩
  case round =>
    obtain ⟨i, rfl, hig, rfl, HA⟩ := hrel
    have HG := Aside0.mk hig
    by_cases hlt : i < 90
    · have c0 : 0 ≤ (i : Int) := by omega
      have c1 : (i : Int) < 90 := by omega
      have c2 : (i : Int) < (s.size : Int) := by have := H90.out; omega
      have HS := Aside0.mk (fun W => rside_c (cel s i) (cel_lt s i) W)
      have HB := Aside0.mk (cellB_side' (cel s i) (cel_lt s i))
      generalize hx : cel s i = x at HS HB
      have hq : (((x : Nat) : Int) == 46) = (x == 46) := by rw [Bool.eq_iff_iff, beq_iff_eq, beq_iff_eq]; omega
      have hq2 : (((x : Nat) : Int) != 46) = !(x == 46) := by rw [bne, hq]
      have HXX := Aside0.mk hx
      clear hig
      go_wp2_with (go_at_call 38; refine (HS.out _).mono ?_; rintro e w' ⟨rfl, rfl⟩)
      all_goals
        first
        | (go_ret
           refine ⟨ret_bool ?_, rfl⟩
           have hcb : cellB x = false := by rw [HB.out]; simp_all
           cases hb : isBoard s
           · rfl
           · have := HI.out.1 hb i hlt; rw [HXX.out, hcb] at this; cases this)
        | (have hcb : cellB x = true := by rw [HB.out]; simp_all
           have HCB := Aside0.mk hcb
           clear hcb
           go_roundg (90 - (i + 1))
           case measure => have := HG.out; omega
           case rel => exact ⟨i + 1, by go_num, by have := HG.out; omega, rfl, ⟨fun n hn => by
             by_cases h : n = i
             · subst h; rw [HXX.out]; exact HCB.out
             · exact HA.out n (by omega)⟩⟩)
    · have c1 : decide ((i : Int) < 90) = false := decide_eq_false (by omega)
      clear hig
      go_wp2_with fail
      go_ret
      have : isBoard s = true := HI.out.2 (fun n hn => HA.out n (by have := HG.out; omega))
      exact ⟨ret_bool this.symm, rfl⟩
theorem rfile_c (n : Nat) (hn : n < 90) (w : World) : Calls Try.prog 85 #[.int .i64 (n : Int)] w fun e w' => e = .returned (.int .i64 ((n % 9 : Nat) : Int)) ∧ w' = w := by
  have h0 : 0 ≤ (n : Int) := by omega
  have h1 : (n : Int) ≤ 89 := by omega
  clear hn
  go_enter Try.func85, Try.ntmps85
  go_wp2_with fail
  go_ret
  exact ⟨ret_int (by omega), rfl⟩
theorem rrank_c (n : Nat) (hn : n < 90) (w : World) : Calls Try.prog 112 #[.int .i64 (n : Int)] w fun e w' => e = .returned (.int .i64 ((n / 9 : Nat) : Int)) ∧ w' = w := by
  have h0 : 0 ≤ (n : Int) := by omega
  have h1 : (n : Int) ≤ 89 := by omega
  clear hn
  go_enter Try.func112, Try.ntmps112
  go_wp2_with fail
  go_ret
  exact ⟨ret_int (by omega), rfl⟩
theorem real_c (n side : Int) (w : World) : Calls Try.prog 84 #[.int .i64 n, .int .i64 side] w fun e w' => e = .returned (.bool (decide (0 ≤ n ∧ n < 90 ∧ (side = 0 ∨ side = 1)))) ∧ w' = w := by
  go_enter Try.func84, Try.ntmps84
  go_wp2_with fail
  all_goals
    go_ret
    refine ⟨ret_bool ?_, rfl⟩
    rw [Bool.eq_iff_iff]; simp_all
    try omega
theorem own_c (n : Nat) (hn : n < 90) (side : Int) (w : World) : Calls Try.prog 86 #[.int .i64 (n : Int), .int .i64 side] w fun e w' => e = .returned (.int .i64 (ownR n side : Int)) ∧ w' = w := by
  have HR := Aside0.mk (rrank_c n hn w)
  have hm : n / 9 < 10 := by omega
  have ho : ownR n side = if side = 1 then 9 - n / 9 else n / 9 := rfl
  rw [ho]
  clear ho
  generalize n / 9 = r at *
  have h0 : 0 ≤ (r : Int) := by omega
  have h9 : (r : Int) < 10 := by omega
  clear hn
  by_cases hz : side = 1
  · rw [if_pos hz]
    have b1 : (side == 1) = true := by simp [hz]
    clear hz
    go_enter Try.func86, Try.ntmps86
    go_wp2_with (go_at_call 112; refine HR.out.mono ?_; rintro e w' ⟨rfl, rfl⟩)
    go_ret
    exact ⟨ret_int (by omega), rfl⟩
  · rw [if_neg hz]
    have b1 : (side == 1) = false := by simp [hz]
    clear hz
    go_enter Try.func86, Try.ntmps86
    go_wp2_with (go_at_call 112; refine HR.out.mono ?_; rintro e w' ⟨rfl, rfl⟩)
    go_ret
    exact ⟨rfl, rfl⟩
theorem rover_c (n : Nat) (hn : n < 90) (side : Int) (hs : side = 0 ∨ side = 1) (w : World) : Calls Try.prog 123 #[.int .i64 (n : Int), .int .i64 side] w fun e w' => e = .returned (.bool (overN n side)) ∧ w' = w := by
  have HL := real_c n side w
  rw [show decide (0 ≤ (n : Int) ∧ (n : Int) < 90 ∧ (side = 0 ∨ side = 1)) = true from decide_eq_true ⟨by omega, by omega, hs⟩] at HL
  have HL := Aside0.mk HL
  have HO := Aside0.mk (own_c n hn side w)
  unfold overN
  generalize ownR n side = r at *
  clear hn hs
  go_enter Try.func123, Try.ntmps123
  go_wp2_with (first | (go_at_call 84; refine HL.out.mono ?_; rintro e w' ⟨rfl, rfl⟩) | (go_at_call 86; refine HO.out.mono ?_; rintro e w' ⟨rfl, rfl⟩))
  go_ret
  exact ⟨ret_bool (by rw [Bool.eq_iff_iff]; simp; omega), rfl⟩
theorem rpalace_c (n : Nat) (hn : n < 90) (side : Int) (hs : side = 0 ∨ side = 1) (w : World) : Calls Try.prog 87 #[.int .i64 (n : Int), .int .i64 side] w fun e w' => e = .returned (.bool (palaceN n side)) ∧ w' = w := by
  have HL := real_c n side w
  rw [show decide (0 ≤ (n : Int) ∧ (n : Int) < 90 ∧ (side = 0 ∨ side = 1)) = true from decide_eq_true ⟨by omega, by omega, hs⟩] at HL
  have HL := Aside0.mk HL
  have HO := Aside0.mk (own_c n hn side w)
  have HF := Aside0.mk (rfile_c n hn w)
  unfold palaceN
  generalize ownR n side = r at *
  generalize n % 9 = f at *
  clear hn hs
  go_enter Try.func87, Try.ntmps87
  go_wp2_with (first | (go_at_call 84; refine HL.out.mono ?_; rintro e w' ⟨rfl, rfl⟩) | (go_at_call 86; refine HO.out.mono ?_; rintro e w' ⟨rfl, rfl⟩) | (go_at_call 85; refine HF.out.mono ?_; rintro e w' ⟨rfl, rfl⟩))
  all_goals
    go_ret
    refine ⟨ret_bool ?_, rfl⟩
    clear HL HO HF
    rw [Bool.eq_iff_iff]; simp_all
    try omega
def radvF (f r : Nat) : Bool := (f == 4 && r == 1) || ((f == 3 || f == 5) && (r == 0 || r == 2))
def releF (f r : Nat) : Bool := ((r == 0 || r == 4) && (f == 2 || f == 6)) || (r == 2 && (f == 0 || f == 4 || f == 8))
theorem radvisor_c (f r : Nat) (w : World) : Calls Try.prog 88 #[.int .i64 (f : Int), .int .i64 (r : Int)] w fun e w' => e = .returned (.bool (radvF f r)) ∧ w' = w := by
  go_enter Try.func88, Try.ntmps88
  go_wp2_with fail
  all_goals
    go_ret
    refine ⟨ret_bool ?_, rfl⟩
    rw [Bool.eq_iff_iff]; unfold radvF; simp_all
    try omega
theorem relephant_c (f r : Nat) (w : World) : Calls Try.prog 89 #[.int .i64 (f : Int), .int .i64 (r : Int)] w fun e w' => e = .returned (.bool (releF f r)) ∧ w' = w := by
  go_enter Try.func89, Try.ntmps89
  go_wp2_with fail
  all_goals
    go_ret
    refine ⟨ret_bool ?_, rfl⟩
    rw [Bool.eq_iff_iff]; unfold releF; simp_all
    try omega
end Go.Proofs.Ytcanbidenhcohaa.K

/- Walks: the references of May and of reach. -/
namespace Go.Proofs.Ytcanbidenhcohaa.K
open Go.RowKit Go.Lib Go.Proofs.YtcanbidenhcohaaW.PrintWords Go.Proofs.Ytcanbidenhcohaa.Sp
set_option linter.unusedVariables false
set_option linter.unusedSimpArgs false
attribute [local go_sem] cel_get   -- for this text's walks alone
def rmayP (x n : Nat) : Bool :=
  if kindN x = 75 then palaceN n (sideN x) else if kindN x = 65 then radvF (n % 9) (ownR n (sideN x)) else if kindN x = 66 then releF (n % 9) (ownR n (sideN x)) else if kindN x = 80 then decide (5 ≤ ownR n (sideN x)) || (decide (3 ≤ ownR n (sideN x)) && n % 9 % 2 == 0) else true
theorem rmay_eq : ∀ x ∈ letters, 0 ≤ sideN x → ∀ n : Fin 90, mayN x n.1 = rmayP x n.1 := by decide +kernel
set_option maxRecDepth 100000 in
theorem rmay_c (x : Nat) (hs : 0 ≤ sideN x) (n : Nat) (hn : n < 90) (w : World) : Calls Try.prog 67 #[.int .u8 (x : Int), .int .i64 (n : Int)] w fun e w' => e = .returned (.bool (mayN x n)) ∧ w' = w := by
  have hx : x < 256 := by
    have : ∀ x ∈ letters, x < 256 := by decide
    exact this x (side_mem hs)
  have HS := Aside0.mk (rside_c x hx w)
  have HK := Aside0.mk (rkind_c x hx w)
  have h01 := side01 hs
  have HL := real_c n (sideN x) w
  rw [show decide (0 ≤ (n : Int) ∧ (n : Int) < 90 ∧ (sideN x = 0 ∨ sideN x = 1)) = true from decide_eq_true ⟨by omega, by omega, h01⟩] at HL
  have HL := Aside0.mk HL
  have HO := Aside0.mk (own_c n hn (sideN x) w)
  have HF := Aside0.mk (rfile_c n hn w)
  have HP := Aside0.mk (rpalace_c n hn (sideN x) h01 w)
  have HA := Aside0.mk (radvisor_c (n % 9) (ownR n (sideN x)) w)
  have HE := Aside0.mk (relephant_c (n % 9) (ownR n (sideN x)) w)
  rw [rmay_eq x (side_mem hs) hs ⟨n, hn⟩]
  have hk := kinds hs
  have s0 : decide (sideN x < 0) = false := decide_eq_false (by omega)
  unfold rmayP
  simp only
  generalize palaceN n (sideN x) = p at *
  generalize ownR n (sideN x) = r at *
  have hf : n % 9 < 9 := Nat.mod_lt _ (by omega)
  generalize n % 9 = f at *
  generalize sideN x = s at *
  have f0 : 0 ≤ (f : Int) := by omega
  have f1 : (f : Int) < 9 := by omega
  clear h01 hs hx hn hf
  rcases hk with hk | hk | hk | hk | hk | hk | hk
  all_goals
    rw [hk] at HK
    simp only [hk, if_true, if_false, reduceCtorEq, Nat.reduceEqDiff]
    clear hk
    go_enter Try.func67, Try.ntmps67
    go_wp2_with (first | (go_at_call 38; refine HS.out.mono ?_; rintro e w' ⟨rfl, rfl⟩) | (go_at_call 84; refine HL.out.mono ?_; rintro e w' ⟨rfl, rfl⟩) | (go_at_call 86; refine HO.out.mono ?_; rintro e w' ⟨rfl, rfl⟩) | (go_at_call 85; refine HF.out.mono ?_; rintro e w' ⟨rfl, rfl⟩) | (go_at_call 33; refine HK.out.mono ?_; rintro e w' ⟨rfl, rfl⟩) | (go_at_call 87; refine HP.out.mono ?_; rintro e w' ⟨rfl, rfl⟩) | (go_at_call 88; refine HA.out.mono ?_; rintro e w' ⟨rfl, rfl⟩) | (go_at_call 89; refine HE.out.mono ?_; rintro e w' ⟨rfl, rfl⟩))
  all_goals
    go_ret
    first
    | exact ⟨rfl, rfl⟩
    | (refine ⟨ret_bool ?_, rfl⟩
       clear HS HK HL HO HF HP HA HE
       rw [Bool.eq_iff_iff]; simp_all
       try omega)
theorem rmost_c (x : Nat) (hx : x < 256) (w : World) : Calls Try.prog 66 #[.int .u8 (x : Int)] w fun e w' => e = .returned (.int .i64 (mostN x : Int)) ∧ w' = w := by
  have HK := Aside0.mk (rkind_c x hx w)
  unfold mostN
  generalize kindN x = k at HK
  have h0 : ((k : Int) == 0) = decide (k = 0) := by rw [Bool.eq_iff_iff]; simp
  have h1 : ((k : Int) == 75) = decide (k = 75) := by rw [Bool.eq_iff_iff]; simp; omega
  have h2 : ((k : Int) == 80) = decide (k = 80) := by rw [Bool.eq_iff_iff]; simp; omega
  clear hx
  go_enter Try.func66, Try.ntmps66
  go_wp2_with (first | (go_at_call 33; refine HK.out.mono ?_; rintro e w' ⟨rfl, rfl⟩))
  all_goals
    go_ret
    refine ⟨ret_int ?_, rfl⟩
    clear h0 h1 h2 HK
    simp_all
theorem away_c (a b : Nat) (ha : a < 90) (hb : b < 90) (w : World) : Calls Try.prog 107 #[.int .i64 (a : Int), .int .i64 (b : Int)] w fun e w' => e = .returned (.int .i64 (away a b : Int)) ∧ w' = w := by
  have h0 : 0 ≤ (a : Int) := by omega
  have h1 : 0 ≤ (b : Int) := by omega
  have h2 : (a : Int) < 90 := by omega
  have h3 : (b : Int) < 90 := by omega
  clear ha hb
  by_cases h : (a : Int) ≤ (b : Int)
  all_goals
    go_enter Try.func107, Try.ntmps107
    go_wp2_with fail
    go_ret
    exact ⟨ret_int (by unfold away; split <;> omega), rfl⟩
end Go.Proofs.Ytcanbidenhcohaa.K

/- Walks: what stands between two squares. -/
namespace Go.Proofs.Ytcanbidenhcohaa.K
open Go.RowKit Go.Lib Go.Proofs.YtcanbidenhcohaaW.PrintWords Go.Proofs.Ytcanbidenhcohaa.Sp
set_option linter.unusedVariables false
set_option linter.unusedSimpArgs false
attribute [local go_sem] cel_get   -- for this text's walks alone
/-- The squares between, as the loop meets them. -/
theorem betwL_row (a b : Nat) (h : a ≠ b) (hr : a / 9 = b / 9) : ∃ m, betwL a b = (List.range m).map (fun j => min a b + 1 * (j + 1)) ∧ max a b = min a b + m + 1 := by
  refine ⟨away a b - 1, ?_, ?_⟩
  · unfold betwL; rw [if_pos hr]; apply List.map_congr_left; intro i _; show min a b + 1 + i = min a b + 1 * (i + 1); omega
  · unfold away; split <;> omega
theorem betwL_col (a b : Nat) (h : a ≠ b) (hr : a / 9 ≠ b / 9) (hc : a % 9 = b % 9) : ∃ m, betwL a b = (List.range m).map (fun j => min a b + 9 * (j + 1)) ∧ max a b = min a b + 9 * m + 9 := by
  refine ⟨away (a / 9) (b / 9) - 1, ?_, ?_⟩
  · unfold betwL; rw [if_neg hr, if_pos hc]
  · unfold away; split <;> omega
/-- How many of the first ones are pieces. -/
def cntN (s : ByteArray) (mn st j : Nat) : Nat := ((List.range j).map (fun j => mn + st * (j + 1))).countP (fun i => cel s i != 46)
theorem cntN_succ (s : ByteArray) (mn st j : Nat) : cntN s mn st (j + 1) = cntN s mn st j + (if cel s (mn + st * (j + 1)) = 46 then 0 else 1) := by
  unfold cntN
  rw [List.range_succ, List.map_append, List.countP_append]
  simp [List.countP_cons]
  try (split <;> simp_all)
theorem cntN_le (s : ByteArray) (mn st j : Nat) : cntN s mn st j ≤ j := by
  unfold cntN
  refine Nat.le_trans List.countP_le_length ?_
  simp
set_option maxRecDepth 100000 in
set_option maxHeartbeats 1000000 in
theorem rbetween_c (s : ByteArray) (hs : s.size = 90) (a b : Nat) (ha : a < 90) (hb : b < 90) (w : World) : Calls Try.prog 52 #[.string s, .int .i64 (a : Int), .int .i64 (b : Int)] w fun e w' => e = .returned (.int .i64 (betwN (cel s) a b)) ∧ w' = w := by
  have a0 : 0 ≤ (a : Int) := by omega
  have a1 : (a : Int) < 90 := by omega
  have b0 : 0 ≤ (b : Int) := by omega
  have b1 : (b : Int) < 90 := by omega
  have q0 : ((a : Int) == (b : Int)) = (a == b) := by rw [Bool.eq_iff_iff, beq_iff_eq, beq_iff_eq]; omega
  have q1 : ((a : Int) / 9 == (b : Int) / 9) = (a / 9 == b / 9) := by rw [Bool.eq_iff_iff, beq_iff_eq, beq_iff_eq]; omega
  have q2 : ((a : Int) % 9 == (b : Int) % 9) = (a % 9 == b % 9) := by rw [Bool.eq_iff_iff, beq_iff_eq, beq_iff_eq]; omega
  by_cases h : a = b
  · have e0 : (a == b) = true := by simp [h]
    rw [show betwN (cel s) a b = -1 by unfold betwN; rw [if_pos h]]
    rw [e0] at q0
    clear h q1 q2 e0
    go_enter Try.func52, Try.ntmps52
    go_wp2_with fail
    go_ret
    exact ⟨rfl, rfl⟩
  have e0 : (a == b) = false := by simp [h]
  rw [e0] at q0
  by_cases hr : a / 9 = b / 9
  case neg =>
    have e1 : (a / 9 == b / 9) = false := by simp [hr]
    rw [e1] at q1
    by_cases hc : a % 9 = b % 9
    case neg =>
      rw [show betwN (cel s) a b = -1 by unfold betwN; rw [if_neg h, if_neg (by omega)]]
      have e2 : (a % 9 == b % 9) = false := by simp [hc]
      rw [e2] at q2
      clear h hr hc e0 e1 e2
      go_enter Try.func52, Try.ntmps52
      go_wp2_with fail
      go_ret
      exact ⟨rfl, rfl⟩
    have e2 : (a % 9 == b % 9) = true := by simp [hc]
    rw [e2] at q2
    obtain ⟨m, hL, hM⟩ := betwL_col a b h hr hc
    rw [show betwN (cel s) a b = (cntN s (min a b) 9 m : Int) by unfold betwN cntN; rw [if_neg h, if_pos (by omega), hL]]
    have HX := Aside0.mk (show max (a : Int) (b : Int) = ((min a b : Nat) : Int) + 9 * m + 9 by omega)
    have HN := Aside0.mk (show min (a : Int) (b : Int) = ((min a b : Nat) : Int) by omega)
    have HLT := Aside0.mk (show min a b + 9 * m < 90 - 9 by omega)
    generalize min a b = mn at *
    have HS := Aside0.mk hs
    clear hL hM e0 e1 e2 h hr hc hs
    go_enter Try.func52, Try.ntmps52
    go_wp2_with (fail)
    go_loopg [8, 9] m (fun gg s8 s9 wr => ∃ j i c : Nat, s8 = .int .i64 c ∧ s9 = .int .i64 i ∧ j + gg = m ∧ wr = w ∧ Aside0 (i = mn + 9 * (j + 1) ∧ c = cntN s mn 9 j))
    case atStart => exact ⟨0, mn + 9, 0, rfl, by rw [HN.out]; rfl, by omega, rfl, ⟨by omega, rfl⟩⟩
    case round =>
      obtain ⟨j, i, c, rfl, rfl, hjg, rfl, HI⟩ := hrel
      have HG := Aside0.mk hjg
      clear hjg
      by_cases hlt : j < m
      · have k1 : decide ((i : Int) < max (a : Int) (b : Int)) = true := decide_eq_true (by rw [HX.out, HI.out.1]; omega)
        have k2 : 0 ≤ (i : Int) := by omega
        have k3 : (i : Int) < (s.size : Int) := by rw [HS.out, HI.out.1]; have := HLT.out; omega
        have k4 : (i : Int) ≤ 90 := by rw [HI.out.1]; have := HLT.out; omega
        have k5 : (c : Int) ≤ 90 := by rw [HI.out.2]; have := cntN_le s mn 9 j; have := HLT.out; omega
        have hcs := cntN_succ s mn 9 j
        rw [← HI.out.1, ← HI.out.2] at hcs
        generalize hx : cel s i = x at hcs
        have HX2 := Aside0.mk hcs
        have q : ((x : Int) != 46) = (x != 46) := by rw [Bool.eq_iff_iff, bne_iff_ne, bne_iff_ne]; omega
        clear hcs
        cases h46 : (x != 46)
        all_goals
          rw [h46] at q
          have H46 := Aside0.mk h46
          clear h46
          go_wp2_with fail
          go_roundg (m - (j + 1))
          case measure => have := HG.out; omega
          case rel =>
            have h46 := H46.out
            have hcs := HX2.out
            first
            | (rw [if_pos (by simpa using h46)] at hcs; exact ⟨j + 1, i + 9, c, rfl, by go_num, by have := HG.out; omega, rfl, ⟨by have := HI.out.1; omega, by omega⟩⟩)
            | (rw [if_neg (by simpa using h46)] at hcs; exact ⟨j + 1, i + 9, c + 1, by go_num, by go_num, by have := HG.out; omega, rfl, ⟨by have := HI.out.1; omega, by omega⟩⟩)
      · have k1 : decide ((i : Int) < max (a : Int) (b : Int)) = false := decide_eq_false (by rw [HX.out, HI.out.1]; have := HG.out; omega)
        go_wp2_with fail
        go_ret
        exact ⟨ret_int (by rw [HI.out.2, show j = m by have := HG.out; omega]), rfl⟩
  have e1 : (a / 9 == b / 9) = true := by simp [hr]
  rw [e1] at q1
  obtain ⟨m, hL, hM⟩ := betwL_row a b h hr
  rw [show betwN (cel s) a b = (cntN s (min a b) 1 m : Int) by unfold betwN cntN; rw [if_neg h, if_pos (by omega), hL]]
  have HX := Aside0.mk (show max (a : Int) (b : Int) = ((min a b : Nat) : Int) + 1 * m + 1 by omega)
  have HN := Aside0.mk (show min (a : Int) (b : Int) = ((min a b : Nat) : Int) by omega)
  have HLT := Aside0.mk (show min a b + 1 * m < 90 - 1 by omega)
  generalize min a b = mn at *
  have HS := Aside0.mk hs
  clear hL hM e0 e1 q2 h hr hs
  go_enter Try.func52, Try.ntmps52
  go_wp2_with (fail)
  go_loopg [8, 9] m (fun gg s8 s9 wr => ∃ j i c : Nat, s8 = .int .i64 c ∧ s9 = .int .i64 i ∧ j + gg = m ∧ wr = w ∧ Aside0 (i = mn + 1 * (j + 1) ∧ c = cntN s mn 1 j))
  case atStart => exact ⟨0, mn + 1, 0, rfl, by rw [HN.out]; rfl, by omega, rfl, ⟨by omega, rfl⟩⟩
  case round =>
    obtain ⟨j, i, c, rfl, rfl, hjg, rfl, HI⟩ := hrel
    have HG := Aside0.mk hjg
    clear hjg
    by_cases hlt : j < m
    · have k1 : decide ((i : Int) < max (a : Int) (b : Int)) = true := decide_eq_true (by rw [HX.out, HI.out.1]; omega)
      have k2 : 0 ≤ (i : Int) := by omega
      have k3 : (i : Int) < (s.size : Int) := by rw [HS.out, HI.out.1]; have := HLT.out; omega
      have k4 : (i : Int) ≤ 90 := by rw [HI.out.1]; have := HLT.out; omega
      have k5 : (c : Int) ≤ 90 := by rw [HI.out.2]; have := cntN_le s mn 1 j; have := HLT.out; omega
      have hcs := cntN_succ s mn 1 j
      rw [← HI.out.1, ← HI.out.2] at hcs
      generalize hx : cel s i = x at hcs
      have HX2 := Aside0.mk hcs
      have q : ((x : Int) != 46) = (x != 46) := by rw [Bool.eq_iff_iff, bne_iff_ne, bne_iff_ne]; omega
      clear hcs
      cases h46 : (x != 46)
      all_goals
        rw [h46] at q
        have H46 := Aside0.mk h46
        clear h46
        go_wp2_with fail
        go_roundg (m - (j + 1))
        case measure => have := HG.out; omega
        case rel =>
          have h46 := H46.out
          have hcs := HX2.out
          first
          | (rw [if_pos (by simpa using h46)] at hcs; exact ⟨j + 1, i + 1, c, rfl, by go_num, by have := HG.out; omega, rfl, ⟨by have := HI.out.1; omega, by omega⟩⟩)
          | (rw [if_neg (by simpa using h46)] at hcs; exact ⟨j + 1, i + 1, c + 1, by go_num, by go_num, by have := HG.out; omega, rfl, ⟨by have := HI.out.1; omega, by omega⟩⟩)
    · have k1 : decide ((i : Int) < max (a : Int) (b : Int)) = false := decide_eq_false (by rw [HX.out, HI.out.1]; have := HG.out; omega)
      go_wp2_with fail
      go_ret
      exact ⟨ret_int (by rw [HI.out.2, show j = m by have := HG.out; omega]), rfl⟩
end Go.Proofs.Ytcanbidenhcohaa.K

/- Walks: the reference of reach. -/
namespace Go.Proofs.Ytcanbidenhcohaa.K
open Go.RowKit Go.Lib Go.Proofs.YtcanbidenhcohaaW.PrintWords Go.Proofs.Ytcanbidenhcohaa.Sp
set_option linter.unusedVariables false
set_option linter.unusedSimpArgs false
attribute [local go_sem] cel_get   -- for this text's walks alone
theorem beq46 (x : Nat) : ((x : Int) == 46) = (x == 46) := by rw [Bool.eq_iff_iff, beq_iff_eq, beq_iff_eq]; omega
theorem bne46 (x : Nat) : ((x : Int) != 46) = (x != 46) := by rw [bne, beq46, bne]
theorem rhalf_c (s : ByteArray) (p q a st : Nat) (hp : p < 90) (hq : q < 90) (h1 : q > p → a + st < s.size) (h2 : ¬ q > p → st ≤ a ∧ a < s.size) (ha : a < 90) (hst : st < 10) (w : World) :
    Calls Try.prog 122 #[.int .i64 (p : Int), .int .i64 (q : Int), .int .i64 (a : Int), .string s, .int .i64 (st : Int)] w fun e w' => e = .returned (.bool (cel s (if q > p then a + st else a - st) == 46)) ∧ w' = w := by
  by_cases h : q > p
  · have k0 : decide (p < q) = true := decide_eq_true (by omega)
    have k1 : 0 ≤ (a : Int) + (st : Int) := by omega
    have k2 : (a : Int) + (st : Int) < (s.size : Int) := by have := h1 h; omega
    have k3 : (a : Int) + (st : Int) ≤ 100 := by omega
    have k4 : ((a : Int) + (st : Int)).toNat = a + st := by omega
    rw [if_pos h]
    clear h h1 h2 hp hq ha hst
    go_enter Try.func122, Try.ntmps122
    go_wp2_with fail
    go_ret
    exact ⟨ret_bool (beq46 _), rfl⟩
  · have k0 : decide (p < q) = false := decide_eq_false (by omega)
    have k1 : 0 ≤ (a : Int) - (st : Int) := by have := h2 h; omega
    have k5 : (st : Int) ≤ (a : Int) := by have := h2 h; omega
    have k2 : (a : Int) - (st : Int) < (s.size : Int) := by have := h2 h; omega
    have k3 : (a : Int) - (st : Int) ≤ 100 := by omega
    have k4 : ((a : Int) - (st : Int)).toNat = a - st := by omega
    rw [if_neg h]
    clear h h1 h2 hp hq ha hst
    go_enter Try.func122, Try.ntmps122
    go_wp2_with fail
    go_ret
    exact ⟨ret_bool (beq46 _), rfl⟩
set_option maxRecDepth 100000 in
theorem rhorse_c (s : ByteArray) (hs : s.size = 90) (a b : Nat) (ha : a < 90) (hb : b < 90) (w : World) : Calls Try.prog 108 #[.string s, .int .i64 (a : Int), .int .i64 (b : Int)] w fun e w' => e = .returned (.bool (horseN (cel s) a b)) ∧ w' = w := by
  have HF := away_c (a % 9) (b % 9) (by omega) (by omega) w
  have HR := away_c (a / 9) (b / 9) (by omega) (by omega) w
  rw [show ((a % 9 : Nat) : Int) = (a : Int) % 9 by omega, show ((b % 9 : Nat) : Int) = (b : Int) % 9 by omega] at HF
  rw [show ((a / 9 : Nat) : Int) = (a : Int) / 9 by omega, show ((b / 9 : Nat) : Int) = (b : Int) / 9 by omega] at HR
  have HF := Aside0.mk HF
  have HR := Aside0.mk HR
  have a0 : 0 ≤ (a : Int) := by omega
  have a1 : (a : Int) < 90 := by omega
  have b0 : 0 ≤ (b : Int) := by omega
  have b1 : (b : Int) < 90 := by omega
  by_cases h1 : away (a % 9) (b % 9) = 1 ∧ away (a / 9) (b / 9) = 2
  · have hr2 := h1.2
    have HH := rhalf_c s (a / 9) (b / 9) a 9 (by omega) (by omega) (by intro h; rw [hs]; unfold away at hr2; split at hr2 <;> omega) (by intro h; rw [hs]; unfold away at hr2; split at hr2 <;> omega) ha (by omega) w
    rw [show ((a / 9 : Nat) : Int) = (a : Int) / 9 by omega, show ((b / 9 : Nat) : Int) = (b : Int) / 9 by omega, show ((9 : Nat) : Int) = 9 from rfl] at HH
    rw [show horseN (cel s) a b = (cel s (if b / 9 > a / 9 then a + 9 else a - 9) == 46) by unfold horseN legN; rw [h1.1, h1.2]; simp]
    have HH := Aside0.mk HH
    rw [h1.1] at HF; rw [h1.2] at HR
    clear h1 hr2 hs ha hb
    generalize (if b / 9 > a / 9 then a + 9 else a - 9) = z at HH ⊢
    go_enter Try.func108, Try.ntmps108
    go_wp2_with (first | (go_at_call 107; (with_reducible refine HF.out.mono ?_); rintro e w' ⟨rfl, rfl⟩) | (go_at_call 107; (with_reducible refine HR.out.mono ?_); rintro e w' ⟨rfl, rfl⟩) | (go_at_call 122; (with_reducible refine HH.out.mono ?_); rintro e w' ⟨rfl, rfl⟩))
    go_ret
    exact ⟨rfl, rfl⟩
  by_cases h1' : away (a % 9) (b % 9) = 2 ∧ away (a / 9) (b / 9) = 1
  · have h1 := h1'
    have hr2 := h1.1
    clear h1'
    have HH := rhalf_c s (a % 9) (b % 9) a 1 (by omega) (by omega) (by intro h; rw [hs]; unfold away at hr2; split at hr2 <;> omega) (by intro h; rw [hs]; unfold away at hr2; split at hr2 <;> omega) ha (by omega) w
    rw [show ((a % 9 : Nat) : Int) = (a : Int) % 9 by omega, show ((b % 9 : Nat) : Int) = (b : Int) % 9 by omega, show ((1 : Nat) : Int) = 1 from rfl] at HH
    rw [show horseN (cel s) a b = (cel s (if b % 9 > a % 9 then a + 1 else a - 1) == 46) by unfold horseN legN; rw [h1.1, h1.2]; simp]
    have HH := Aside0.mk HH
    rw [h1.1] at HF; rw [h1.2] at HR
    clear h1 hr2 hs ha hb
    generalize (if b % 9 > a % 9 then a + 1 else a - 1) = z at HH ⊢
    go_enter Try.func108, Try.ntmps108
    go_wp2_with (first | (go_at_call 107; (with_reducible refine HF.out.mono ?_); rintro e w' ⟨rfl, rfl⟩) | (go_at_call 107; (with_reducible refine HR.out.mono ?_); rintro e w' ⟨rfl, rfl⟩) | (go_at_call 122; (with_reducible refine HH.out.mono ?_); rintro e w' ⟨rfl, rfl⟩))
    go_ret
    exact ⟨rfl, rfl⟩
  · rw [show horseN (cel s) a b = false by unfold horseN; simp only [Bool.and_eq_false_iff, Bool.or_eq_false_iff, beq_eq_false_iff_ne]; left; omega]
    have HH := HF
    generalize away (a % 9) (b % 9) = f at *
    generalize away (a / 9) (b / 9) = r at *
    have q1 : ((f : Int) == 1) = decide (f = 1) := by rw [Bool.eq_iff_iff]; simp; omega
    have q2 : ((f : Int) == 2) = decide (f = 2) := by rw [Bool.eq_iff_iff]; simp; omega
    have q3 : ((r : Int) == 1) = decide (r = 1) := by rw [Bool.eq_iff_iff]; simp; omega
    have q4 : ((r : Int) == 2) = decide (r = 2) := by rw [Bool.eq_iff_iff]; simp; omega
    clear hs ha hb
    go_enter Try.func108, Try.ntmps108
    go_wp2_with (first | (go_at_call 107; (with_reducible refine HF.out.mono ?_); rintro e w' ⟨rfl, rfl⟩) | (go_at_call 107; (with_reducible refine HR.out.mono ?_); rintro e w' ⟨rfl, rfl⟩) | (go_at_call 122; (with_reducible refine HH.out.mono ?_); rintro e w' ⟨rfl, rfl⟩))
    all_goals first | (exfalso; simp_all; done) | (exfalso; omega) | (go_ret; exact ⟨rfl, rfl⟩)
set_option maxRecDepth 100000 in
theorem rpawn_c (side : Int) (hs : side = 0 ∨ side = 1) (a b : Nat) (ha : a < 90) (hb : b < 90) (w : World) : Calls Try.prog 109 #[.int .i64 side, .int .i64 (a : Int), .int .i64 (b : Int)] w fun e w' => e = .returned (.bool (pawnN side a b)) ∧ w' = w := by
  have HO := Aside0.mk (rover_c a ha side hs w)
  have HA := Aside0.mk (away_c a b ha hb w)
  have a0 : 0 ≤ (a : Int) := by omega
  have a1 : (a : Int) < 90 := by omega
  have b0 : 0 ≤ (b : Int) := by omega
  have b1 : (b : Int) < 90 := by omega
  have hz : away a b < 90 := by unfold away; split <;> omega
  have hp : pawnN side a b = ((if side = 1 then b + 9 == a else b == a + 9) || (overN a side && a / 9 == b / 9 && away a b == 1)) := rfl
  have HP := Aside0.mk hp
  clear hp
  generalize overN a side = o at *
  generalize hd : away a b = d at *
  have HD := Aside0.mk hd
  clear hd ha hb
  rcases hs with rfl | rfl
  all_goals
    go_enter Try.func109, Try.ntmps109
    go_wp2_with (first | (go_at_call 123; refine HO.out.mono ?_; rintro e w' ⟨rfl, rfl⟩) | (go_at_call 107; refine HA.out.mono ?_; rintro e w' ⟨rfl, rfl⟩))
  all_goals
    go_ret
    refine ⟨ret_bool ?_, rfl⟩
    have h := HP.out
    clear HP HO HA HD
    rw [h, Bool.eq_iff_iff]
    simp only [beq_iff_eq, Bool.or_eq_true, Bool.and_eq_true, beq_eq_false_iff_ne, ne_eq, if_true, show ((0 : Int) = 1) = False by simp, if_false, bne_iff_ne, decide_eq_true_eq, Bool.true_eq_false, Bool.false_eq_true] at *
    try omega
    try (simp_all; omega)
set_option maxRecDepth 100000 in
set_option maxHeartbeats 1000000 in
theorem rcan_c (s : ByteArray) (hs : isBoard s = true) (a b : Nat) (ha : a < 90) (hb : b < 90) (h0 : 0 ≤ sideN (cel s a)) (w : World) : Calls Try.prog 79 #[.string s, .int .i64 (a : Int), .int .i64 (b : Int)] w fun e w' => e = .returned (.bool (canN (cel s) a b)) ∧ w' = w := by
  have hsz := board_size hs
  have HF := away_c (a % 9) (b % 9) (by omega) (by omega) w
  have HR := away_c (a / 9) (b / 9) (by omega) (by omega) w
  rw [show ((a % 9 : Nat) : Int) = (a : Int) % 9 by omega, show ((b % 9 : Nat) : Int) = (b : Int) % 9 by omega] at HF
  rw [show ((a / 9 : Nat) : Int) = (a : Int) / 9 by omega, show ((b / 9 : Nat) : Int) = (b : Int) / 9 by omega] at HR
  have HF := Aside0.mk HF
  have HR := Aside0.mk HR
  have HK := Aside0.mk (rkind_c (cel s a) (cel_lt s a) w)
  have HS := Aside0.mk (rside_c (cel s a) (cel_lt s a) w)
  have HM := Aside0.mk (rmay_c (cel s a) h0 b hb w)
  have HH := Aside0.mk (rhorse_c s hsz a b ha hb w)
  have HB := Aside0.mk (rbetween_c s hsz a b ha hb w)
  have HP := Aside0.mk (rpawn_c (sideN (cel s a)) (side01 h0) a b ha hb w)
  have a0 : 0 ≤ (a : Int) := by omega
  have a1 : (a : Int) < 90 := by omega
  have b0 : 0 ≤ (b : Int) := by omega
  have b1 : (b : Int) < 90 := by omega
  have z0 : (a : Int) < (s.size : Int) := by omega
  have z1 : (b : Int) < (s.size : Int) := by omega
  have z2 : ((a : Int) + (b : Int)) / 2 < (s.size : Int) := by omega
  have z3 : 0 ≤ ((a : Int) + (b : Int)) / 2 := by omega
  have z4 : (((a : Int) + (b : Int)) / 2).toNat = (a + b) / 2 := by omega
  have w1 : away (a % 9) (b % 9) < 10 := by unfold away; split <;> omega
  have w2 : away (a / 9) (b / 9) < 10 := by unfold away; split <;> omega
  have hk := kinds h0
  unfold canN
  generalize away (a % 9) (b % 9) = f at *
  generalize away (a / 9) (b / 9) = r at *
  generalize mayN (cel s a) b = m at *
  generalize horseN (cel s) a b = hh at *
  generalize betwN (cel s) a b = bt at *
  generalize pawnN (sideN (cel s a)) a b = pp at *
  generalize sideN (cel s a) = sd at *
  generalize hcb : cel s b = y at *
  generalize hcm : cel s ((a + b) / 2) = v at *
  have f1 : (f : Int) < 10 := by omega
  have r1 : (r : Int) < 10 := by omega
  have f0 : 0 ≤ (f : Int) := by omega
  have r0 : 0 ≤ (r : Int) := by omega
  clear hs ha hb h0 hsz w1 w2
  rcases hk with hk | hk | hk | hk | hk | hk | hk
  all_goals
    rw [hk] at HK
    simp only [hk, if_true, if_false, reduceCtorEq, Nat.reduceEqDiff]
    clear hk
    go_enter Try.func79, Try.ntmps79
    go_wp2_with (first | (go_at_call 107; (with_reducible refine HF.out.mono ?_); rintro e w' ⟨rfl, rfl⟩) | (go_at_call 107; (with_reducible refine HR.out.mono ?_); rintro e w' ⟨rfl, rfl⟩) | (go_at_call 33; refine HK.out.mono ?_; rintro e w' ⟨rfl, rfl⟩) | (go_at_call 38; refine HS.out.mono ?_; rintro e w' ⟨rfl, rfl⟩) | (go_at_call 67; refine HM.out.mono ?_; rintro e w' ⟨rfl, rfl⟩) | (go_at_call 108; refine HH.out.mono ?_; rintro e w' ⟨rfl, rfl⟩) | (go_at_call 52; refine HB.out.mono ?_; rintro e w' ⟨rfl, rfl⟩) | (go_at_call 109; refine HP.out.mono ?_; rintro e w' ⟨rfl, rfl⟩))
  all_goals
    go_ret
    first
    | exact ⟨rfl, rfl⟩
    | (refine ⟨ret_bool ?_, rfl⟩
       clear HF HR HK HS HM HH HB HP
       rw [Bool.eq_iff_iff]; simp_all
       try omega)
/-- What the reference's Fast tells of a board and squares. -/
theorem rfast_c (s : ByteArray) (hs : isBoard s = true) (a b : Nat) (ha : a < 90) (hb : b < 90) (w : World) : Calls Try.prog 49 #[.string s, .int .i64 (a : Int), .int .i64 (b : Int)] w fun e w' => e = .returned (.bool (fastN (cel s) a b)) ∧ w' = w := by
  have hsz := board_size hs
  have HSA := Aside0.mk (rside_c (cel s a) (cel_lt s a) w)
  have HSB := Aside0.mk (rside_c (cel s b) (cel_lt s b) w)
  have a0 : 0 ≤ (a : Int) := by omega
  have b0 : 0 ≤ (b : Int) := by omega
  have z0 : (a : Int) < (s.size : Int) := by omega
  have z1 : (b : Int) < (s.size : Int) := by omega
  by_cases h0 : 0 ≤ sideN (cel s a)
  · have HC := Aside0.mk (rcan_c s hs a b ha hb h0 w)
    have s0 : decide (sideN (cel s a) < 0) = false := decide_eq_false (by omega)
    unfold fastN
    rw [decide_eq_true h0, Bool.true_and]
    generalize canN (cel s) a b = cc at *
    generalize sideN (cel s a) = p at *
    generalize sideN (cel s b) = q at *
    clear hs hsz ha hb h0
    cases hqp : (q == p)
    all_goals
      rw [bne, hqp]
      go_enter Try.func49, Try.ntmps49
      go_wp2_with (first | (go_at_call 38; (with_reducible refine HSA.out.mono ?_); rintro e w' ⟨rfl, rfl⟩) | (go_at_call 38; (with_reducible refine HSB.out.mono ?_); rintro e w' ⟨rfl, rfl⟩) | (go_at_call 79; refine HC.out.mono ?_; rintro e w' ⟨rfl, rfl⟩))
      go_ret
      exact ⟨rfl, rfl⟩
  · have s0 : decide (sideN (cel s a) < 0) = true := decide_eq_true (by omega)
    unfold fastN
    rw [decide_eq_false h0, Bool.false_and, Bool.false_and]
    generalize sideN (cel s a) = p at *
    clear hs hsz ha hb h0 HSB
    go_enter Try.func49, Try.ntmps49
    go_wp2_with (first | (go_at_call 38; (with_reducible refine HSA.out.mono ?_); rintro e w' ⟨rfl, rfl⟩))
    go_ret
    exact ⟨rfl, rfl⟩
end Go.Proofs.Ytcanbidenhcohaa.K

/- Walks: place.Check. -/
namespace Go.Proofs.Ytcanbidenhcohaa.K
open Go.RowKit Go.Lib Go.Proofs.YtcanbidenhcohaaW.PrintWords Go.Proofs.Ytcanbidenhcohaa.Sp
set_option linter.unusedVariables false
set_option linter.unusedSimpArgs false
attribute [local go_sem] cel_get   -- for this text's walks alone
/-- A position. -/
structure Pos where
  cells : ByteArray
  side : Int
  clock : Int
  full : Int
abbrev posV (p : Pos) : Value := .agg #[.string p.cells, .int .i64 p.side, .int .i64 p.clock, .int .i64 p.full]
/-- How many squares of the first n hold x. -/
def cntX (s : ByteArray) (n x : Nat) : Nat := (List.range n).countP (fun i => cel s i == x)
theorem cntX_succ (s : ByteArray) (n x : Nat) : cntX s (n + 1) x = cntX s n x + (if cel s n = x then 1 else 0) := by
  unfold cntX
  rw [List.range_succ, List.countP_append]
  simp [List.countP_cons]
theorem cntX_le (s : ByteArray) (n x : Nat) : cntX s n x ≤ n := by
  unfold cntX
  exact Nat.le_trans List.countP_le_length (by simp)
/-- The first n squares are such that their pieces may stand there. -/
def rightX (s : ByteArray) (n : Nat) : Bool := (List.range n).all (fun i => cel s i == 46 || mayN (cel s i) i)
theorem rightX_succ (s : ByteArray) (n : Nat) : rightX s (n + 1) = (rightX s n && (cel s n == 46 || mayN (cel s n) n)) := by
  unfold rightX; rw [List.range_succ, List.all_append]; simp
def pieces14 : List Nat := [75, 65, 66, 78, 82, 67, 80, 107, 97, 98, 110, 114, 99, 112]
/-- There are too many of a piece, or no general. -/
def badX (s : ByteArray) (x : Nat) : Bool := decide (mostN x < cntX s 90 x) || (kindN x == 75 && cntX s 90 x != 1)
def argOk (p : Pos) : Bool := isBoard p.cells && decide ((p.side = 0 ∨ p.side = 1) ∧ 0 ≤ p.clock ∧ p.clock ≤ 120 ∧ 1 ≤ p.full ∧ p.full ≤ 9999)
/-- What is wrong with a position, but for checks. -/
def checkP (p : Pos) : Int :=
  if argOk p = false then 1 else if pieces14.any (badX p.cells) = true then 3 else if rightX p.cells 90 = false then 2 else 0
theorem argOk_no {p : Pos} (h : argOk p = false) : isBoard p.cells = false ∨ ¬ (p.side = 0 ∨ p.side = 1) ∨ p.clock < 0 ∨ 120 < p.clock ∨ p.full < 1 ∨ 9999 < p.full := by
  unfold argOk at h
  cases hb : isBoard p.cells
  · exact .inl rfl
  · rw [hb] at h
    simp only [Bool.true_and, decide_eq_false_iff_not] at h
    omega
theorem argOk_yes {p : Pos} (h : argOk p = true) : isBoard p.cells = true ∧ (p.side = 0 ∨ p.side = 1) ∧ 0 ≤ p.clock ∧ p.clock ≤ 120 ∧ 1 ≤ p.full ∧ p.full ≤ 9999 := by
  unfold argOk at h
  simp only [Bool.and_eq_true, decide_eq_true_eq] at h
  exact ⟨h.1, h.2.1, h.2.2.1, h.2.2.2.1, h.2.2.2.2.1, h.2.2.2.2.2⟩
theorem zero256 : Try.zeroCells71 = Array.replicate 256 (.int .i64 0) := by kernel_rfl
/-- What Check's first loop keeps: the position's box, the counts. -/
structure ChkAt (w0 W : World) (s : ByteArray) (bx b n : Nat) : Prop where
  box : W.cell? ⟨bx, 0, none⟩ = some (.string s)
  cnt : ∀ x, x < 256 → W.cell? ⟨b, x, none⟩ = some (.int .i64 (cntX s n x : Int))
  fz : ∀ x, W.frozen? ⟨b, x, none⟩ = false
  bel : Below w0.heap.size w0 W
  lt : bx < b ∧ b < W.heap.size ∧ w0.heap.size ≤ bx
theorem ChkAt.below {w0 W W' : World} {s : ByteArray} {bx b n : Nat} (h : ChkAt w0 W s bx b n) (hb : Below W.heap.size W W') : ChkAt w0 W' s bx b n :=
  ⟨(hb.cell (p := ⟨bx, 0, none⟩) (by have := h.lt; show bx < _; omega)).trans h.box, fun x hx => (hb.cell (p := ⟨b, x, none⟩) h.lt.2.1).trans (h.cnt x hx), fun x => (hb.frozen (p := ⟨b, x, none⟩) h.lt.2.1).trans (h.fz x), h.bel.trans (hb.mono h.bel.size), ⟨h.lt.1, Nat.lt_of_lt_of_le h.lt.2.1 hb.size, h.lt.2.2⟩⟩
theorem ChkAt.count {w0 W : World} {s : ByteArray} {bx b n : Nat} (h : ChkAt w0 W s bx b n) : ChkAt w0 (W.setCell ⟨b, cel s n, none⟩ (.int .i64 ((cntX s n (cel s n) : Int) + 1))) s bx b (n + 1) := by
  have hlt := h.lt
  refine ⟨(World.cell?_setCell_other _ _ _ _ (by intro e; injection e with e1; omega)).trans h.box, ?_, fun x => by rw [World.frozen?_setCell]; exact h.fz x, h.bel.setCell (by show w0.heap.size ≤ b; omega) _, ⟨hlt.1, by simp [World.setCell]; exact hlt.2.1, hlt.2.2⟩⟩
  intro x hx
  rw [cntX_succ]
  by_cases hc : cel s n = x
  · subst hc
    rw [if_pos rfl, World.cell?_setCell_same' _ _ _ (by rw [h.cnt _ hx]; rfl)]
    rfl
  · rw [if_neg hc, World.cell?_setCell_other _ _ _ _ (by intro e; injection e with _ e2; exact hc e2)]
    exact h.cnt x hx
theorem ChkAt.start {w0 w1 : World} {s : ByteArray} {bx : Nat} (h : w1.cell? ⟨bx, 0, none⟩ = some (.string s)) (hb : Below w0.heap.size w0 w1) (hz : bx < w1.heap.size) (hz0 : w0.heap.size ≤ bx) :
    ChkAt w0 (w1.alloc (.cells Try.zeroCells71 71)) s bx w1.heap.size 0 := by
  rw [zero256]
  refine ⟨?_, ?_, fun x => by simp, below_alloc hb _, hz, by simp, hz0⟩
  · rw [World.cell?_alloc_past _ _ _ hz]; exact h
  · intro x hx
    simp [hx, cntX]
theorem piece14 : ∀ i, i < 14 → (#[Value.int .u8 75, .int .u8 65, .int .u8 66, .int .u8 78, .int .u8 82, .int .u8 67, .int .u8 80, .int .u8 107, .int .u8 97, .int .u8 98, .int .u8 110, .int .u8 114, .int .u8 99, .int .u8 112] : Array Value)[i]? = some (.int .u8 (pieces14.getD i 0 : Int)) := by
  intro i hi
  match i, hi with
  | 0, _ | 1, _ | 2, _ | 3, _ | 4, _ | 5, _ | 6, _ | 7, _ | 8, _ | 9, _ | 10, _ | 11, _ | 12, _ | 13, _ => rfl
theorem may_square {s : ByteArray} (hs : isBoard s = true) {n : Nat} (hn : n < 90) (h : cel s n ≠ 46) : mayS (cel s n) (n : Int) = mayN (cel s n) n := by
  have h2 : ∀ x ∈ letters, x ≠ 46 → 0 ≤ sideN x := by decide
  unfold mayS
  rw [decide_eq_true ⟨h2 _ (board_cell hs hn) h, by omega, by omega⟩, Bool.true_and]
  rfl
theorem piece_lt : ∀ i, i < 14 → pieces14.getD i 0 < 256 := by decide
theorem kindN_q (x : Nat) : ((kindN x : Int) == 75) = (kindN x == 75) := by rw [Bool.eq_iff_iff, beq_iff_eq, beq_iff_eq]; omega
theorem any14 (s : ByteArray) (i : Nat) (hi : i < 14) (h : badX s (pieces14.getD i 0) = true) : pieces14.any (badX s) = true := by
  rw [List.any_eq_true]
  refine ⟨_, ?_, h⟩
  rw [List.getD_eq_getElem?_getD, List.getElem?_eq_getElem (show i < pieces14.length from hi)]
  exact List.getElem_mem _
theorem none14 (s : ByteArray) (h : ∀ j, j < 14 → badX s (pieces14.getD j 0) = false) : pieces14.any (badX s) = false := by
  rw [List.any_eq_false]
  intro x hx
  obtain ⟨j, hj, rfl⟩ := List.getElem_of_mem hx
  have := h j hj
  rw [List.getD_eq_getElem?_getD, List.getElem?_eq_getElem hj] at this
  simpa using this
set_option maxRecDepth 100000 in
set_option maxHeartbeats 4000000 in
theorem check_c (p : Pos) (w : World) : Calls Try.prog 35 #[posV p] w fun e w' => e = .returned (.int .i64 (checkP p)) ∧ Below w.heap.size w w' := by
  have HI := Aside0.mk (fun W => is_c p.cells W)
  have hu := Try.underlying38
  cases ha : argOk p
  case false =>
    rw [show checkP p = 1 by unfold checkP; rw [if_pos ha]]
    have HN := Aside0.mk (argOk_no ha)
    have h1 : (p.side == 0) = decide (p.side = 0) := by rw [Bool.eq_iff_iff]; simp
    have h2 : (p.side == 1) = decide (p.side = 1) := by rw [Bool.eq_iff_iff]; simp
    clear ha
    generalize isBoard p.cells = bb at HI HN
    go_enter Try.func35, Try.ntmps35
    go_wp2_with (go_at_call 51; refine (HI.out _).mono ?_; rintro e w1 ⟨rfl, hb⟩; have HB := Aside0.mk ((below_alloc (Below.refl w.heap.size w) _).trans (hb.mono (by simp))); have c0 := (hb.cell (p := ⟨w.heap.size, 0, none⟩) (by simp)).trans (show _ = some (Value.string p.cells) by simp); have c1 := (hb.cell (p := ⟨w.heap.size, 1, none⟩) (by simp)).trans (show _ = some (Value.int .i64 p.side) by simp); have c2 := (hb.cell (p := ⟨w.heap.size, 2, none⟩) (by simp)).trans (show _ = some (Value.int .i64 p.clock) by simp); have c3 := (hb.cell (p := ⟨w.heap.size, 3, none⟩) (by simp)).trans (show _ = some (Value.int .i64 p.full) by simp); clear hb)
    all_goals
      first
      | (go_ret; exact ⟨rfl, HB.out⟩)
      | (exfalso
         have hn := HN.out
         clear HN HB HI
         simp_all
         done)
      | (exfalso
         have hn := HN.out
         clear HN HB HI
         simp_all
         omega)
  obtain ⟨hbd, hsd, hc1, hc2, hf1, hf2⟩ := argOk_yes ha
  rw [hbd] at HI
  have HP := Aside0.mk (show checkP p = if pieces14.any (badX p.cells) = true then 3 else if rightX p.cells 90 = false then 2 else 0 by unfold checkP; rw [ha]; rfl)
  have HSZ := Aside0.mk (board_size hbd)
  have HBD := Aside0.mk hbd
  clear ha hbd
  have HSD := Aside0.mk hsd
  rcases hsd with hsd | hsd
  case' inl =>
    have hs0 : (p.side != 0) = false := by simp [hsd]
    have hs1 : (p.side != 1) = true := by simp [hsd]
  case' inr =>
    have hs0 : (p.side != 0) = true := by simp [hsd]
    have hs1 : (p.side != 1) = false := by simp [hsd]
  all_goals clear hsd
  all_goals
    go_enter Try.func35, Try.ntmps35
    go_wp2_with fail
    refine (HI.out _).mono ?_
    rintro e w1 ⟨rfl, hb⟩
    have HB := Aside0.mk ((below_alloc (Below.refl w.heap.size w) _).trans (hb.mono (by simp)))
    have c0 := (hb.cell (p := ⟨w.heap.size, 0, none⟩) (by simp)).trans (show _ = some (Value.string p.cells) by simp)
    have c1 := (hb.cell (p := ⟨w.heap.size, 1, none⟩) (by simp)).trans (show _ = some (Value.int .i64 p.side) by simp)
    have c2 := (hb.cell (p := ⟨w.heap.size, 2, none⟩) (by simp)).trans (show _ = some (Value.int .i64 p.clock) by simp)
    have c3 := (hb.cell (p := ⟨w.heap.size, 3, none⟩) (by simp)).trans (show _ = some (Value.int .i64 p.full) by simp)
    have hz : w.heap.size < w1.heap.size := by have := hb.size; simp at this; omega
    have HC0 := Aside0.mk (ChkAt.start c0 HB.out hz (Nat.le_refl _))
    clear hb
    go_wp2_with fail
    generalize hW : w1.alloc (.cells Try.zeroCells71 71) = W0 at HC0 ⊢
    generalize hB : w1.heap.size = b at HC0 ⊢
    clear hW hB c0 c1 c2 c3 hz HB hs0 hs1 hc1 hc2 hf1 hf2
    go_loopg [4, 43] 90 (fun gg s4 s43 wr => ∃ i : Nat, s43 = .int .i64 i ∧ i + gg = 90 ∧ s4 = .bool (rightX p.cells i) ∧ Aside0 (ChkAt w wr p.cells w.heap.size b i))
    case atStart => exact ⟨0, rfl, by omega, rfl, HC0⟩
    case round =>
      obtain ⟨i, rfl, hig, rfl, HC⟩ := hrel
      have HG := Aside0.mk hig
      by_cases hlt : i < 90
      · have k0 : 0 ≤ (i : Int) := by omega
        have k1 : (i : Int) < 90 := by omega
        have k2 : (i : Int) < (p.cells.size : Int) := by have := HSZ.out; omega
        have hcx := cntX_le p.cells i (cel p.cells i)
        have hnx := HC.out.count
        have hm := may_square HBD.out hlt
        have hr := rightX_succ p.cells i
        have hcl := cel_lt p.cells i
        have HMC := Aside0.mk (fun W => may_c (cel p.cells i) hcl (i : Int) W)
        have hcell := HC.out.cnt (cel p.cells i) hcl
        have hfr := HC.out.fz (cel p.cells i)
        have hbox := HC.out.box
        generalize hx : cel p.cells i = x at *
        generalize hrr : rightX p.cells i = rr at *
        have c0 : 0 ≤ (x : Int) := by omega
        have c1 : (x : Int) < 256 := by omega
        have c2 : (cntX p.cells i x : Int) ≤ 90 := by omega
        generalize cntX p.cells i x = cc at *
        have q := beq46 x
        have HNX := Aside0.mk hnx
        have HM := Aside0.mk hm
        have HRS := Aside0.mk hr
        have HXE := Aside0.mk hx
        have HRR := Aside0.mk hrr
        clear hnx hm hr hrr hig hcx hcl
        cases rr
        all_goals cases h46 : (x == 46)
        all_goals
          rw [h46] at q
          have H46 := Aside0.mk h46
          clear h46
          go_wp2_with fail
        all_goals
          first
          | (go_at_call 28
             refine (HMC.out _).mono ?_
             rintro e w2 ⟨rfl, hb⟩
             have HN2 := Aside0.mk (HNX.out.below hb)
             clear hb
             go_wp2_with fail
             go_roundg (90 - (i + 1))
             case measure => have := HG.out; omega
             case rel => exact ⟨i + 1, by go_num, by have := HG.out; omega, by rw [HRS.out, HM.out (by simpa using H46.out), H46.out]; rfl, HN2⟩)
          | (go_roundg (90 - (i + 1))
             case measure => have := HG.out; omega
             case rel => exact ⟨i + 1, by go_num, by have := HG.out; omega, by rw [HRS.out, H46.out]; rfl, HNX⟩)
      · have hi : i = 90 := by omega
        subst hi
        have hcv := run_convert_bytes_const (P := Try.prog) wr 61 5 #[.int .u8 75, .int .u8 65, .int .u8 66, .int .u8 78, .int .u8 82, .int .u8 67, .int .u8 80, .int .u8 107, .int .u8 97, .int .u8 98, .int .u8 110, .int .u8 114, .int .u8 99, .int .u8 112] 14 14 Try.underlying61 Try.underlying5
        have HC90 := Aside0.mk (HC.out.below (below_alloc (Below.refl wr.heap.size wr) (.cells #[.int .u8 75, .int .u8 65, .int .u8 66, .int .u8 78, .int .u8 82, .int .u8 67, .int .u8 80, .int .u8 107, .int .u8 97, .int .u8 98, .int .u8 110, .int .u8 114, .int .u8 99, .int .u8 112] 5 (14, 15))))
        have HLT : Aside0 (∀ i, i < 14 → (wr.alloc (.cells #[.int .u8 75, .int .u8 65, .int .u8 66, .int .u8 78, .int .u8 82, .int .u8 67, .int .u8 80, .int .u8 107, .int .u8 97, .int .u8 98, .int .u8 110, .int .u8 114, .int .u8 99, .int .u8 112] 5 (14, 15))).cell? ⟨wr.heap.size, i, none⟩ = some (.int .u8 (pieces14.getD i 0 : Int))) :=
          ⟨fun i hi => (World.cell?_alloc_mark wr _ _ _ i).trans (piece14 i hi)⟩
        generalize hrr : rightX p.cells 90 = rr at *
        have HRR := Aside0.mk hrr
        clear HC hrr hig HG
        go_wp2_with (simp only [hcv])
        clear hcv
        generalize wr.alloc (.cells #[.int .u8 75, .int .u8 65, .int .u8 66, .int .u8 78, .int .u8 82, .int .u8 67, .int .u8 80, .int .u8 107, .int .u8 97, .int .u8 98, .int .u8 110, .int .u8 114, .int .u8 99, .int .u8 112] 5 (14, 15)) = W2 at HC90 HLT ⊢
        generalize wr.heap.size = lb at HLT ⊢
        go_loopg [69] 14 (fun gg s69 W3 => ∃ i : Nat, s69 = .int .i64 i ∧ i + gg = 14 ∧ Aside0 (ChkAt w W3 p.cells w.heap.size b 90) ∧ Aside0 (∀ i, i < 14 → W3.cell? ⟨lb, i, none⟩ = some (.int .u8 (pieces14.getD i 0 : Int))) ∧ Aside0 (∀ j, j < i → badX p.cells (pieces14.getD j 0) = false))
        case atStart => exact ⟨0, rfl, by omega, HC90, HLT, ⟨fun j hj => by omega⟩⟩
        case round =>
          clear HC90 HLT
          obtain ⟨i, rfl, hig, HC90, HLT, HBX⟩ := hrel
          have HG := Aside0.mk hig
          by_cases hlt : i < 14
          · have hl := HLT.out i hlt
            have hx := piece_lt i hlt
            have k0 : 0 ≤ (i : Int) := by omega
            have k1 : (i : Int) < 14 := by omega
            have hcell := HC90.out.cnt (pieces14.getD i 0) hx
            have HMO := Aside0.mk (fun W => most_c (pieces14.getD i 0) hx W)
            have HKI := Aside0.mk (fun W => kind_c (pieces14.getD i 0) hx W)
            have hbx : badX p.cells (pieces14.getD i 0) = (decide (mostN (pieces14.getD i 0) < cntX p.cells 90 (pieces14.getD i 0)) || (kindN (pieces14.getD i 0) == 75 && cntX p.cells 90 (pieces14.getD i 0) != 1)) := rfl
            have hcle := cntX_le p.cells 90 (pieces14.getD i 0)
            have hkq := kindN_q (pieces14.getD i 0)
            have HANY := Aside0.mk (any14 p.cells i hlt)
            generalize hxx : pieces14.getD i 0 = x at *
            generalize cntX p.cells 90 x = cc at *
            generalize mostN x = m at *
            generalize kindN x = k at *
            have HBE := Aside0.mk hbx
            have c0 : 0 ≤ (x : Int) := by omega
            have c1 : (x : Int) < 256 := by omega
            have hcq : ((cc : Int) != 1) = (cc != 1) := by rw [Bool.eq_iff_iff, bne_iff_ne, bne_iff_ne]; omega
            have HXX := Aside0.mk hxx
            clear hbx hxx hig hx hcle
            cases b1 : decide (m < cc)
            all_goals cases b2 : (k == 75)
            all_goals cases b3 : (cc != 1)
            all_goals
              rw [b2] at hkq
              rw [b3] at hcq
              have HB123 : Aside0 (badX p.cells x = (decide (m < cc) || (k == 75 && cc != 1))) := HBE
              rw [b1, b2, b3] at HB123
              clear b2 b3
              go_wp2_with fail
              go_quiet (first | (go_at_call 65; exact Calls.quiet_of_same (HMO.out _)) | (go_at_call 24; exact Calls.quiet_of_same (HKI.out _)))
              go_wp2_with fail
              first
              | (go_ret
                 refine ⟨ret_int ?_, ?_⟩
                 · rw [HP.out, if_pos (HANY.out (by rw [HB123.out]; rfl))]
                 · exact pw_below_drewN HC90.out.bel _)
              | (go_roundg (14 - (i + 1))
                 case measure => have := HG.out; omega
                 case rel => exact ⟨i + 1, by go_num, by have := HG.out; omega, ⟨HC90.out.below (pw_below_drewN (Below.refl _ _) _)⟩, ⟨fun i hi => HLT.out i hi⟩, ⟨fun j hj => by
                   by_cases h : j = i
                   · subst h; rw [HXX.out, HB123.out]; rfl
                   · exact HBX.out j (by omega)⟩⟩)
          · have hi : i = 14 := by omega
            subst hi
            have HNA := Aside0.mk (none14 p.cells HBX.out)
            cases rr
            all_goals
              go_wp2_with fail
              go_ret
              refine ⟨ret_int ?_, ?_⟩
              · rw [HP.out, HNA.out]; simp
              · exact HC90.out.bel
end Go.Proofs.Ytcanbidenhcohaa.K

/- Plain law: sorted lists without repetition; rays; what a line of sight meets first and second. -/
namespace Go.Proofs.Ytcanbidenhcohaa.Sp

/-! ### strictly rising lists -/
theorem rising_eq : ∀ {l l' : List Int}, l.Pairwise (· < ·) → l'.Pairwise (· < ·) → (∀ x, x ∈ l ↔ x ∈ l') → l = l'
  | [], [], _, _, _ => rfl
  | [], y :: l', _, _, h => absurd ((h y).2 List.mem_cons_self) (by simp)
  | x :: l, [], _, _, h => absurd ((h x).1 List.mem_cons_self) (by simp)
  | x :: l, y :: l', h1, h2, h => by
    rw [List.pairwise_cons] at h1 h2
    have hxy : x = y := by
      have a := (h x).1 List.mem_cons_self
      have b := (h y).2 List.mem_cons_self
      rcases List.mem_cons.1 a with a | a
      · exact a
      · rcases List.mem_cons.1 b with b | b
        · exact b.symm
        · have := h1.1 y b
          have := h2.1 x a
          omega
    subst hxy
    congr 1
    refine rising_eq h1.2 h2.2 (fun z => ?_)
    constructor
    · intro hz
      rcases List.mem_cons.1 ((h z).1 (List.mem_cons_of_mem _ hz)) with e | e
      · subst e; exact absurd (h1.1 z hz) (by omega)
      · exact e
    · intro hz
      rcases List.mem_cons.1 ((h z).2 (List.mem_cons_of_mem _ hz)) with e | e
      · subst e; exact absurd (h2.1 z hz) (by omega)
      · exact e

theorem sorted_get {zs : List Int} (h : zs.Pairwise (· ≤ ·)) {i j : Nat} (hij : i ≤ j) (hj : j < zs.length) : zs.toArray[i]! ≤ zs.toArray[j]! := by
  have hi : i < zs.length := by omega
  rw [getElem!_pos zs.toArray i (by simpa using hi), getElem!_pos zs.toArray j (by simpa using hj)]
  simp only [List.getElem_toArray]
  rcases Nat.lt_or_ge i j with h1 | h1
  · exact List.pairwise_iff_getElem.1 h i j hi hj h1
  · have : i = j := by omega
    subst this
    exact Int.le_refl _

theorem compact_mem {zs : List Int} (x : Int) : x ∈ Lib.compact zs ↔ x ∈ zs := by
  unfold Lib.compact Lib.compactUpTo
  rw [List.mem_map]
  constructor
  · rintro ⟨j, hj, rfl⟩
    have hl : j < zs.length := List.mem_range.1 (List.mem_filter.1 hj).1
    rw [getElem!_pos zs.toArray j (by simpa using hl)]
    simp
  · intro hx
    -- the first place of x
    have key : ∀ n, (∃ j, j < n ∧ j < zs.length ∧ zs.toArray[j]! = x) → ∃ j, j < zs.length ∧ zs.toArray[j]! = x ∧ ∀ i, i < j → zs.toArray[i]! ≠ x := by
      intro n
      induction n with
      | zero => rintro ⟨j, hj, _⟩; omega
      | succ n ih =>
        rintro ⟨j, hj, hl, he⟩
        by_cases h : ∃ i, i < n ∧ i < zs.length ∧ zs.toArray[i]! = x
        · exact ih h
        · refine ⟨j, hl, he, fun i hi hix => h ⟨i, ?_, by omega, hix⟩⟩
          omega
    obtain ⟨j, hj, hjx⟩ := List.getElem_of_mem hx
    obtain ⟨j, hl, he, hmin⟩ := key (j + 1) ⟨j, by omega, hj, by rw [getElem!_pos zs.toArray j (by simpa using hj)]; simpa using hjx⟩
    refine ⟨j, List.mem_filter.2 ⟨List.mem_range.2 hl, ?_⟩, he⟩
    by_cases h0 : j = 0
    · subst h0; exact Lib.keeps_lt_one _ 0 (by omega)
    · exact Lib.keeps_pos (by rw [he]; exact Ne.symm (hmin (j - 1) (by omega)))

theorem compact_rising {zs : List Int} (h : zs.Pairwise (· ≤ ·)) : (Lib.compact zs).Pairwise (· < ·) := by
  unfold Lib.compact Lib.compactUpTo
  rw [List.pairwise_map]
  have hr : ((List.range zs.length).filter (Lib.keeps zs.toArray)).Pairwise (· < ·) := List.pairwise_lt_range.filter _
  refine hr.imp_of_mem ?_
  intro i j hi hj hij
  have hjl : j < zs.length := List.mem_range.1 (List.mem_filter.1 hj).1
  have hk := (List.mem_filter.1 hj).2
  have h1 := sorted_get h (i := i) (j := j - 1) (by omega) (by omega)
  have h2 := sorted_get h (i := j - 1) (j := j) (by omega) hjl
  have hne : zs.toArray[j]! ≠ zs.toArray[j - 1]! := by
    intro e
    rw [Lib.keeps_neg (by omega) e] at hk
    cases hk
  omega

/-- What slices.Sort and slices.Compact make of a list of squares. -/
theorem sort_compact (l : List Int) (P : Nat → Bool) (hr : ∀ x ∈ l, 0 ≤ x ∧ x < 90) (h : ∀ t : Nat, t < 90 → ((t : Int) ∈ l ↔ P t = true)) :
    Lib.compact (l.mergeSort fun x y => decide (x ≤ y)) = ((List.range 90).filter P).map (fun n : Nat => (n : Int)) := by
  apply rising_eq
  · apply compact_rising
    have := List.pairwise_mergeSort (le := fun x y : Int => decide (x ≤ y)) (by intro a b c; simp; omega) (by intro a b; simp; omega) l
    exact this.imp (by intro a b; simp)
  · rw [List.pairwise_map]
    exact (List.pairwise_lt_range.filter _).imp (by intro a b hab; omega)
  · intro x
    rw [compact_mem, List.mem_mergeSort, List.mem_map]
    constructor
    · intro hx
      obtain ⟨h0, h1⟩ := hr x hx
      refine ⟨x.toNat, List.mem_filter.2 ⟨List.mem_range.2 (by omega), (h x.toNat (by omega)).1 ?_⟩, by omega⟩
      rw [show ((x.toNat : Nat) : Int) = x from by omega]; exact hx
    · rintro ⟨t, ht, rfl⟩
      obtain ⟨h1, h2⟩ := List.mem_filter.1 ht
      exact (h t (List.mem_range.1 h1)).2 h2

/-! ### what is met first, second -/
section
variable (e : Nat → Bool)
theorem mem_free : ∀ (R : List Nat) (t : Nat), t ∈ R.takeWhile e ↔ ∃ j, R[j]? = some t ∧ (R.take j).countP (fun x => !e x) = 0 ∧ e t = true
  | [], t => by simp
  | x :: R, t => by
    rw [List.takeWhile_cons]
    cases hx : e x with
    | true =>
      rw [if_pos rfl, List.mem_cons, mem_free R t]
      constructor
      · rintro (rfl | ⟨j, h1, h2, h3⟩)
        · exact ⟨0, by simp, by simp, hx⟩
        · exact ⟨j + 1, by simpa using h1, by simpa [hx] using h2, h3⟩
      · rintro ⟨j, h1, h2, h3⟩
        cases j with
        | zero => left; simpa using h1.symm
        | succ j => right; exact ⟨j, by simpa using h1, by simpa [hx] using h2, h3⟩
    | false =>
      rw [if_neg (by simp)]
      constructor
      · intro h; cases h
      · rintro ⟨j, h1, h2, h3⟩
        cases j with
        | zero => simp at h1; subst h1; rw [hx] at h3; cases h3
        | succ j => simp [hx] at h2
theorem mem_first : ∀ (R : List Nat) (t : Nat), (R.dropWhile e).head? = some t ↔ ∃ j, R[j]? = some t ∧ (R.take j).countP (fun x => !e x) = 0 ∧ e t = false
  | [], t => by simp
  | x :: R, t => by
    rw [List.dropWhile_cons]
    cases hx : e x with
    | true =>
      rw [if_pos rfl, mem_first R t]
      constructor
      · rintro ⟨j, h1, h2, h3⟩
        exact ⟨j + 1, by simpa using h1, by simpa [hx] using h2, h3⟩
      · rintro ⟨j, h1, h2, h3⟩
        cases j with
        | zero => simp at h1; subst h1; rw [hx] at h3; cases h3
        | succ j => exact ⟨j, by simpa using h1, by simpa [hx] using h2, h3⟩
    | false =>
      rw [if_neg (by simp)]
      constructor
      · intro h
        simp at h
        subst h
        exact ⟨0, by simp, by simp, hx⟩
      · rintro ⟨j, h1, h2, h3⟩
        cases j with
        | zero => simpa using h1
        | succ j => simp [hx] at h2
theorem mem_second : ∀ (R : List Nat) (t : Nat), ((R.dropWhile e).tail.dropWhile e).head? = some t ↔ ∃ j, R[j]? = some t ∧ (R.take j).countP (fun x => !e x) = 1 ∧ e t = false
  | [], t => by simp
  | x :: R, t => by
    rw [List.dropWhile_cons]
    cases hx : e x with
    | true =>
      rw [if_pos rfl, mem_second R t]
      constructor
      · rintro ⟨j, h1, h2, h3⟩
        exact ⟨j + 1, by simpa using h1, by simpa [hx] using h2, h3⟩
      · rintro ⟨j, h1, h2, h3⟩
        cases j with
        | zero => simp at h2
        | succ j => exact ⟨j, by simpa using h1, by simpa [hx] using h2, h3⟩
    | false =>
      rw [if_neg (by simp), List.tail_cons, mem_first]
      constructor
      · rintro ⟨j, h1, h2, h3⟩
        exact ⟨j + 1, by simpa using h1, by simp [hx, h2], h3⟩
      · rintro ⟨j, h1, h2, h3⟩
        cases j with
        | zero => simp at h2
        | succ j => exact ⟨j, by simpa using h1, by simpa [hx] using h2, h3⟩
end

/-- The square so many files and ranks on; -1: there is none. -/
def stepN (n : Nat) (df dr : Int) : Int :=
  if 0 ≤ ((n % 9 : Nat) : Int) + df ∧ ((n % 9 : Nat) : Int) + df < 9 ∧ 0 ≤ ((n / 9 : Nat) : Int) + dr ∧ ((n / 9 : Nat) : Int) + dr < 10 then 9 * (((n / 9 : Nat) : Int) + dr) + (((n % 9 : Nat) : Int) + df) else -1
def dirs : List (Int × Int) := [(1, 0), (-1, 0), (0, 1), (0, -1)]
/-- The squares of a way, from the next one on. -/
def rayN (n : Nat) : Int × Int → List Nat := fun w => (((List.range 9).map (fun i : Nat => stepN n (((i : Nat) : Int) * w.1 + w.1) (((i : Nat) : Int) * w.2 + w.2))).takeWhile (fun x => decide (0 ≤ x))).map Int.toNat
end Go.Proofs.Ytcanbidenhcohaa.Sp
