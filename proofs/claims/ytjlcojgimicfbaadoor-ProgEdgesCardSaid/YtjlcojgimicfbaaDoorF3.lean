/- Proof text of this claim, part 3: DERIVED: THE SHELF's CONTRACTS AT THIS DUMP, IN PLAIN WORDS (tools/lay-plain.mjs out of 'TrydShelf.lean', which tools/lay-shelf.mjs wrote): THE SAME DECLARATIONS UNDER THE SAME NAMES: 'import', 'namespace', 'open', 'def', 'theorem' AND NOTHING ELSE: no command of the shelf's: FOR A HAND-IN. Each lay. Its conditions are those of the statement: the laid tables as the row lists them. -/
import Derived.Shelf.Small.Bits
import Derived.Shelf.Strconv.Itoa0
import Derived.Shelf.Strings.Search1
import Derived.Shelf.Strings.Search2
import Derived.Shelf.Strings.Search3
import Derived.Shelf.LaysM
import Derived.Shelf.Strings.Shaped
import Derived.Shelf.Sort.Plain
import Derived.Shelf.Strings.Fields
import Derived.Shelf.Strings.SplitShaped
import Derived.Shelf.Unicode.Latin
import Derived.Shelf.Unicode.Is16White
import Derived.Shelf.Unicode.IsSpaceAny
import Derived.Shelf.Unicode.Is16Any
import Derived.Shelf.Unicode.Is32Any
import Derived.Shelf.Unicode.ExclAny
import Derived.Ground.Names2Prog
import Derived.Shelf.Slices.CompactI
import Derived.Shelf.Slices.SearchI
import Derived.Shelf.Slices.Cells
import Derived.Shelf.Slices.In.SortNone
import Derived.Test.YtjlcojgimicfbaaDoorProg
import Derived.Test.YtjlcojgimicfbaaDoorF2
import Derived.KernelRfl
import Derived.ChangeKeysEq
/-
  DERIVED: THE SHELF's CONTRACTS AT THIS DUMP, IN PLAIN WORDS (tools/lay-plain.mjs out of 'TrydShelf.lean', which tools/lay-shelf.mjs wrote): THE SAME DECLARATIONS UNDER THE SAME NAMES: 'import', 'namespace', 'open', 'def', 'theorem' AND NOTHING ELSE: no command of the shelf's: FOR A HAND-IN. Each laying: the table of numbers ('.._ren') and one theorem, a field a fact of the dump's own or the kernel's comparison; each contract: ONE APPLICATION.
-/
namespace Go.Proofs
open Go.Shelf
def Tryd.lays128_ren : Go.Shelf.Ren := ⟨fun | 128 => 70 | n => n, fun | 51 => 112 | 3 => 3 | 4 => 4 | 46 => 82 | 5 => 5 | 9 => 9 | n => n, fun | n => n⟩
theorem Tryd.lays128 : Go.Proofs.Lays.n128 Tryd.prog Tryd.lays128_ren := {
  mixed := by kernel_rfl
  f128 := Tryd.func70.trans (congrArg some (by kernel_rfl))
  t3 := Tryd.underlying3
  a3 := Tryd.isAgg3
  z3 := Tryd.sizeOf3
  v3 := Tryd.zeroValue3
  t4 := Tryd.underlying4
  a4 := Tryd.isAgg4
  z4 := Tryd.sizeOf4
  v4 := Tryd.zeroValue4
  t5 := Tryd.underlying5
  a5 := Tryd.isAgg5
  z5 := Tryd.sizeOf5
  v5 := Tryd.zeroValue5
  t9 := Tryd.underlying9
  a9 := Tryd.isAgg9
  z9 := Tryd.sizeOf9
  v9 := Tryd.zeroValue9
  t46 := Tryd.underlying82
  a46 := Tryd.isAgg82
  z46 := Tryd.sizeOf82
  v46 := Tryd.zeroValue82
  t51 := Tryd.underlying112
  a51 := Tryd.isAgg112
  z51 := Tryd.sizeOf112
  v51 := Tryd.zeroValue112 }
/-- bits.Len32: "Len32 returns the minimum number of bits required to represent x; the result is 0 for x == 0.": IT RETURNS 'Lib.bitLen x'; the world is as it was. ('h0', 'h1': x is a uint32.) (LAID: no walk: one application.) -/
theorem Tryd.bits_Len32 (x : Int) (w : World) (h0 : 0 ≤ x) (h1 : x ≤ 4294967295) :
    Calls Tryd.prog 70 #[.int .u32 x] w fun e w' => e = .returned (.int .i64 (Lib.bitLen x.toNat)) ∧ w' = w := Any.bits_Len32 Tryd.lays128 x w h0 h1
def Tryd.lays125_ren : Go.Shelf.Ren := ⟨fun | 125 => 52 | 128 => 70 | 129 => 71 | n => n, fun | 46 => 82 | 3 => 3 | 51 => 112 | 53 => 114 | 4 => 4 | 5 => 5 | 9 => 9 | n => n, fun | n => n⟩
theorem Tryd.lays125 : Go.Proofs.Lays.n125 Tryd.prog Tryd.lays125_ren := {
  mixed := by kernel_rfl
  f125 := Tryd.func52.trans (congrArg some (by kernel_rfl))
  f128 := Tryd.func70.trans (congrArg some (by kernel_rfl))
  f129 := Tryd.func71.trans (congrArg some (by kernel_rfl))
  t3 := Tryd.underlying3
  a3 := Tryd.isAgg3
  z3 := Tryd.sizeOf3
  v3 := Tryd.zeroValue3
  t4 := Tryd.underlying4
  a4 := Tryd.isAgg4
  z4 := Tryd.sizeOf4
  v4 := Tryd.zeroValue4
  t5 := Tryd.underlying5
  a5 := Tryd.isAgg5
  z5 := Tryd.sizeOf5
  v5 := Tryd.zeroValue5
  t9 := Tryd.underlying9
  a9 := Tryd.isAgg9
  z9 := Tryd.sizeOf9
  v9 := Tryd.zeroValue9
  t46 := Tryd.underlying82
  a46 := Tryd.isAgg82
  z46 := Tryd.sizeOf82
  v46 := Tryd.zeroValue82
  t51 := Tryd.underlying112
  a51 := Tryd.isAgg112
  z51 := Tryd.sizeOf112
  v51 := Tryd.zeroValue112
  t53 := Tryd.underlying114
  a53 := Tryd.isAgg114
  z53 := Tryd.sizeOf114
  v53 := Tryd.zeroValue114 }
/-- bits.Len: "Len returns the minimum number of bits required to represent x; the result is 0 for x == 0.": IT RETURNS 'Lib.bitLen x'; the world is as it was. (A uint has 64 bits in the model.) ITS CALLEE bits.Len64 IS MET BY ITS OWN CONTRACT OFF THE SHELF (lay that first). (LAID: no walk: one application.) -/
theorem Tryd.bits_Len (x : Int) (w : World) (h0 : 0 ≤ x) (h1 : x ≤ 18446744073709551615) :
    Calls Tryd.prog 52 #[.int .u64 x] w fun e w' => e = .returned (.int .i64 (Lib.bitLen x.toNat)) ∧ w' = w := Any.bits_Len Tryd.lays125 x w h0 h1
def Tryd.lays129_ren : Go.Shelf.Ren := ⟨fun | 129 => 71 | n => n, fun | 53 => 114 | 3 => 3 | 4 => 4 | 46 => 82 | 5 => 5 | 9 => 9 | n => n, fun | n => n⟩
theorem Tryd.lays129 : Go.Proofs.Lays.n129 Tryd.prog Tryd.lays129_ren := {
  mixed := by kernel_rfl
  f129 := Tryd.func71.trans (congrArg some (by kernel_rfl))
  t3 := Tryd.underlying3
  a3 := Tryd.isAgg3
  z3 := Tryd.sizeOf3
  v3 := Tryd.zeroValue3
  t4 := Tryd.underlying4
  a4 := Tryd.isAgg4
  z4 := Tryd.sizeOf4
  v4 := Tryd.zeroValue4
  t5 := Tryd.underlying5
  a5 := Tryd.isAgg5
  z5 := Tryd.sizeOf5
  v5 := Tryd.zeroValue5
  t9 := Tryd.underlying9
  a9 := Tryd.isAgg9
  z9 := Tryd.sizeOf9
  v9 := Tryd.zeroValue9
  t46 := Tryd.underlying82
  a46 := Tryd.isAgg82
  z46 := Tryd.sizeOf82
  v46 := Tryd.zeroValue82
  t53 := Tryd.underlying114
  a53 := Tryd.isAgg114
  z53 := Tryd.sizeOf114
  v53 := Tryd.zeroValue114 }
/-- bits.Len64: "Len64 returns the minimum number of bits required to represent x; the result is 0 for x == 0.": IT RETURNS 'Lib.bitLen x'; the world is as it was. ('h0', 'h1': x is a uint64.) (LAID: no walk: one application.) -/
theorem Tryd.bits_Len64 (x : Int) (w : World) (h0 : 0 ≤ x) (h1 : x ≤ 18446744073709551615) :
    Calls Tryd.prog 71 #[.int .u64 x] w fun e w' => e = .returned (.int .i64 (Lib.bitLen x.toNat)) ∧ w' = w := Any.bits_Len64 Tryd.lays129 x w h0 h1
def Tryd.lays217_ren : Go.Shelf.Ren := ⟨fun | 217 => 92 | 266 => 100 | n => n, fun | 9 => 9 | 5 => 5 | 3 => 3 | n => n, fun | n => n⟩
theorem Tryd.lays217 : Go.Proofs.Lays.n217 Tryd.prog Tryd.lays217_ren := {
  mixed := by kernel_rfl
  f217 := Tryd.func92.trans (congrArg some (by kernel_rfl))
  f266 := Tryd.func100.trans (congrArg some (by kernel_rfl))
  t3 := Tryd.underlying3
  a3 := Tryd.isAgg3
  z3 := Tryd.sizeOf3
  v3 := Tryd.zeroValue3
  t5 := Tryd.underlying5
  a5 := Tryd.isAgg5
  z5 := Tryd.sizeOf5
  v5 := Tryd.zeroValue5
  t9 := Tryd.underlying9
  a9 := Tryd.isAgg9
  z9 := Tryd.sizeOf9
  v9 := Tryd.zeroValue9 }
open Go.RowKit Go.Lib in
/-- internal/stringslite.IndexByte (what strings.IndexByte calls): IT RETURNS 'Lib.indexByte s c'; the world is as it was. (LAID: no walk: one application.) -/
theorem Tryd.stringslite_IndexByte (s : ByteArray) (c : Int) (w : World) :
    Calls Tryd.prog 92 #[.string s, .int .u8 c] w fun e w' => e = .returned (.int .i64 (Lib.indexByte s.data.toList c.toNat.toUInt8)) ∧ w' = w := Any.stringslite_IndexByte Tryd.lays217 s c w
def Tryd.lays224_ren : Go.Shelf.Ren := ⟨fun | 224 => 94 | n => n, fun | 3 => 3 | n => n, fun | n => n⟩
theorem Tryd.lays224 : Go.Proofs.Lays.n224 Tryd.prog Tryd.lays224_ren := {
  mixed := by kernel_rfl
  f224 := Tryd.func94.trans (congrArg some (by kernel_rfl))
  t3 := Tryd.underlying3
  a3 := Tryd.isAgg3
  z3 := Tryd.sizeOf3
  v3 := Tryd.zeroValue3 }
open Go.RowKit Go.Lib in
/-- internal/bytealg.Cutover: "Cutover reports the number of failures of IndexByte we should tolerate before switching over to Index. n is the number of bytes processed so far.": on amd64: (n + 16) / 8. (LAID: no walk: one application.) -/
theorem Tryd.bytealg_Cutover (n : Int) (h0 : 0 ≤ n) (h1 : n < 4611686018427387904) (w : World) :
    Calls Tryd.prog 94 #[.int .i64 n] w fun e w' => e = .returned (.int .i64 ((n + 16) / 8)) ∧ w' = w := Any.bytealg_Cutover Tryd.lays224 n h0 h1 w
def Tryd.lays314_ren : Go.Shelf.Ren := ⟨fun | 314 => 101 | n => n, fun | 9 => 9 | 51 => 112 | 3 => 3 | 4 => 4 | 5 => 5 | 46 => 82 | n => n, fun | n => n⟩
theorem Tryd.lays314 : Go.Proofs.Lays.n314 Tryd.prog Tryd.lays314_ren := {
  mixed := by kernel_rfl
  f314 := Tryd.func101.trans (congrArg some (by kernel_rfl))
  t3 := Tryd.underlying3
  a3 := Tryd.isAgg3
  z3 := Tryd.sizeOf3
  v3 := Tryd.zeroValue3
  t4 := Tryd.underlying4
  a4 := Tryd.isAgg4
  z4 := Tryd.sizeOf4
  v4 := Tryd.zeroValue4
  t5 := Tryd.underlying5
  a5 := Tryd.isAgg5
  z5 := Tryd.sizeOf5
  v5 := Tryd.zeroValue5
  t9 := Tryd.underlying9
  a9 := Tryd.isAgg9
  z9 := Tryd.sizeOf9
  v9 := Tryd.zeroValue9
  t46 := Tryd.underlying82
  a46 := Tryd.isAgg82
  z46 := Tryd.sizeOf82
  v46 := Tryd.zeroValue82
  t51 := Tryd.underlying112
  a51 := Tryd.isAgg112
  z51 := Tryd.sizeOf112
  v51 := Tryd.zeroValue112 }
open Go.RowKit Go.Lib in
/-- hashStr: "returns the hash and the appropriate multiplicative factor for use in Rabin-Karp algorithm": THE HASH OF ALL OF sep, AND 16777619 ^ len(sep), both in uint32. (LAID: no walk: one application.) -/
theorem Tryd.bytealg_hashStr (sep : ByteArray) (hs : sep.size < 4294967281) (w : World) :
    Calls Tryd.prog 101 #[.string sep] w fun e w' => e = .returned (.tuple #[.int .u32 (RK.H sep.data.toList % 4294967296), .int .u32 (16777619 ^ sep.size % 4294967296)]) ∧ w' = w := Any.bytealg_hashStr Tryd.lays314 sep hs w
def Tryd.lays267_ren : Go.Shelf.Ren := ⟨fun | 267 => 95 | 314 => 101 | n => n, fun | 9 => 9 | 3 => 3 | 146 => 165 | 51 => 112 | 4 => 4 | 5 => 5 | 46 => 82 | n => n, fun | n => n⟩
theorem Tryd.lays267 : Go.Proofs.Lays.n267 Tryd.prog Tryd.lays267_ren := {
  mixed := by kernel_rfl
  f267 := Tryd.func95.trans (congrArg some (by kernel_rfl))
  f314 := Tryd.func101.trans (congrArg some (by kernel_rfl))
  t3 := Tryd.underlying3
  a3 := Tryd.isAgg3
  z3 := Tryd.sizeOf3
  v3 := Tryd.zeroValue3
  t4 := Tryd.underlying4
  a4 := Tryd.isAgg4
  z4 := Tryd.sizeOf4
  v4 := Tryd.zeroValue4
  t5 := Tryd.underlying5
  a5 := Tryd.isAgg5
  z5 := Tryd.sizeOf5
  v5 := Tryd.zeroValue5
  t9 := Tryd.underlying9
  a9 := Tryd.isAgg9
  z9 := Tryd.sizeOf9
  v9 := Tryd.zeroValue9
  t46 := Tryd.underlying82
  a46 := Tryd.isAgg82
  z46 := Tryd.sizeOf82
  v46 := Tryd.zeroValue82
  t51 := Tryd.underlying112
  a51 := Tryd.isAgg112
  z51 := Tryd.sizeOf112
  v51 := Tryd.zeroValue112
  t146 := Tryd.underlying165
  a146 := Tryd.isAgg165
  z146 := Tryd.sizeOf165
  v146 := Tryd.zeroValue165 }
open Go.RowKit Go.Lib in
theorem Tryd.bytealg_IndexRabinKarp (s sep : ByteArray) (h1 : 1 ≤ sep.size) (h2 : sep.size ≤ s.size) (hs : s.size < 4294967281) (w : World) :
    Calls Tryd.prog 95 #[.string s, .string sep] w fun e w' => e = .returned (.int .i64 (Lib.index s.data.toList sep.data.toList)) ∧ w' = w := Any.bytealg_IndexRabinKarp Tryd.lays267 s sep h1 h2 hs w
def Tryd.lays219_ren : Go.Shelf.Ren := ⟨fun | 219 => 77 | 217 => 92 | 225 => 93 | 224 => 94 | 267 => 95 | 266 => 100 | 314 => 101 | n => n, fun | 9 => 9 | 3 => 3 | 4 => 4 | 5 => 5 | 46 => 82 | 146 => 165 | 51 => 112 | n => n, fun | 1 => 3 | n => n⟩
theorem Tryd.lays219 : Go.Proofs.Lays.n219 Tryd.prog Tryd.lays219_ren := {
  mixed := by kernel_rfl
  f217 := Tryd.func92.trans (congrArg some (by kernel_rfl))
  f219 := Tryd.func77.trans (congrArg some (by kernel_rfl))
  f224 := Tryd.func94.trans (congrArg some (by kernel_rfl))
  f225 := Tryd.func93.trans (congrArg some (by kernel_rfl))
  f266 := Tryd.func100.trans (congrArg some (by kernel_rfl))
  f267 := Tryd.func95.trans (congrArg some (by kernel_rfl))
  f314 := Tryd.func101.trans (congrArg some (by kernel_rfl))
  t3 := Tryd.underlying3
  a3 := Tryd.isAgg3
  z3 := Tryd.sizeOf3
  v3 := Tryd.zeroValue3
  t4 := Tryd.underlying4
  a4 := Tryd.isAgg4
  z4 := Tryd.sizeOf4
  v4 := Tryd.zeroValue4
  t5 := Tryd.underlying5
  a5 := Tryd.isAgg5
  z5 := Tryd.sizeOf5
  v5 := Tryd.zeroValue5
  t9 := Tryd.underlying9
  a9 := Tryd.isAgg9
  z9 := Tryd.sizeOf9
  v9 := Tryd.zeroValue9
  t46 := Tryd.underlying82
  a46 := Tryd.isAgg82
  z46 := Tryd.sizeOf82
  v46 := Tryd.zeroValue82
  t51 := Tryd.underlying112
  a51 := Tryd.isAgg112
  z51 := Tryd.sizeOf112
  v51 := Tryd.zeroValue112
  t146 := Tryd.underlying165
  a146 := Tryd.isAgg165
  z146 := Tryd.sizeOf165
  v146 := Tryd.zeroValue165
  g1 := by kernel_rfl }
open Go.RowKit Go.Lib in
/-- internal/stringslite.Index (what strings.Index calls) AT A substr OF ONE BYTE c: IT RETURNS 'Lib.indexByte s c'; the world is as it was. (LAID: no walk: one application.) -/
theorem Tryd.stringslite_Index_one (s : ByteArray) (c : UInt8) (w : World) :
    Calls Tryd.prog 77 #[.string s, .string ⟨#[c]⟩] w fun e w' => e = .returned (.int .i64 (Lib.indexByte s.data.toList c)) ∧ w' = w := Any.stringslite_Index_one Tryd.lays219 s c w
open Go.RowKit Go.Lib in
/-- internal/stringslite.Index (what strings.Index calls) AT A substr OF WHATEVER LENGTH: IT RETURNS 'Lib.index s substr'; the world is as it was. 'm': what internal/bytealg.MaxLen holds: whatever. (LAID: no walk: one application.) -/
theorem Tryd.stringslite_Index (s sub : ByteArray) (m : Int) (w : World) (hs : s.size < 4294967281) (hm : w.cell? ⟨3, 0, none⟩ = some (.int .i64 m)) :
    Calls Tryd.prog 77 #[.string s, .string sub] w fun e w' => e = .returned (.int .i64 (Lib.index s.data.toList sub.data.toList)) ∧ w' = w := Any.stringslite_Index Tryd.lays219 s sub m w hs hm
def Tryd.lays143_ren : Go.Shelf.Ren := ⟨fun | 143 => 60 | 219 => 77 | 217 => 92 | 225 => 93 | 224 => 94 | 267 => 95 | 266 => 100 | 314 => 101 | n => n, fun | 9 => 9 | 3 => 3 | 4 => 4 | 5 => 5 | 46 => 82 | 146 => 165 | 51 => 112 | n => n, fun | 1 => 3 | n => n⟩
theorem Tryd.lays143 : Go.Proofs.Lays.n143 Tryd.prog Tryd.lays143_ren := {
  mixed := by kernel_rfl
  f143 := Tryd.func60.trans (congrArg some (by kernel_rfl))
  f217 := Tryd.func92.trans (congrArg some (by kernel_rfl))
  f219 := Tryd.func77.trans (congrArg some (by kernel_rfl))
  f224 := Tryd.func94.trans (congrArg some (by kernel_rfl))
  f225 := Tryd.func93.trans (congrArg some (by kernel_rfl))
  f266 := Tryd.func100.trans (congrArg some (by kernel_rfl))
  f267 := Tryd.func95.trans (congrArg some (by kernel_rfl))
  f314 := Tryd.func101.trans (congrArg some (by kernel_rfl))
  t3 := Tryd.underlying3
  a3 := Tryd.isAgg3
  z3 := Tryd.sizeOf3
  v3 := Tryd.zeroValue3
  t4 := Tryd.underlying4
  a4 := Tryd.isAgg4
  z4 := Tryd.sizeOf4
  v4 := Tryd.zeroValue4
  t5 := Tryd.underlying5
  a5 := Tryd.isAgg5
  z5 := Tryd.sizeOf5
  v5 := Tryd.zeroValue5
  t9 := Tryd.underlying9
  a9 := Tryd.isAgg9
  z9 := Tryd.sizeOf9
  v9 := Tryd.zeroValue9
  t46 := Tryd.underlying82
  a46 := Tryd.isAgg82
  z46 := Tryd.sizeOf82
  v46 := Tryd.zeroValue82
  t51 := Tryd.underlying112
  a51 := Tryd.isAgg112
  z51 := Tryd.sizeOf112
  v51 := Tryd.zeroValue112
  t146 := Tryd.underlying165
  a146 := Tryd.isAgg165
  z146 := Tryd.sizeOf165
  v146 := Tryd.zeroValue165
  g1 := by kernel_rfl }
open Go.RowKit Go.Lib in
/-- strings.Index: "Index returns the index of the first instance of substr in s, or -1 if substr is not present in s.": AT A substr OF ONE BYTE c: IT RETURNS 'Lib.indexByte s c'; the world is as it was. (LAID: no walk: one application.) -/
theorem Tryd.strings_Index_one (s : ByteArray) (c : UInt8) (w : World) :
    Calls Tryd.prog 60 #[.string s, .string ⟨#[c]⟩] w fun e w' => e = .returned (.int .i64 (Lib.indexByte s.data.toList c)) ∧ w' = w := Any.strings_Index_one Tryd.lays143 s c w
open Go.RowKit Go.Lib in
/-- strings.Index: "Index returns the index of the first instance of substr in s, or -1 if substr is not present in s.": IT RETURNS 'Lib.index s substr'; the world is as it was. (LAID: no walk: one application.) -/
theorem Tryd.strings_Index (s sub : ByteArray) (m : Int) (w : World) (hs : s.size < 4294967281) (hm : w.cell? ⟨3, 0, none⟩ = some (.int .i64 m)) :
    Calls Tryd.prog 60 #[.string s, .string sub] w fun e w' => e = .returned (.int .i64 (Lib.index s.data.toList sub.data.toList)) ∧ w' = w := Any.strings_Index Tryd.lays143 s sub m w hs hm
def Tryd.lays144_ren : Go.Shelf.Ren := ⟨fun | 144 => 48 | 143 => 60 | 219 => 77 | 217 => 92 | 225 => 93 | 224 => 94 | 267 => 95 | 266 => 100 | 314 => 101 | n => n, fun | 9 => 9 | 4 => 4 | 3 => 3 | 5 => 5 | 46 => 82 | 146 => 165 | 51 => 112 | n => n, fun | 1 => 3 | n => n⟩
theorem Tryd.lays144 : Go.Proofs.Lays.n144 Tryd.prog Tryd.lays144_ren := {
  mixed := by kernel_rfl
  f143 := Tryd.func60.trans (congrArg some (by kernel_rfl))
  f144 := Tryd.func48.trans (congrArg some (by kernel_rfl))
  f217 := Tryd.func92.trans (congrArg some (by kernel_rfl))
  f219 := Tryd.func77.trans (congrArg some (by kernel_rfl))
  f224 := Tryd.func94.trans (congrArg some (by kernel_rfl))
  f225 := Tryd.func93.trans (congrArg some (by kernel_rfl))
  f266 := Tryd.func100.trans (congrArg some (by kernel_rfl))
  f267 := Tryd.func95.trans (congrArg some (by kernel_rfl))
  f314 := Tryd.func101.trans (congrArg some (by kernel_rfl))
  t3 := Tryd.underlying3
  a3 := Tryd.isAgg3
  z3 := Tryd.sizeOf3
  v3 := Tryd.zeroValue3
  t4 := Tryd.underlying4
  a4 := Tryd.isAgg4
  z4 := Tryd.sizeOf4
  v4 := Tryd.zeroValue4
  t5 := Tryd.underlying5
  a5 := Tryd.isAgg5
  z5 := Tryd.sizeOf5
  v5 := Tryd.zeroValue5
  t9 := Tryd.underlying9
  a9 := Tryd.isAgg9
  z9 := Tryd.sizeOf9
  v9 := Tryd.zeroValue9
  t46 := Tryd.underlying82
  a46 := Tryd.isAgg82
  z46 := Tryd.sizeOf82
  v46 := Tryd.zeroValue82
  t51 := Tryd.underlying112
  a51 := Tryd.isAgg112
  z51 := Tryd.sizeOf112
  v51 := Tryd.zeroValue112
  t146 := Tryd.underlying165
  a146 := Tryd.isAgg165
  z146 := Tryd.sizeOf165
  v146 := Tryd.zeroValue165
  g1 := by kernel_rfl }
open Go.RowKit Go.Lib in
/-- strings.Contains: "Contains reports whether substr is within s.": AT A substr OF ONE BYTE c: IT RETURNS 'decide (0 ≤ Lib.indexByte s c)'; the world is as it was. (LAID: no walk: one application.) -/
theorem Tryd.strings_Contains_one (s : ByteArray) (c : UInt8) (w : World) :
    Calls Tryd.prog 48 #[.string s, .string ⟨#[c]⟩] w fun e w' => e = .returned (.bool (decide (0 ≤ Lib.indexByte s.data.toList c))) ∧ w' = w := Any.strings_Contains_one Tryd.lays144 s c w
open Go.RowKit Go.Lib in
/-- strings.Contains: "Contains reports whether substr is within s.": IT RETURNS 'Lib.contains s substr'; the world is as it was. (LAID: no walk: one application.) -/
theorem Tryd.strings_Contains (s sub : ByteArray) (m : Int) (w : World) (hs : s.size < 4294967281) (hm : w.cell? ⟨3, 0, none⟩ = some (.int .i64 m)) :
    Calls Tryd.prog 48 #[.string s, .string sub] w fun e w' => e = .returned (.bool (Lib.contains s.data.toList sub.data.toList)) ∧ w' = w := Any.strings_Contains Tryd.lays144 s sub m w hs hm
def Tryd.laysM219_ren : Go.Shelf.Ren := ⟨fun | 219 => 77 | 217 => 92 | 225 => 93 | 224 => 94 | 267 => 95 | 266 => 100 | 314 => 101 | n => n, fun | 9 => 9 | 3 => 3 | 4 => 4 | 5 => 5 | 46 => 82 | 146 => 165 | 51 => 112 | n => n, fun | 1 => 3 | n => n⟩
theorem Tryd.laysM219 : Go.Proofs.LaysM.n219 Tryd.prog Tryd.laysM219_ren := {
  mixed := by kernel_rfl
  f217 := Tryd.func92.trans (congrArg some (by kernel_rfl))
  f219 := Tryd.func77.trans (congrArg some (by kernel_rfl))
  f224 := Tryd.func94.trans (congrArg some (by kernel_rfl))
  f225 := Tryd.func93.trans (congrArg some (by kernel_rfl))
  f266 := Tryd.func100.trans (congrArg some (by kernel_rfl))
  f267 := Tryd.func95.trans (congrArg some (by kernel_rfl))
  f314 := Tryd.func101.trans (congrArg some (by kernel_rfl))
  t3 := Tryd.underlying3
  a3 := Tryd.isAgg3
  z3 := Tryd.sizeOf3
  v3 := Tryd.zeroValue3
  t4 := Tryd.underlying4
  a4 := Tryd.isAgg4
  z4 := Tryd.sizeOf4
  v4 := Tryd.zeroValue4
  t5 := Tryd.underlying5
  a5 := Tryd.isAgg5
  z5 := Tryd.sizeOf5
  v5 := Tryd.zeroValue5
  t9 := Tryd.underlying9
  a9 := Tryd.isAgg9
  z9 := Tryd.sizeOf9
  v9 := Tryd.zeroValue9
  t46 := Tryd.underlying82
  a46 := Tryd.isAgg82
  z46 := Tryd.sizeOf82
  v46 := Tryd.zeroValue82
  t51 := Tryd.underlying112
  a51 := Tryd.isAgg112
  z51 := Tryd.sizeOf112
  v51 := Tryd.zeroValue112
  t146 := Tryd.underlying165
  a146 := Tryd.isAgg165
  z146 := Tryd.sizeOf165
  v146 := Tryd.zeroValue165
  g1 := by kernel_rfl
  i3 := by kernel_rfl
  i4 := by kernel_rfl
  i5 := by kernel_rfl
  i9 := by kernel_rfl
  i46 := by kernel_rfl
  i51 := by kernel_rfl
  i146 := by kernel_rfl
  m1 := by kernel_rfl
  s1_3 := fun w h => Go.Proofs.cell_of_shapedOpen_int (zero := #[.int .i64 0]) (t := 3) h (of_decide_eq_true (by kernel_rfl)) (by kernel_rfl) rfl (by kernel_rfl) (by kernel_rfl) Tryd.underlying3 }
open Go.RowKit Go.Lib in
theorem Tryd.stringslite_Index_shaped (s sub : ByteArray) (w : World) (h : w.ShapedOpen Tryd.prog) (hs : s.size < 4294967281) :
    Calls Tryd.prog 77 #[.string s, .string sub] w fun e w' => e = .returned (.int .i64 (Lib.index s.data.toList sub.data.toList)) ∧ w' = w := Any.stringslite_Index_shaped Tryd.laysM219 s sub w h hs
def Tryd.laysM143_ren : Go.Shelf.Ren := ⟨fun | 143 => 60 | 219 => 77 | 217 => 92 | 225 => 93 | 224 => 94 | 267 => 95 | 266 => 100 | 314 => 101 | n => n, fun | 9 => 9 | 3 => 3 | 4 => 4 | 5 => 5 | 46 => 82 | 146 => 165 | 51 => 112 | n => n, fun | 1 => 3 | n => n⟩
theorem Tryd.laysM143 : Go.Proofs.LaysM.n143 Tryd.prog Tryd.laysM143_ren := {
  mixed := by kernel_rfl
  f143 := Tryd.func60.trans (congrArg some (by kernel_rfl))
  f217 := Tryd.func92.trans (congrArg some (by kernel_rfl))
  f219 := Tryd.func77.trans (congrArg some (by kernel_rfl))
  f224 := Tryd.func94.trans (congrArg some (by kernel_rfl))
  f225 := Tryd.func93.trans (congrArg some (by kernel_rfl))
  f266 := Tryd.func100.trans (congrArg some (by kernel_rfl))
  f267 := Tryd.func95.trans (congrArg some (by kernel_rfl))
  f314 := Tryd.func101.trans (congrArg some (by kernel_rfl))
  t3 := Tryd.underlying3
  a3 := Tryd.isAgg3
  z3 := Tryd.sizeOf3
  v3 := Tryd.zeroValue3
  t4 := Tryd.underlying4
  a4 := Tryd.isAgg4
  z4 := Tryd.sizeOf4
  v4 := Tryd.zeroValue4
  t5 := Tryd.underlying5
  a5 := Tryd.isAgg5
  z5 := Tryd.sizeOf5
  v5 := Tryd.zeroValue5
  t9 := Tryd.underlying9
  a9 := Tryd.isAgg9
  z9 := Tryd.sizeOf9
  v9 := Tryd.zeroValue9
  t46 := Tryd.underlying82
  a46 := Tryd.isAgg82
  z46 := Tryd.sizeOf82
  v46 := Tryd.zeroValue82
  t51 := Tryd.underlying112
  a51 := Tryd.isAgg112
  z51 := Tryd.sizeOf112
  v51 := Tryd.zeroValue112
  t146 := Tryd.underlying165
  a146 := Tryd.isAgg165
  z146 := Tryd.sizeOf165
  v146 := Tryd.zeroValue165
  g1 := by kernel_rfl
  i3 := by kernel_rfl
  i4 := by kernel_rfl
  i5 := by kernel_rfl
  i9 := by kernel_rfl
  i46 := by kernel_rfl
  i51 := by kernel_rfl
  i146 := by kernel_rfl
  m1 := by kernel_rfl
  s1_3 := fun w h => Go.Proofs.cell_of_shapedOpen_int (zero := #[.int .i64 0]) (t := 3) h (of_decide_eq_true (by kernel_rfl)) (by kernel_rfl) rfl (by kernel_rfl) (by kernel_rfl) Tryd.underlying3 }
open Go.RowKit Go.Lib in
theorem Tryd.strings_Index_shaped (s sub : ByteArray) (w : World) (h : w.ShapedOpen Tryd.prog) (hs : s.size < 4294967281) :
    Calls Tryd.prog 60 #[.string s, .string sub] w fun e w' => e = .returned (.int .i64 (Lib.index s.data.toList sub.data.toList)) ∧ w' = w := Any.strings_Index_shaped Tryd.laysM143 s sub w h hs
def Tryd.laysM144_ren : Go.Shelf.Ren := ⟨fun | 144 => 48 | 143 => 60 | 219 => 77 | 217 => 92 | 225 => 93 | 224 => 94 | 267 => 95 | 266 => 100 | 314 => 101 | n => n, fun | 9 => 9 | 4 => 4 | 3 => 3 | 5 => 5 | 46 => 82 | 146 => 165 | 51 => 112 | n => n, fun | 1 => 3 | n => n⟩
theorem Tryd.laysM144 : Go.Proofs.LaysM.n144 Tryd.prog Tryd.laysM144_ren := {
  mixed := by kernel_rfl
  f143 := Tryd.func60.trans (congrArg some (by kernel_rfl))
  f144 := Tryd.func48.trans (congrArg some (by kernel_rfl))
  f217 := Tryd.func92.trans (congrArg some (by kernel_rfl))
  f219 := Tryd.func77.trans (congrArg some (by kernel_rfl))
  f224 := Tryd.func94.trans (congrArg some (by kernel_rfl))
  f225 := Tryd.func93.trans (congrArg some (by kernel_rfl))
  f266 := Tryd.func100.trans (congrArg some (by kernel_rfl))
  f267 := Tryd.func95.trans (congrArg some (by kernel_rfl))
  f314 := Tryd.func101.trans (congrArg some (by kernel_rfl))
  t3 := Tryd.underlying3
  a3 := Tryd.isAgg3
  z3 := Tryd.sizeOf3
  v3 := Tryd.zeroValue3
  t4 := Tryd.underlying4
  a4 := Tryd.isAgg4
  z4 := Tryd.sizeOf4
  v4 := Tryd.zeroValue4
  t5 := Tryd.underlying5
  a5 := Tryd.isAgg5
  z5 := Tryd.sizeOf5
  v5 := Tryd.zeroValue5
  t9 := Tryd.underlying9
  a9 := Tryd.isAgg9
  z9 := Tryd.sizeOf9
  v9 := Tryd.zeroValue9
  t46 := Tryd.underlying82
  a46 := Tryd.isAgg82
  z46 := Tryd.sizeOf82
  v46 := Tryd.zeroValue82
  t51 := Tryd.underlying112
  a51 := Tryd.isAgg112
  z51 := Tryd.sizeOf112
  v51 := Tryd.zeroValue112
  t146 := Tryd.underlying165
  a146 := Tryd.isAgg165
  z146 := Tryd.sizeOf165
  v146 := Tryd.zeroValue165
  g1 := by kernel_rfl
  i3 := by kernel_rfl
  i4 := by kernel_rfl
  i5 := by kernel_rfl
  i9 := by kernel_rfl
  i46 := by kernel_rfl
  i51 := by kernel_rfl
  i146 := by kernel_rfl
  m1 := by kernel_rfl
  s1_3 := fun w h => Go.Proofs.cell_of_shapedOpen_int (zero := #[.int .i64 0]) (t := 3) h (of_decide_eq_true (by kernel_rfl)) (by kernel_rfl) rfl (by kernel_rfl) (by kernel_rfl) Tryd.underlying3 }
open Go.RowKit Go.Lib in
theorem Tryd.strings_Contains_shaped (s sub : ByteArray) (w : World) (h : w.ShapedOpen Tryd.prog) (hs : s.size < 4294967281) :
    Calls Tryd.prog 48 #[.string s, .string sub] w fun e w' => e = .returned (.bool (Lib.contains s.data.toList sub.data.toList)) ∧ w' = w := Any.strings_Contains_shaped Tryd.laysM144 s sub w h hs
def Tryd.lays189_ren : Go.Shelf.Ren := ⟨fun | 189 => 38 | 125 => 52 | 257 => 51 | 128 => 70 | 129 => 71 | 294 => 61 | 295 => 62 | 296 => 63 | 297 => 64 | 298 => 65 | 299 => 66 | 216 => 67 | 300 => 68 | 301 => 69 | 328 => 78 | 329 => 79 | 330 => 80 | 331 => 81 | 332 => 82 | 215 => 83 | 343 => 96 | n => n, fun | 28 => 29 | 3 => 3 | 46 => 82 | 0 => 0 | 51 => 112 | 53 => 114 | 4 => 4 | 183 => 104 | 182 => 103 | 131 => 109 | 5 => 5 | 9 => 9 | 218 => 135 | 222 => 139 | 228 => 158 | 229 => 159 | n => n, fun | n => n⟩
theorem Tryd.lays189 : Go.Proofs.Lays.n189 Tryd.prog Tryd.lays189_ren := {
  mixed := by kernel_rfl
  f125 := Tryd.func52.trans (congrArg some (by kernel_rfl))
  f128 := Tryd.func70.trans (congrArg some (by kernel_rfl))
  f129 := Tryd.func71.trans (congrArg some (by kernel_rfl))
  f189 := Tryd.func38.trans (congrArg some (by kernel_rfl))
  f215 := Tryd.func83.trans (congrArg some (by kernel_rfl))
  f216 := Tryd.func67.trans (congrArg some (by kernel_rfl))
  f257 := Tryd.func51.trans (congrArg some (by kernel_rfl))
  f294 := Tryd.func61.trans (congrArg some (by kernel_rfl))
  f295 := Tryd.func62.trans (congrArg some (by kernel_rfl))
  f296 := Tryd.func63.trans (congrArg some (by kernel_rfl))
  f297 := Tryd.func64.trans (congrArg some (by kernel_rfl))
  f298 := Tryd.func65.trans (congrArg some (by kernel_rfl))
  f299 := Tryd.func66.trans (congrArg some (by kernel_rfl))
  f300 := Tryd.func68.trans (congrArg some (by kernel_rfl))
  f301 := Tryd.func69.trans (congrArg some (by kernel_rfl))
  f328 := Tryd.func78.trans (congrArg some (by kernel_rfl))
  f329 := Tryd.func79.trans (congrArg some (by kernel_rfl))
  f330 := Tryd.func80.trans (congrArg some (by kernel_rfl))
  f331 := Tryd.func81.trans (congrArg some (by kernel_rfl))
  f332 := Tryd.func82.trans (congrArg some (by kernel_rfl))
  f343 := Tryd.func96.trans (congrArg some (by kernel_rfl))
  t0 := Tryd.underlying0
  a0 := Tryd.isAgg0
  z0 := Tryd.sizeOf0
  v0 := Tryd.zeroValue0
  t3 := Tryd.underlying3
  a3 := Tryd.isAgg3
  z3 := Tryd.sizeOf3
  v3 := Tryd.zeroValue3
  t4 := Tryd.underlying4
  a4 := Tryd.isAgg4
  z4 := Tryd.sizeOf4
  v4 := Tryd.zeroValue4
  t5 := Tryd.underlying5
  a5 := Tryd.isAgg5
  z5 := Tryd.sizeOf5
  v5 := Tryd.zeroValue5
  t9 := Tryd.underlying9
  a9 := Tryd.isAgg9
  z9 := Tryd.sizeOf9
  v9 := Tryd.zeroValue9
  t28 := Tryd.underlying29
  a28 := Tryd.isAgg29
  z28 := Tryd.sizeOf29
  v28 := Tryd.zeroValue29
  t46 := Tryd.underlying82
  a46 := Tryd.isAgg82
  z46 := Tryd.sizeOf82
  v46 := Tryd.zeroValue82
  t51 := Tryd.underlying112
  a51 := Tryd.isAgg112
  z51 := Tryd.sizeOf112
  v51 := Tryd.zeroValue112
  t53 := Tryd.underlying114
  a53 := Tryd.isAgg114
  z53 := Tryd.sizeOf114
  v53 := Tryd.zeroValue114
  t131 := Tryd.underlying109
  a131 := Tryd.isAgg109
  z131 := Tryd.sizeOf109
  v131 := Tryd.zeroValue109
  t182 := Tryd.underlying103
  a182 := Tryd.isAgg103
  z182 := Tryd.sizeOf103
  v182 := Tryd.zeroValue103
  t183 := Tryd.underlying104
  a183 := Tryd.isAgg104
  z183 := Tryd.sizeOf104
  v183 := Tryd.zeroValue104
  t218 := Tryd.underlying135
  a218 := Tryd.isAgg135
  z218 := Tryd.sizeOf135
  v218 := Tryd.zeroValue135
  t222 := Tryd.underlying139
  a222 := Tryd.isAgg139
  z222 := Tryd.sizeOf139
  v222 := Tryd.zeroValue139
  t228 := Tryd.underlying158
  a228 := Tryd.isAgg158
  z228 := Tryd.sizeOf158
  v228 := Tryd.zeroValue158
  t229 := Tryd.underlying159
  a229 := Tryd.isAgg159
  z229 := Tryd.sizeOf159
  v229 := Tryd.zeroValue159 }
open Go.Sort Go.RowKit in
theorem Tryd.slices_Sort_int (blk off cap : Nat) (zs : List Int) (w : World) (hH : Holds (Value.int .i64) w blk off zs.toArray) (hblk : blk < w.heap.size) (hsz : zs.length < 4611686018427387904) :
    Calls Tryd.prog 38 #[.slice (some ⟨blk, off, none⟩) zs.length cap] w fun e w' =>
      e = .returned (.tuple #[]) ∧ ∃ n os, w' = grow (putRow (Value.int .i64) (Sort.ahead w n) blk off (zs.mergeSort fun x y => decide (x ≤ y)).toArray) os := Any.slices_Sort_int Tryd.lays189 blk off cap zs w hH hblk hsz
def Tryd.lays157_ren : Go.Shelf.Ren := ⟨fun | 157 => 40 | 229 => 53 | 199 => 54 | 261 => 72 | 311 => 84 | 312 => 85 | n => n, fun | 9 => 9 | 31 => 65 | 3 => 3 | 5 => 5 | 4 => 4 | 119 => 83 | 0 => 0 | 40 => 85 | 152 => 115 | 21 => 21 | 154 => 117 | 51 => 112 | 141 => 119 | 196 => 144 | 193 => 141 | 198 => 147 | 49 => 145 | 194 => 142 | 201 => 150 | 226 => 161 | 46 => 82 | 227 => 162 | n => n, fun | 0 => 0 | 6 => 2 | n => n⟩
theorem Tryd.lays157 : Go.Proofs.Lays.n157 Tryd.prog Tryd.lays157_ren := {
  mixed := by kernel_rfl
  f157 := Tryd.func40.trans (congrArg some (by kernel_rfl))
  f199 := Tryd.func54.trans (congrArg some (by kernel_rfl))
  f229 := Tryd.func53.trans (congrArg some (by kernel_rfl))
  f261 := Tryd.func72.trans (congrArg some (by kernel_rfl))
  f311 := Tryd.func84.trans (congrArg some (by kernel_rfl))
  f312 := Tryd.func85.trans (congrArg some (by kernel_rfl))
  t0 := Tryd.underlying0
  a0 := Tryd.isAgg0
  z0 := Tryd.sizeOf0
  v0 := Tryd.zeroValue0
  t3 := Tryd.underlying3
  a3 := Tryd.isAgg3
  z3 := Tryd.sizeOf3
  v3 := Tryd.zeroValue3
  t4 := Tryd.underlying4
  a4 := Tryd.isAgg4
  z4 := Tryd.sizeOf4
  v4 := Tryd.zeroValue4
  t5 := Tryd.underlying5
  a5 := Tryd.isAgg5
  z5 := Tryd.sizeOf5
  v5 := Tryd.zeroValue5
  t9 := Tryd.underlying9
  a9 := Tryd.isAgg9
  z9 := Tryd.sizeOf9
  v9 := Tryd.zeroValue9
  t21 := Tryd.underlying21
  a21 := Tryd.isAgg21
  z21 := Tryd.sizeOf21
  v21 := Tryd.zeroValue21
  t31 := Tryd.underlying65
  a31 := Tryd.isAgg65
  z31 := Tryd.sizeOf65
  v31 := Tryd.zeroValue65
  t40 := Tryd.underlying85
  a40 := Tryd.isAgg85
  z40 := Tryd.sizeOf85
  v40 := Tryd.zeroValue85
  t46 := Tryd.underlying82
  a46 := Tryd.isAgg82
  z46 := Tryd.sizeOf82
  v46 := Tryd.zeroValue82
  t49 := Tryd.underlying145
  a49 := Tryd.isAgg145
  z49 := Tryd.sizeOf145
  v49 := Tryd.zeroValue145
  t51 := Tryd.underlying112
  a51 := Tryd.isAgg112
  z51 := Tryd.sizeOf112
  v51 := Tryd.zeroValue112
  t119 := Tryd.underlying83
  a119 := Tryd.isAgg83
  z119 := Tryd.sizeOf83
  t141 := Tryd.underlying119
  a141 := Tryd.isAgg119
  z141 := Tryd.sizeOf119
  v141 := Tryd.zeroValue119
  t152 := Tryd.underlying115
  a152 := Tryd.isAgg115
  z152 := Tryd.sizeOf115
  v152 := Tryd.zeroValue115
  t154 := Tryd.underlying117
  a154 := Tryd.isAgg117
  z154 := Tryd.sizeOf117
  v154 := Tryd.zeroValue117
  t193 := Tryd.underlying141
  a193 := Tryd.isAgg141
  z193 := Tryd.sizeOf141
  v193 := Tryd.zeroValue141
  t194 := Tryd.underlying142
  a194 := Tryd.isAgg142
  z194 := Tryd.sizeOf142
  v194 := Tryd.zeroValue142
  t196 := Tryd.underlying144
  a196 := Tryd.isAgg144
  z196 := Tryd.sizeOf144
  v196 := Tryd.zeroValue144
  t198 := Tryd.underlying147
  a198 := Tryd.isAgg147
  z198 := Tryd.sizeOf147
  v198 := Tryd.zeroValue147
  t201 := Tryd.underlying150
  a201 := Tryd.isAgg150
  z201 := Tryd.sizeOf150
  v201 := Tryd.zeroValue150
  t226 := Tryd.underlying161
  a226 := Tryd.isAgg161
  z226 := Tryd.sizeOf161
  v226 := Tryd.zeroValue161
  t227 := Tryd.underlying162
  a227 := Tryd.isAgg162
  z227 := Tryd.sizeOf162
  v227 := Tryd.zeroValue162
  g0 := by kernel_rfl
  g6 := by kernel_rfl }
open Go.RowKit Go.Lib in
/-- strings.Fields, the table by 'Lib.TabIs' (as strings.TrimSpace's contract). 'hg': the table's number, by its name: at a dump 'by kernel_rfl'. (LAID: no walk: one application.) -/
theorem Tryd.strings_Fields (s : ByteArray) (w : World) (hs : s.size < 4294967281) (hascii : ∀ (j : Nat) b, s.data.toList[j]? = some b → b.toNat < 128) (htab : Lib.TabIs Tryd.prog w "strings.asciiSpace" .u8 Lib.asciiSpaceTab) :
    Calls Tryd.prog 40 #[.string s] w fun e w' =>
      e = .returned (.slice (some ⟨w.heap.size, 0, none⟩) (Lib.fields s.data.toList).length (Lib.fields s.data.toList).length) ∧ w' = w.alloc (.cells ((Lib.fields s.data.toList).map fun l => Value.string ⟨l.toArray⟩).toArray 9) := Any.strings_Fields Tryd.lays157 (by kernel_rfl) (by kernel_rfl) s w hs hascii htab
def Tryd.laysM157_ren : Go.Shelf.Ren := ⟨fun | 157 => 40 | 229 => 53 | 199 => 54 | 261 => 72 | 311 => 84 | 312 => 85 | n => n, fun | 9 => 9 | 31 => 65 | 3 => 3 | 5 => 5 | 4 => 4 | 119 => 83 | 0 => 0 | 40 => 85 | 152 => 115 | 21 => 21 | 154 => 117 | 51 => 112 | 141 => 119 | 196 => 144 | 193 => 141 | 198 => 147 | 49 => 145 | 194 => 142 | 201 => 150 | 226 => 161 | 46 => 82 | 227 => 162 | n => n, fun | 0 => 0 | 6 => 2 | n => n⟩
theorem Tryd.laysM157 : Go.Proofs.LaysM.n157 Tryd.prog Tryd.laysM157_ren := {
  mixed := by kernel_rfl
  f157 := Tryd.func40.trans (congrArg some (by kernel_rfl))
  f199 := Tryd.func54.trans (congrArg some (by kernel_rfl))
  f229 := Tryd.func53.trans (congrArg some (by kernel_rfl))
  f261 := Tryd.func72.trans (congrArg some (by kernel_rfl))
  f311 := Tryd.func84.trans (congrArg some (by kernel_rfl))
  f312 := Tryd.func85.trans (congrArg some (by kernel_rfl))
  t0 := Tryd.underlying0
  a0 := Tryd.isAgg0
  z0 := Tryd.sizeOf0
  v0 := Tryd.zeroValue0
  t3 := Tryd.underlying3
  a3 := Tryd.isAgg3
  z3 := Tryd.sizeOf3
  v3 := Tryd.zeroValue3
  t4 := Tryd.underlying4
  a4 := Tryd.isAgg4
  z4 := Tryd.sizeOf4
  v4 := Tryd.zeroValue4
  t5 := Tryd.underlying5
  a5 := Tryd.isAgg5
  z5 := Tryd.sizeOf5
  v5 := Tryd.zeroValue5
  t9 := Tryd.underlying9
  a9 := Tryd.isAgg9
  z9 := Tryd.sizeOf9
  v9 := Tryd.zeroValue9
  t21 := Tryd.underlying21
  a21 := Tryd.isAgg21
  z21 := Tryd.sizeOf21
  v21 := Tryd.zeroValue21
  t31 := Tryd.underlying65
  a31 := Tryd.isAgg65
  z31 := Tryd.sizeOf65
  v31 := Tryd.zeroValue65
  t40 := Tryd.underlying85
  a40 := Tryd.isAgg85
  z40 := Tryd.sizeOf85
  v40 := Tryd.zeroValue85
  t46 := Tryd.underlying82
  a46 := Tryd.isAgg82
  z46 := Tryd.sizeOf82
  v46 := Tryd.zeroValue82
  t49 := Tryd.underlying145
  a49 := Tryd.isAgg145
  z49 := Tryd.sizeOf145
  v49 := Tryd.zeroValue145
  t51 := Tryd.underlying112
  a51 := Tryd.isAgg112
  z51 := Tryd.sizeOf112
  v51 := Tryd.zeroValue112
  t119 := Tryd.underlying83
  a119 := Tryd.isAgg83
  z119 := Tryd.sizeOf83
  t141 := Tryd.underlying119
  a141 := Tryd.isAgg119
  z141 := Tryd.sizeOf119
  v141 := Tryd.zeroValue119
  t152 := Tryd.underlying115
  a152 := Tryd.isAgg115
  z152 := Tryd.sizeOf115
  v152 := Tryd.zeroValue115
  t154 := Tryd.underlying117
  a154 := Tryd.isAgg117
  z154 := Tryd.sizeOf117
  v154 := Tryd.zeroValue117
  t193 := Tryd.underlying141
  a193 := Tryd.isAgg141
  z193 := Tryd.sizeOf141
  v193 := Tryd.zeroValue141
  t194 := Tryd.underlying142
  a194 := Tryd.isAgg142
  z194 := Tryd.sizeOf142
  v194 := Tryd.zeroValue142
  t196 := Tryd.underlying144
  a196 := Tryd.isAgg144
  z196 := Tryd.sizeOf144
  v196 := Tryd.zeroValue144
  t198 := Tryd.underlying147
  a198 := Tryd.isAgg147
  z198 := Tryd.sizeOf147
  v198 := Tryd.zeroValue147
  t201 := Tryd.underlying150
  a201 := Tryd.isAgg150
  z201 := Tryd.sizeOf150
  v201 := Tryd.zeroValue150
  t226 := Tryd.underlying161
  a226 := Tryd.isAgg161
  z226 := Tryd.sizeOf161
  v226 := Tryd.zeroValue161
  t227 := Tryd.underlying162
  a227 := Tryd.isAgg162
  z227 := Tryd.sizeOf162
  v227 := Tryd.zeroValue162
  g0 := by kernel_rfl
  g6 := by kernel_rfl
  i0 := by kernel_rfl
  i3 := by kernel_rfl
  i4 := by kernel_rfl
  i5 := by kernel_rfl
  i9 := by kernel_rfl
  i21 := by kernel_rfl
  i31 := by kernel_rfl
  i40 := by kernel_rfl
  i46 := by kernel_rfl
  i49 := by kernel_rfl
  i51 := by kernel_rfl
  i141 := by kernel_rfl
  i152 := by kernel_rfl
  i154 := by kernel_rfl
  i193 := by kernel_rfl
  i194 := by kernel_rfl
  i196 := by kernel_rfl
  i198 := by kernel_rfl
  i201 := by kernel_rfl
  i226 := by kernel_rfl
  i227 := by kernel_rfl
  m0 := by kernel_rfl
  m6 := by kernel_rfl }
open Go.RowKit Go.Lib in
/-- strings.Fields on ASCII bytes. (The table: 'Lib.TabIs', as strings.TrimSpace's contract asks it.) (LAID: no walk: one application.) -/
theorem Tryd.strings_Fields_laid (s : ByteArray) (w : World) (hs : s.size < 4294967281) (hascii : ∀ (j : Nat) b, s.data.toList[j]? = some b → b.toNat < 128) (htab : Lib.TabIs Tryd.prog w "strings.asciiSpace" .u8 Lib.asciiSpaceTab) :
    Calls Tryd.prog 40 #[.string s] w fun e w' =>
      e = .returned (.slice (some ⟨w.heap.size, 0, none⟩) (Lib.fields s.data.toList).length (Lib.fields s.data.toList).length) ∧ w' = w.alloc (.cells ((Lib.fields s.data.toList).map fun l => Value.string ⟨l.toArray⟩).toArray 9) := Any.strings_Fields_laid Tryd.laysM157 s w hs hascii htab
def Tryd.lays199_ren : Go.Shelf.Ren := ⟨fun | 199 => 54 | 261 => 72 | 311 => 84 | 312 => 85 | n => n, fun | 21 => 21 | 4 => 4 | 51 => 112 | 141 => 119 | 0 => 0 | 196 => 144 | 193 => 141 | 3 => 3 | 198 => 147 | 49 => 145 | 194 => 142 | 201 => 150 | 226 => 161 | 46 => 82 | 227 => 162 | n => n, fun | 6 => 2 | n => n⟩
theorem Tryd.lays199 : Go.Proofs.Lays.n199 Tryd.prog Tryd.lays199_ren := {
  mixed := by kernel_rfl
  f199 := Tryd.func54.trans (congrArg some (by kernel_rfl))
  f261 := Tryd.func72.trans (congrArg some (by kernel_rfl))
  f311 := Tryd.func84.trans (congrArg some (by kernel_rfl))
  f312 := Tryd.func85.trans (congrArg some (by kernel_rfl))
  t0 := Tryd.underlying0
  a0 := Tryd.isAgg0
  z0 := Tryd.sizeOf0
  v0 := Tryd.zeroValue0
  t3 := Tryd.underlying3
  a3 := Tryd.isAgg3
  z3 := Tryd.sizeOf3
  v3 := Tryd.zeroValue3
  t4 := Tryd.underlying4
  a4 := Tryd.isAgg4
  z4 := Tryd.sizeOf4
  v4 := Tryd.zeroValue4
  t21 := Tryd.underlying21
  a21 := Tryd.isAgg21
  z21 := Tryd.sizeOf21
  v21 := Tryd.zeroValue21
  t46 := Tryd.underlying82
  a46 := Tryd.isAgg82
  z46 := Tryd.sizeOf82
  v46 := Tryd.zeroValue82
  t49 := Tryd.underlying145
  a49 := Tryd.isAgg145
  z49 := Tryd.sizeOf145
  v49 := Tryd.zeroValue145
  t51 := Tryd.underlying112
  a51 := Tryd.isAgg112
  z51 := Tryd.sizeOf112
  v51 := Tryd.zeroValue112
  t141 := Tryd.underlying119
  a141 := Tryd.isAgg119
  z141 := Tryd.sizeOf119
  v141 := Tryd.zeroValue119
  t193 := Tryd.underlying141
  a193 := Tryd.isAgg141
  z193 := Tryd.sizeOf141
  v193 := Tryd.zeroValue141
  t194 := Tryd.underlying142
  a194 := Tryd.isAgg142
  z194 := Tryd.sizeOf142
  v194 := Tryd.zeroValue142
  t196 := Tryd.underlying144
  a196 := Tryd.isAgg144
  z196 := Tryd.sizeOf144
  v196 := Tryd.zeroValue144
  t198 := Tryd.underlying147
  a198 := Tryd.isAgg147
  z198 := Tryd.sizeOf147
  v198 := Tryd.zeroValue147
  t201 := Tryd.underlying150
  a201 := Tryd.isAgg150
  z201 := Tryd.sizeOf150
  v201 := Tryd.zeroValue150
  t226 := Tryd.underlying161
  a226 := Tryd.isAgg161
  z226 := Tryd.sizeOf161
  v226 := Tryd.zeroValue161
  t227 := Tryd.underlying162
  a227 := Tryd.isAgg162
  z227 := Tryd.sizeOf162
  v227 := Tryd.zeroValue162
  g6 := by kernel_rfl }
open Go.RowKit Go.Lib in
theorem Tryd.unicode_IsSpace (r : Int) (w : World) (h0 : 0 ≤ r) (h : r ≤ 255) :
    Calls Tryd.prog 54 #[.int .i32 r] w fun e w' => e = .returned (.bool (Lib.isSpaceL r)) ∧ w' = w := Any.unicode_IsSpace Tryd.lays199 r w h0 h
def Tryd.lays311_ren : Go.Shelf.Ren := ⟨fun | 311 => 84 | n => n, fun | 193 => 141 | 49 => 145 | 4 => 4 | 3 => 3 | 0 => 0 | 226 => 161 | 198 => 147 | 46 => 82 | n => n, fun | n => n⟩
theorem Tryd.lays311 : Go.Proofs.Lays.n311 Tryd.prog Tryd.lays311_ren := {
  mixed := by kernel_rfl
  f311 := Tryd.func84.trans (congrArg some (by kernel_rfl))
  t0 := Tryd.underlying0
  a0 := Tryd.isAgg0
  z0 := Tryd.sizeOf0
  v0 := Tryd.zeroValue0
  t3 := Tryd.underlying3
  a3 := Tryd.isAgg3
  z3 := Tryd.sizeOf3
  v3 := Tryd.zeroValue3
  t4 := Tryd.underlying4
  a4 := Tryd.isAgg4
  z4 := Tryd.sizeOf4
  v4 := Tryd.zeroValue4
  t46 := Tryd.underlying82
  a46 := Tryd.isAgg82
  z46 := Tryd.sizeOf82
  v46 := Tryd.zeroValue82
  t49 := Tryd.underlying145
  a49 := Tryd.isAgg145
  z49 := Tryd.sizeOf145
  v49 := Tryd.zeroValue145
  t193 := Tryd.underlying141
  a193 := Tryd.isAgg141
  z193 := Tryd.sizeOf141
  v193 := Tryd.zeroValue141
  t198 := Tryd.underlying147
  a198 := Tryd.isAgg147
  z198 := Tryd.sizeOf147
  v198 := Tryd.zeroValue147
  t226 := Tryd.underlying161
  a226 := Tryd.isAgg161
  z226 := Tryd.sizeOf161
  v226 := Tryd.zeroValue161 }
open Go.RowKit Go.Lib in
theorem Tryd.unicode_is16_white (R oR : Nat) (z : Nat) (w : World) (hz : z < 65536) (hz0 : 255 < z) (c6 : w.cell? ⟨R, oR + 6, none⟩ = some (.int .u16 160)) (c7 : w.cell? ⟨R, oR + 7, none⟩ = some (.int .u16 5760)) (c8 : w.cell? ⟨R, oR + 8, none⟩ = some (.int .u16 5600)) (c9 : w.cell? ⟨R, oR + 9, none⟩ = some (.int .u16 8192)) (c10 : w.cell? ⟨R, oR + 10, none⟩ = some (.int .u16 8202)) (c11 : w.cell? ⟨R, oR + 11, none⟩ = some (.int .u16 1)) (c12 : w.cell? ⟨R, oR + 12, none⟩ = some (.int .u16 8232)) (c13 : w.cell? ⟨R, oR + 13, none⟩ = some (.int .u16 8233)) (c14 : w.cell? ⟨R, oR + 14, none⟩ = some (.int .u16 1)) (c15 : w.cell? ⟨R, oR + 15, none⟩ = some (.int .u16 8239)) (c16 : w.cell? ⟨R, oR + 16, none⟩ = some (.int .u16 8287)) (c17 : w.cell? ⟨R, oR + 17, none⟩ = some (.int .u16 48)) (c18 : w.cell? ⟨R, oR + 18, none⟩ = some (.int .u16 12288)) (c19 : w.cell? ⟨R, oR + 19, none⟩ = some (.int .u16 12288)) (c20 : w.cell? ⟨R, oR + 20, none⟩ = some (.int .u16 1)) :
    Calls Tryd.prog 84 #[.slice (some ⟨R, oR + 6, none⟩) 5 5, .int .u16 z] w fun e w' => e = .returned (.bool (Lib.isSpaceR z)) ∧ Below w.heap.size w w' := Any.unicode_is16_white Tryd.lays311 R oR z w hz hz0 c6 c7 c8 c9 c10 c11 c12 c13 c14 c15 c16 c17 c18 c19 c20
def Tryd.lays261_ren : Go.Shelf.Ren := ⟨fun | 261 => 72 | 311 => 84 | 312 => 85 | n => n, fun | 141 => 119 | 21 => 21 | 4 => 4 | 0 => 0 | 196 => 144 | 193 => 141 | 3 => 3 | 51 => 112 | 198 => 147 | 49 => 145 | 194 => 142 | 201 => 150 | 226 => 161 | 46 => 82 | 227 => 162 | n => n, fun | n => n⟩
theorem Tryd.lays261 : Go.Proofs.Lays.n261 Tryd.prog Tryd.lays261_ren := {
  mixed := by kernel_rfl
  f261 := Tryd.func72.trans (congrArg some (by kernel_rfl))
  f311 := Tryd.func84.trans (congrArg some (by kernel_rfl))
  f312 := Tryd.func85.trans (congrArg some (by kernel_rfl))
  t0 := Tryd.underlying0
  a0 := Tryd.isAgg0
  z0 := Tryd.sizeOf0
  v0 := Tryd.zeroValue0
  t3 := Tryd.underlying3
  a3 := Tryd.isAgg3
  z3 := Tryd.sizeOf3
  v3 := Tryd.zeroValue3
  t4 := Tryd.underlying4
  a4 := Tryd.isAgg4
  z4 := Tryd.sizeOf4
  v4 := Tryd.zeroValue4
  t21 := Tryd.underlying21
  a21 := Tryd.isAgg21
  z21 := Tryd.sizeOf21
  v21 := Tryd.zeroValue21
  t46 := Tryd.underlying82
  a46 := Tryd.isAgg82
  z46 := Tryd.sizeOf82
  v46 := Tryd.zeroValue82
  t49 := Tryd.underlying145
  a49 := Tryd.isAgg145
  z49 := Tryd.sizeOf145
  v49 := Tryd.zeroValue145
  t51 := Tryd.underlying112
  a51 := Tryd.isAgg112
  z51 := Tryd.sizeOf112
  v51 := Tryd.zeroValue112
  t141 := Tryd.underlying119
  a141 := Tryd.isAgg119
  z141 := Tryd.sizeOf119
  v141 := Tryd.zeroValue119
  t193 := Tryd.underlying141
  a193 := Tryd.isAgg141
  z193 := Tryd.sizeOf141
  v193 := Tryd.zeroValue141
  t194 := Tryd.underlying142
  a194 := Tryd.isAgg142
  z194 := Tryd.sizeOf142
  v194 := Tryd.zeroValue142
  t196 := Tryd.underlying144
  a196 := Tryd.isAgg144
  z196 := Tryd.sizeOf144
  v196 := Tryd.zeroValue144
  t198 := Tryd.underlying147
  a198 := Tryd.isAgg147
  z198 := Tryd.sizeOf147
  v198 := Tryd.zeroValue147
  t201 := Tryd.underlying150
  a201 := Tryd.isAgg150
  z201 := Tryd.sizeOf150
  v201 := Tryd.zeroValue150
  t226 := Tryd.underlying161
  a226 := Tryd.isAgg161
  z226 := Tryd.sizeOf161
  v226 := Tryd.zeroValue161
  t227 := Tryd.underlying162
  a227 := Tryd.isAgg162
  z227 := Tryd.sizeOf162
  v227 := Tryd.zeroValue162 }
open Go.RowKit Go.Lib in
/-- unicode.isExcludingLatin(White_Space, r), r beyond U+00FF or negative. (LAID: no walk: one application.) -/
theorem Tryd.unicode_isExcludingLatin_white (T oT R oR : Nat) (r : Int) (w : World) (hlo : -2147483648 ≤ r) (hhi : r ≤ 2147483647) (hr : r < 0 ∨ 255 < r) (h2 : w.cell? ⟨T, oT, none⟩ = some (.slice (some ⟨R, oR, none⟩) 7 7)) (h3 : w.cell? ⟨T, oT + 1, none⟩ = some (.slice none 0 0)) (h4 : w.cell? ⟨T, oT + 2, none⟩ = some (.int .i64 2)) (h5 : ∀ i, i < 21 → w.cell? ⟨R, oR + i, none⟩ = some (.int .u16 (whiteT.getD i 0))) :
    Calls Tryd.prog 72 #[.pointer (some ⟨T, oT, none⟩), .int .i32 r] w fun e w' => e = .returned (.bool (Lib.isSpaceZ r)) ∧ Below w.heap.size w w' := Any.unicode_isExcludingLatin_white Tryd.lays261 T oT R oR r w hlo hhi hr h2 h3 h4 h5
open Go.RowKit Go.Lib in
/-- **unicode.IsSpace AT EVERY int32.** (LAID: no walk: one application.) -/
theorem Tryd.unicode_IsSpace_any (r : Int) (w : World) (hlo : -2147483648 ≤ r) (hhi : r ≤ 2147483647) (hW : Lib.WhiteTab 2 w) :
    Calls Tryd.prog 54 #[.int .i32 r] w fun e w' => e = .returned (.bool (Lib.isSpaceZ r)) ∧ Below w.heap.size w w' := Any.unicode_IsSpace_any Tryd.lays199 r w hlo hhi hW
open Go.RowKit Go.Lib in
theorem Tryd.unicode_is16_any (T : Array Rg) (R oR cap : Nat) (z : Nat) (w : World) (hz : z < 65536) (hT : RgTab .u16 R oR T w) (hok : RgOk 65536 T) (hn : T.size ≤ 1000000000) :
    Calls Tryd.prog 84 #[.slice (some ⟨R, oR, none⟩) T.size cap, .int .u16 z] w fun e w' => e = .returned (.bool (is16Go T z)) ∧ ∃ q, w' = w.drewN q := Any.unicode_is16_any Tryd.lays311 T R oR cap z w hz hT hok hn
def Tryd.lays312_ren : Go.Shelf.Ren := ⟨fun | 312 => 85 | n => n, fun | 194 => 142 | 51 => 112 | 4 => 4 | 3 => 3 | 0 => 0 | 227 => 162 | 201 => 150 | 46 => 82 | n => n, fun | n => n⟩
theorem Tryd.lays312 : Go.Proofs.Lays.n312 Tryd.prog Tryd.lays312_ren := {
  mixed := by kernel_rfl
  f312 := Tryd.func85.trans (congrArg some (by kernel_rfl))
  t0 := Tryd.underlying0
  a0 := Tryd.isAgg0
  z0 := Tryd.sizeOf0
  v0 := Tryd.zeroValue0
  t3 := Tryd.underlying3
  a3 := Tryd.isAgg3
  z3 := Tryd.sizeOf3
  v3 := Tryd.zeroValue3
  t4 := Tryd.underlying4
  a4 := Tryd.isAgg4
  z4 := Tryd.sizeOf4
  v4 := Tryd.zeroValue4
  t46 := Tryd.underlying82
  a46 := Tryd.isAgg82
  z46 := Tryd.sizeOf82
  v46 := Tryd.zeroValue82
  t51 := Tryd.underlying112
  a51 := Tryd.isAgg112
  z51 := Tryd.sizeOf112
  v51 := Tryd.zeroValue112
  t194 := Tryd.underlying142
  a194 := Tryd.isAgg142
  z194 := Tryd.sizeOf142
  v194 := Tryd.zeroValue142
  t201 := Tryd.underlying150
  a201 := Tryd.isAgg150
  z201 := Tryd.sizeOf150
  v201 := Tryd.zeroValue150
  t227 := Tryd.underlying162
  a227 := Tryd.isAgg162
  z227 := Tryd.sizeOf162
  v227 := Tryd.zeroValue162 }
open Go.RowKit Go.Lib in
theorem Tryd.unicode_is32_any (T : Array Rg) (R oR cap : Nat) (z : Nat) (w : World) (hz : z < 4294967296) (hT : RgTab .u32 R oR T w) (hok : RgOk 4294967296 T) (hn : T.size ≤ 1000000000) :
    Calls Tryd.prog 85 #[.slice (some ⟨R, oR, none⟩) T.size cap, .int .u32 z] w fun e w' => e = .returned (.bool (is32Go T z)) ∧ Below w.heap.size w w' := Any.unicode_is32_any Tryd.lays312 T R oR cap z w hz hT hok hn
open Go.RowKit Go.Lib in
theorem Tryd.unicode_isExcludingLatin_any (Tb oT : Nat) (T : RTab) (r : Int) (w : World) (hlo : -2147483648 ≤ r) (hhi : r ≤ 2147483647) (hA : RTabAt Tb oT T w) (hok : RTabOk T) :
    Calls Tryd.prog 72 #[.pointer (some ⟨Tb, oT, none⟩), .int .i32 r] w fun e w' => e = .returned (.bool (exclGo T r)) ∧ Below w.heap.size w w' := Any.unicode_isExcludingLatin_any Tryd.lays261 Tb oT T r w hlo hhi hA hok
def Tryd.laysNm220_ren : Go.Shelf.Ren := ⟨fun | 20 => 39 | n => n, fun | 22 => 29 | 3 => 3 | 4 => 4 | 0 => 0 | n => n, fun | n => n⟩
theorem Tryd.laysNm220 : Go.Proofs.Lays2.n20 Tryd.prog Tryd.laysNm220_ren := {
  mixed := by kernel_rfl
  f20 := Tryd.func39.trans (congrArg some (by kernel_rfl))
  t0 := Tryd.underlying0
  a0 := Tryd.isAgg0
  z0 := Tryd.sizeOf0
  v0 := Tryd.zeroValue0
  t3 := Tryd.underlying3
  a3 := Tryd.isAgg3
  z3 := Tryd.sizeOf3
  v3 := Tryd.zeroValue3
  t4 := Tryd.underlying4
  a4 := Tryd.isAgg4
  z4 := Tryd.sizeOf4
  v4 := Tryd.zeroValue4
  t22 := Tryd.underlying29
  a22 := Tryd.isAgg29
  z22 := Tryd.sizeOf29
  v22 := Tryd.zeroValue29
  i3 := by kernel_rfl }
open Go.RowKit Go.Lib Go.Sort in
/-- slices.Compact at []int, over an array: the library's two loops are walked. (LAID: no walk: one application.) -/
theorem Tryd.slices_Compact_int_arr (blk off cap : Nat) (d : Array Int) (w : World) (hH : Holds encI w blk off d) (hsz : d.size ≤ 9223372036854775807) (hcap : d.size ≤ cap) :
    Calls Tryd.prog 39 #[.slice (some ⟨blk, off, none⟩) d.size cap] w fun e w' => e = .returned (.slice (some ⟨blk, off, none⟩) (compactUpTo d d.size).length cap) ∧ ∃ q, w' = putRow encI (Sort.ahead w q) blk off (compactUpTo d d.size ++ List.replicate (d.size - (compactUpTo d d.size).length) 0).toArray := Any.slices_Compact_int_arr Tryd.laysNm220 blk off cap d w hH hsz hcap
open Go.RowKit Go.Lib Go.Sort in
/-- slices.Compact at []int: "Compact replaces consecutive runs of equal elements with a single copy. This is like the uniq command found on Unix. Compact modifies the contents of the slice s and returns the modified slice, which may have a smaller length. Compact zeroes the elements between the new length and the original length. The result preserves the nilness of s.": IT RETURNS THE SLICE CUT TO 'Lib.compact zs'; ITS CELLS HOLD 'Lib.compact zs', THEN ZERO VALUES up to the old length; all else is as it was, but for the count of draws. IN THE WORDS OF slices.Sort's CONTRACT ('Holds', 'putRow'): so the everyday 'slices.Sort(xs); xs = slices.Compact(xs)' goes from the one contract to the other. It asks 'zs.length ≤ cap' (every slice's: the reslicing 's[:k]' looks at it). Length 0, nil: '.._empty'. (LAID: no walk: one application.) -/
theorem Tryd.slices_Compact_int (blk off cap : Nat) (zs : List Int) (w : World) (hH : Holds (Value.int .i64) w blk off zs.toArray) (hsz : zs.length ≤ 9223372036854775807) (hcap : zs.length ≤ cap) :
    Calls Tryd.prog 39 #[.slice (some ⟨blk, off, none⟩) zs.length cap] w fun e w' => e = .returned (.slice (some ⟨blk, off, none⟩) (Lib.compact zs).length cap) ∧ ∃ q, w' = putRow (Value.int .i64) (Sort.ahead w q) blk off (Lib.compact zs ++ List.replicate (zs.length - (Lib.compact zs).length) 0).toArray := Any.slices_Compact_int Tryd.laysNm220 blk off cap zs w hH hsz hcap
open Go.RowKit Go.Lib Go.Sort in
/-- The same at a slice of length 0, a nil one too: it comes back as it is. (LAID: no walk: one application.) -/
theorem Tryd.slices_Compact_int_empty (a : Option Addr) (cap : Nat) (w : World) :
    Calls Tryd.prog 39 #[.slice a 0 cap] w fun e w' => e = .returned (.slice a 0 cap) ∧ w' = w := Any.slices_Compact_int_empty Tryd.laysNm220 a cap w
def Tryd.laysNm237_ren : Go.Shelf.Ren := ⟨fun | 37 => 83 | n => n, fun | 3 => 3 | 4 => 4 | n => n, fun | n => n⟩
theorem Tryd.laysNm237 : Go.Proofs.Lays2.n37 Tryd.prog Tryd.laysNm237_ren := {
  mixed := by kernel_rfl
  f37 := Tryd.func83.trans (congrArg some (by kernel_rfl))
  t3 := Tryd.underlying3
  a3 := Tryd.isAgg3
  z3 := Tryd.sizeOf3
  v3 := Tryd.zeroValue3
  t4 := Tryd.underlying4
  a4 := Tryd.isAgg4
  z4 := Tryd.sizeOf4
  v4 := Tryd.zeroValue4 }
open Go.RowKit Go.Lib in
/-- cmp.isNaN[int]: 'x != x': false. (LAID: no walk: one application.) -/
theorem Tryd.cmp_isNaN_int2 (x : Int) (w : World) :
    Calls Tryd.prog 83 #[.int .i64 x] w fun e w' => e = .returned (.bool false) ∧ w' = w := Any.cmp_isNaN_int2 Tryd.laysNm237 x w
def Tryd.laysNm231_ren : Go.Shelf.Ren := ⟨fun | 31 => 67 | 37 => 83 | n => n, fun | 3 => 3 | 4 => 4 | n => n, fun | n => n⟩
theorem Tryd.laysNm231 : Go.Proofs.Lays2.n31 Tryd.prog Tryd.laysNm231_ren := {
  mixed := by kernel_rfl
  f31 := Tryd.func67.trans (congrArg some (by kernel_rfl))
  f37 := Tryd.func83.trans (congrArg some (by kernel_rfl))
  t3 := Tryd.underlying3
  a3 := Tryd.isAgg3
  z3 := Tryd.sizeOf3
  v3 := Tryd.zeroValue3
  t4 := Tryd.underlying4
  a4 := Tryd.isAgg4
  z4 := Tryd.sizeOf4
  v4 := Tryd.zeroValue4 }
open Go.RowKit Go.Lib in
/-- cmp.Less[int]: "Less reports whether x is less than y.": 'x < y'; the world is as it was. (LAID: no walk: one application.) -/
theorem Tryd.cmp_Less_int2 (x y : Int) (w : World) :
    Calls Tryd.prog 67 #[.int .i64 x, .int .i64 y] w fun e w' => e = .returned (.bool (decide (x < y))) ∧ w' = w := Any.cmp_Less_int2 Tryd.laysNm231 x y w
open Go.RowKit Go.Lib Go.Sort in
/-- slices.Compact at []int, of an argument: the slice cut to 'Lib.compact (elements)'; the n cells hold that, then zeros. (LAID: no walk: one application.) -/
theorem Tryd.slices_Compact_int_cells (b off n c : Nat) (zs : List Int) (w : World) (hz : n ≤ zs.length) (hbig : n ≤ 9223372036854775807) (hcap : n ≤ c) (hc : ∀ j, j < zs.length → w.cell? ⟨b, off + j, none⟩ = some (.int .i64 (zs.getD j 0))) (hf : ∀ j, j < n → w.frozen? ⟨b, off + j, none⟩ = false) :
    Calls Tryd.prog 39 #[.slice (some ⟨b, off, none⟩) n c] w fun e w' => e = .returned (.slice (some ⟨b, off, none⟩) (Lib.compact (zs.take n)).length c) ∧ ∃ q, w' = (w.drewN q).setCells b off ((Lib.compact (zs.take n) ++ List.replicate (n - (Lib.compact (zs.take n)).length) 0).map (Value.int .i64)) := Any.slices_Compact_int_cells Tryd.laysNm220 b off n c zs w hz hbig hcap hc hf
open Go.RowKit Go.Sort in
/-- .. and plain. (LAID: no walk: one application.) -/
theorem Tryd.slices_Sort_int_none (p : Option Addr) (cap : Nat) (w : World) :
    Calls Tryd.prog 38 #[.slice p 0 cap] w fun e w' => e = .returned (.tuple #[]) ∧ w' = w := Any.slices_Sort_int_none Tryd.lays189 p cap w
end Go.Proofs
/- Facts on the types of the program, each reckoned by the kernel. -/
namespace Go.Proofs.YtjlcojgimicfbaaDoor
open Go.Am
theorem mixed : Tryd.prog.follows .mixedOrders = true := by kernel_rfl
@[go_sem] theorem ty_s_24 : tsz Tryd.prog 24 = some 11 := by kernel_rfl
@[go_sem] theorem ty_g_24 : tag Tryd.prog 24 = some true := by kernel_rfl
@[go_sem] theorem ty_s_35 : tsz Tryd.prog 35 = some 1 := by kernel_rfl
@[go_sem] theorem ty_g_35 : tag Tryd.prog 35 = some true := by kernel_rfl
@[go_sem] theorem ty_sf_40 : sfact Tryd.prog 40 = some (1, 1, [.v (.bool false)]) := by kernel_rfl
@[go_sem] theorem ty_l_38 : sel Tryd.prog 38 = some 11 := by kernel_rfl
@[go_sem] theorem ty_f_24_0 : fld Tryd.prog 24 0 = some (0, 1, false) := by kernel_rfl
@[go_sem] theorem ty_s_3 : tsz Tryd.prog 3 = some 1 := by kernel_rfl
@[go_sem] theorem ty_g_3 : tag Tryd.prog 3 = some false := by kernel_rfl
@[go_sem] theorem ty_l_40 : sel Tryd.prog 40 = some 1 := by kernel_rfl
@[go_sem] theorem ty_s_4 : tsz Tryd.prog 4 = some 1 := by kernel_rfl
@[go_sem] theorem ty_g_4 : tag Tryd.prog 4 = some false := by kernel_rfl
@[go_sem] theorem ty_s_44 : tsz Tryd.prog 44 = some 3 := by kernel_rfl
@[go_sem] theorem ty_g_44 : tag Tryd.prog 44 = some true := by kernel_rfl
@[go_sem] theorem ty_z_44 : tzero Tryd.prog 44 = some [.v (.int .i64 0), .v (.int .i64 0), .sl true []] := by kernel_rfl
@[go_sem] theorem ty_s_48 : tsz Tryd.prog 48 = some 3 := by kernel_rfl
@[go_sem] theorem ty_g_48 : tag Tryd.prog 48 = some true := by kernel_rfl
@[go_sem] theorem ty_z_48 : tzero Tryd.prog 48 = some [.v (.bool false), .sl true [], .sl true []] := by kernel_rfl
@[go_sem] theorem ty_f_44_2 : fld Tryd.prog 44 2 = some (2, 1, false) := by kernel_rfl
@[go_sem] theorem ty_s_42 : tsz Tryd.prog 42 = some 1 := by kernel_rfl
@[go_sem] theorem ty_g_42 : tag Tryd.prog 42 = some false := by kernel_rfl
@[go_sem] theorem ty_l_42 : sel Tryd.prog 42 = some 3 := by kernel_rfl
@[go_sem] theorem ty_f_35_0 : fld Tryd.prog 35 0 = some (0, 1, false) := by kernel_rfl
@[go_sem] theorem ty_s_33 : tsz Tryd.prog 33 = some 1 := by kernel_rfl
@[go_sem] theorem ty_g_33 : tag Tryd.prog 33 = some false := by kernel_rfl
@[go_sem] theorem ty_l_33 : sel Tryd.prog 33 = some 3 := by kernel_rfl
@[go_sem] theorem ty_l_29 : sel Tryd.prog 29 = some 1 := by kernel_rfl
@[go_sem] theorem ty_f_48_2 : fld Tryd.prog 48 2 = some (2, 1, false) := by kernel_rfl
@[go_sem] theorem ty_s_29 : tsz Tryd.prog 29 = some 1 := by kernel_rfl
@[go_sem] theorem ty_g_29 : tag Tryd.prog 29 = some false := by kernel_rfl
@[go_sem] theorem ty_z_24 : tzero Tryd.prog 24 = some [.v (.int .i64 0), .v (.int .i64 0), .v (.int .i64 0), .v (.int .i64 0), .v (.int .i64 0), .v (.int .i64 0), .v (.int .i64 0), .v (.int .i64 0), .v (.int .i64 0), .v (.int .i64 0), .v (.int .i64 0)] := by kernel_rfl
@[go_sem] theorem ty_f_48_0 : fld Tryd.prog 48 0 = some (0, 1, false) := by kernel_rfl
@[go_sem] theorem ty_f_48_1 : fld Tryd.prog 48 1 = some (1, 1, false) := by kernel_rfl
@[go_sem] theorem ty_s_38 : tsz Tryd.prog 38 = some 1 := by kernel_rfl
@[go_sem] theorem ty_g_38 : tag Tryd.prog 38 = some false := by kernel_rfl
@[go_sem] theorem ty_f_44_1 : fld Tryd.prog 44 1 = some (1, 1, false) := by kernel_rfl
@[go_sem] theorem ty_f_44_0 : fld Tryd.prog 44 0 = some (0, 1, false) := by kernel_rfl
@[go_sem] theorem ty_k_24 : fieldsOK Tryd.prog 24 = true := by kernel_rfl
@[go_sem] theorem ty_p_24_1 : plc Tryd.prog 24 1 = some (1, 1) := by kernel_rfl
@[go_sem] theorem ty_p_24_3 : plc Tryd.prog 24 3 = some (3, 1) := by kernel_rfl
@[go_sem] theorem ty_p_24_4 : plc Tryd.prog 24 4 = some (4, 1) := by kernel_rfl
@[go_sem] theorem ty_sf_29 : sfact Tryd.prog 29 = some (1, 8, [.v (.int .i64 0)]) := by kernel_rfl
@[go_sem] theorem ty_f_24_1 : fld Tryd.prog 24 1 = some (1, 1, false) := by kernel_rfl
@[go_sem] theorem ty_f_24_7 : fld Tryd.prog 24 7 = some (7, 1, false) := by kernel_rfl
@[go_sem] theorem ty_f_24_5 : fld Tryd.prog 24 5 = some (5, 1, false) := by kernel_rfl
@[go_sem] theorem ty_f_24_2 : fld Tryd.prog 24 2 = some (2, 1, false) := by kernel_rfl
@[go_sem] theorem ty_f_24_3 : fld Tryd.prog 24 3 = some (3, 1, false) := by kernel_rfl
@[go_sem] theorem ty_f_24_4 : fld Tryd.prog 24 4 = some (4, 1, false) := by kernel_rfl
@[go_sem] theorem ty_f_24_6 : fld Tryd.prog 24 6 = some (6, 1, false) := by kernel_rfl
@[go_sem] theorem ty_f_24_8 : fld Tryd.prog 24 8 = some (8, 3, true) := by kernel_rfl
@[go_sem] theorem ty_a_22 : ael Tryd.prog 22 = some (3, 1) := by kernel_rfl
@[go_sem] theorem ty_l_65 : sel Tryd.prog 65 = some 1 := by kernel_rfl
@[go_sem] theorem ty_s_9 : tsz Tryd.prog 9 = some 1 := by kernel_rfl
@[go_sem] theorem ty_g_9 : tag Tryd.prog 9 = some false := by kernel_rfl
@[go_sem] theorem ty_sf_65 : sfact Tryd.prog 65 = some (1, 16, [.v (.string ⟨#[]⟩)]) := by kernel_rfl
@[go_sem] theorem ty_k_48 : fieldsOK Tryd.prog 48 = true := by kernel_rfl
@[go_sem] theorem ty_p_48_0 : plc Tryd.prog 48 0 = some (0, 1) := by kernel_rfl
@[go_sem] theorem ty_sf_42 : sfact Tryd.prog 42 = some (3, 56, [.v (.bool false), .sl true [], .sl true []]) := by kernel_rfl
@[go_sem] theorem ty_k_44 : fieldsOK Tryd.prog 44 = true := by kernel_rfl
@[go_sem] theorem ty_p_44_2 : plc Tryd.prog 44 2 = some (2, 1) := by kernel_rfl
@[go_sem] theorem ty_sf_33 : sfact Tryd.prog 33 = some (3, 40, [.v (.int .i64 0), .v (.int .i64 0), .sl true []]) := by kernel_rfl
@[go_sem] theorem ty_z_35 : tzero Tryd.prog 35 = some [.sl true []] := by kernel_rfl
@[go_sem] theorem ty_k_35 : fieldsOK Tryd.prog 35 = true := by kernel_rfl
@[go_sem] theorem ty_p_35_0 : plc Tryd.prog 35 0 = some (0, 1) := by kernel_rfl
@[go_sem] theorem ty_s_67 : tsz Tryd.prog 67 = some 1 := by kernel_rfl
@[go_sem] theorem ty_g_67 : tag Tryd.prog 67 = some false := by kernel_rfl
@[go_sem] theorem ty_z_67 : tzero Tryd.prog 67 = some [.v (.pointer none)] := by kernel_rfl
attribute [go_sem] Tryd.underlying72
@[go_sem] theorem ty_m_73 : mfact Tryd.prog 73 = true := by kernel_rfl
@[go_sem] theorem ty_s_73 : tsz Tryd.prog 73 = some 1 := by kernel_rfl
@[go_sem] theorem ty_g_73 : tag Tryd.prog 73 = some false := by kernel_rfl
@[go_sem] theorem ty_z_73 : tzero Tryd.prog 73 = some [.v (.map none)] := by kernel_rfl
@[go_sem] theorem ty_sf_38 : sfact Tryd.prog 38 = some (11, 88, [.v (.int .i64 0), .v (.int .i64 0), .v (.int .i64 0), .v (.int .i64 0), .v (.int .i64 0), .v (.int .i64 0), .v (.int .i64 0), .v (.int .i64 0), .v (.int .i64 0), .v (.int .i64 0), .v (.int .i64 0)]) := by kernel_rfl
attribute [go_sem] Tryd.underlying9
@[go_sem] theorem ty_zf_29 : zfact Tryd.prog 29 = some (.int .i64 0) := by kernel_rfl
@[go_sem] theorem ty_a_83 : ael Tryd.prog 83 = some (256, 1) := by kernel_rfl
@[go_sem] theorem ty_s_5 : tsz Tryd.prog 5 = some 1 := by kernel_rfl
@[go_sem] theorem ty_g_5 : tag Tryd.prog 5 = some false := by kernel_rfl
@[go_sem] theorem ty_s_89 : tsz Tryd.prog 89 = some 3 := by kernel_rfl
@[go_sem] theorem ty_g_89 : tag Tryd.prog 89 = some true := by kernel_rfl
@[go_sem] theorem ty_z_89 : tzero Tryd.prog 89 = some [.v (.pointer none), .v (.pointer none), .v (.int .u64 0)] := by kernel_rfl
@[go_sem] theorem ty_s_92 : tsz Tryd.prog 92 = some 1 := by kernel_rfl
@[go_sem] theorem ty_g_92 : tag Tryd.prog 92 = some false := by kernel_rfl
@[go_sem] theorem ty_z_99 : tzero Tryd.prog 99 = some [.v (.string ⟨#[]⟩), .v (.int .i64 0)] := by kernel_rfl
@[go_sem] theorem ty_k_99 : fieldsOK Tryd.prog 99 = true := by kernel_rfl
@[go_sem] theorem ty_p_99_0 : plc Tryd.prog 99 0 = some (0, 1) := by kernel_rfl
@[go_sem] theorem ty_p_99_1 : plc Tryd.prog 99 1 = some (1, 1) := by kernel_rfl
@[go_sem] theorem ty_s_99 : tsz Tryd.prog 99 = some 2 := by kernel_rfl
@[go_sem] theorem ty_g_99 : tag Tryd.prog 99 = some true := by kernel_rfl
attribute [go_sem] Tryd.underlying67
@[go_sem] theorem rs_3 : Tryd.f3.results = #[.tmp 4] := rfl
theorem en_3 : Ent Tryd.prog 3 := ent_of Tryd.func3 rfl rfl
@[go_sem] theorem rs_4 : Tryd.f4.results = #[.tmp 4] := rfl
theorem en_4 : Ent Tryd.prog 4 := ent_of Tryd.func4 rfl rfl
@[go_sem] theorem rs_5 : Tryd.f5.results = #[.tmp 4] := rfl
theorem en_5 : Ent Tryd.prog 5 := ent_of Tryd.func5 rfl rfl
@[go_sem] theorem rs_6 : Tryd.f6.results = #[.tmp 8] := rfl
theorem en_6 : Ent Tryd.prog 6 := ent_of Tryd.func6 rfl rfl
@[go_sem] theorem rs_7 : Tryd.f7.results = #[.tmp 0] := rfl
theorem en_7 : Ent Tryd.prog 7 := ent_of Tryd.func7 rfl rfl
@[go_sem] theorem rs_8 : Tryd.f8.results = #[.tmp 2] := rfl
theorem en_8 : Ent Tryd.prog 8 := ent_of Tryd.func8 rfl rfl
@[go_sem] theorem rs_9 : Tryd.f9.results = #[.tmp 2] := rfl
theorem en_9 : Ent Tryd.prog 9 := ent_of Tryd.func9 rfl rfl
@[go_sem] theorem rs_10 : Tryd.f10.results = #[.tmp 2] := rfl
theorem en_10 : Ent Tryd.prog 10 := ent_of Tryd.func10 rfl rfl
@[go_sem] theorem rs_11 : Tryd.f11.results = #[.tmp 2] := rfl
theorem en_11 : Ent Tryd.prog 11 := ent_of Tryd.func11 rfl rfl
@[go_sem] theorem rs_12 : Tryd.f12.results = #[.tmp 4] := rfl
theorem en_12 : Ent Tryd.prog 12 := ent_of Tryd.func12 rfl rfl
@[go_sem] theorem rs_13 : Tryd.f13.results = #[.tmp 2] := rfl
theorem en_13 : Ent Tryd.prog 13 := ent_of Tryd.func13 rfl rfl
@[go_sem] theorem rs_14 : Tryd.f14.results = #[.tmp 2] := rfl
theorem en_14 : Ent Tryd.prog 14 := ent_of Tryd.func14 rfl rfl
@[go_sem] theorem rs_15 : Tryd.f15.results = #[.tmp 2] := rfl
theorem en_15 : Ent Tryd.prog 15 := ent_of Tryd.func15 rfl rfl
@[go_sem] theorem rs_16 : Tryd.f16.results = #[.tmp 2] := rfl
theorem en_16 : Ent Tryd.prog 16 := ent_of Tryd.func16 rfl rfl
@[go_sem] theorem rs_17 : Tryd.f17.results = #[.tmp 2] := rfl
theorem en_17 : Ent Tryd.prog 17 := ent_of Tryd.func17 rfl rfl
@[go_sem] theorem rs_18 : Tryd.f18.results = #[.tmp 2] := rfl
theorem en_18 : Ent Tryd.prog 18 := ent_of Tryd.func18 rfl rfl
@[go_sem] theorem rs_19 : Tryd.f19.results = #[.tmp 0] := rfl
theorem en_19 : Ent Tryd.prog 19 := ent_of Tryd.func19 rfl rfl
@[go_sem] theorem rs_20 : Tryd.f20.results = #[.tmp 2] := rfl
theorem en_20 : Ent Tryd.prog 20 := ent_of Tryd.func20 rfl rfl
@[go_sem] theorem rs_21 : Tryd.f21.results = #[.tmp 2] := rfl
theorem en_21 : Ent Tryd.prog 21 := ent_of Tryd.func21 rfl rfl
@[go_sem] theorem rs_22 : Tryd.f22.results = #[.tmp 2] := rfl
theorem en_22 : Ent Tryd.prog 22 := ent_of Tryd.func22 rfl rfl
@[go_sem] theorem rs_23 : Tryd.f23.results = #[.tmp 2] := rfl
theorem en_23 : Ent Tryd.prog 23 := ent_of Tryd.func23 rfl rfl
@[go_sem] theorem rs_24 : Tryd.f24.results = #[.tmp 4] := rfl
theorem en_24 : Ent Tryd.prog 24 := ent_of Tryd.func24 rfl rfl
@[go_sem] theorem rs_25 : Tryd.f25.results = #[.cell 4 44, .tmp 5] := rfl
theorem en_25 : Ent Tryd.prog 25 := ent_of Tryd.func25 rfl rfl
@[go_sem] theorem rs_26 : Tryd.f26.results = #[.cell 6 48, .tmp 7] := rfl
theorem en_26 : Ent Tryd.prog 26 := ent_of Tryd.func26 rfl rfl
@[go_sem] theorem rs_27 : Tryd.f27.results = #[.tmp 6] := rfl
theorem en_27 : Ent Tryd.prog 27 := ent_of Tryd.func27 rfl rfl
@[go_sem] theorem rs_28 : Tryd.f28.results = #[.cell 8 24, .tmp 9] := rfl
theorem en_28 : Ent Tryd.prog 28 := ent_of Tryd.func28 rfl rfl
@[go_sem] theorem rs_29 : Tryd.f29.results = #[.tmp 2] := rfl
theorem en_29 : Ent Tryd.prog 29 := ent_of Tryd.func29 rfl rfl
@[go_sem] theorem rs_30 : Tryd.f30.results = #[.cell 2 24] := rfl
theorem en_30 : Ent Tryd.prog 30 := ent_of Tryd.func30 rfl rfl
@[go_sem] theorem rs_31 : Tryd.f31.results = #[.tmp 4] := rfl
theorem en_31 : Ent Tryd.prog 31 := ent_of Tryd.func31 rfl rfl
@[go_sem] theorem rs_32 : Tryd.f32.results = #[.tmp 2] := rfl
theorem en_32 : Ent Tryd.prog 32 := ent_of Tryd.func32 rfl rfl
@[go_sem] theorem rs_33 : Tryd.f33.results = #[.tmp 2] := rfl
theorem en_33 : Ent Tryd.prog 33 := ent_of Tryd.func33 rfl rfl
@[go_sem] theorem rs_34 : Tryd.f34.results = #[.tmp 2] := rfl
theorem en_34 : Ent Tryd.prog 34 := ent_of Tryd.func34 rfl rfl
@[go_sem] theorem rs_35 : Tryd.f35.results = #[.tmp 4] := rfl
theorem en_35 : Ent Tryd.prog 35 := ent_of Tryd.func35 rfl rfl
@[go_sem] theorem rs_36 : Tryd.f36.results = #[.tmp 4] := rfl
theorem en_36 : Ent Tryd.prog 36 := ent_of Tryd.func36 rfl rfl
@[go_sem] theorem rs_37 : Tryd.f37.results = #[.tmp 4] := rfl
theorem en_37 : Ent Tryd.prog 37 := ent_of Tryd.func37 rfl rfl
@[go_sem] theorem rs_38 : Tryd.f38.results = #[] := rfl
theorem en_38 : Ent Tryd.prog 38 := ent_of Tryd.func38 rfl rfl
@[go_sem] theorem rs_39 : Tryd.f39.results = #[.tmp 2] := rfl
theorem en_39 : Ent Tryd.prog 39 := ent_of Tryd.func39 rfl rfl
@[go_sem] theorem rs_40 : Tryd.f40.results = #[.tmp 2] := rfl
theorem en_40 : Ent Tryd.prog 40 := ent_of Tryd.func40 rfl rfl
@[go_sem] theorem rs_41 : Tryd.f41.results = #[.tmp 4] := rfl
theorem en_41 : Ent Tryd.prog 41 := ent_of Tryd.func41 rfl rfl
@[go_sem] theorem rs_42 : Tryd.f42.results = #[.tmp 2] := rfl
theorem en_42 : Ent Tryd.prog 42 := ent_of Tryd.func42 rfl rfl
@[go_sem] theorem rs_43 : Tryd.f43.results = #[] := rfl
theorem en_43 : Ent Tryd.prog 43 := ent_of Tryd.func43 rfl rfl
@[go_sem] theorem rs_44 : Tryd.f44.results = #[] := rfl
theorem en_44 : Ent Tryd.prog 44 := ent_of Tryd.func44 rfl rfl
@[go_sem] theorem rs_45 : Tryd.f45.results = #[.tmp 4] := rfl
theorem en_45 : Ent Tryd.prog 45 := ent_of Tryd.func45 rfl rfl
@[go_sem] theorem rs_46 : Tryd.f46.results = #[.tmp 4] := rfl
theorem en_46 : Ent Tryd.prog 46 := ent_of Tryd.func46 rfl rfl
@[go_sem] theorem rs_47 : Tryd.f47.results = #[.cell 2 24] := rfl
theorem en_47 : Ent Tryd.prog 47 := ent_of Tryd.func47 rfl rfl
@[go_sem] theorem rs_48 : Tryd.f48.results = #[.tmp 4] := rfl
theorem en_48 : Ent Tryd.prog 48 := ent_of Tryd.func48 rfl rfl
@[go_sem] theorem rs_49 : Tryd.f49.results = #[.tmp 2] := rfl
theorem en_49 : Ent Tryd.prog 49 := ent_of Tryd.func49 rfl rfl
@[go_sem] theorem rs_50 : Tryd.f50.results = #[.tmp 4] := rfl
theorem en_50 : Ent Tryd.prog 50 := ent_of Tryd.func50 rfl rfl
@[go_sem] theorem rs_59 : Tryd.f59.results = #[.tmp 4] := rfl
theorem en_59 : Ent Tryd.prog 59 := ent_of Tryd.func59 rfl rfl
@[go_sem] theorem rs_76 : Tryd.f76.results = #[.tmp 6] := rfl
theorem en_76 : Ent Tryd.prog 76 := ent_of Tryd.func76 rfl rfl
@[go_sem] theorem rs_86 : Tryd.f86.results = #[.tmp 2] := rfl
theorem en_86 : Ent Tryd.prog 86 := ent_of Tryd.func86 rfl rfl
@[go_sem] theorem rs_87 : Tryd.f87.results = #[.tmp 4] := rfl
theorem en_87 : Ent Tryd.prog 87 := ent_of Tryd.func87 rfl rfl
@[go_sem] theorem rs_88 : Tryd.f88.results = #[.tmp 3] := rfl
theorem en_88 : Ent Tryd.prog 88 := ent_of Tryd.func88 rfl rfl
@[go_sem] theorem rs_89 : Tryd.f89.results = #[.tmp 4] := rfl
theorem en_89 : Ent Tryd.prog 89 := ent_of Tryd.func89 rfl rfl
@[go_sem] theorem rs_90 : Tryd.f90.results = #[.tmp 4] := rfl
theorem en_90 : Ent Tryd.prog 90 := ent_of Tryd.func90 rfl rfl
@[go_sem] theorem rs_91 : Tryd.f91.results = #[.tmp 6] := rfl
theorem en_91 : Ent Tryd.prog 91 := ent_of Tryd.func91 rfl rfl
@[go_sem] theorem rs_97 : Tryd.f97.results = #[.tmp 4] := rfl
theorem en_97 : Ent Tryd.prog 97 := ent_of Tryd.func97 rfl rfl
@[go_sem] theorem rs_98 : Tryd.f98.results = #[.tmp 4] := rfl
theorem en_98 : Ent Tryd.prog 98 := ent_of Tryd.func98 rfl rfl
@[go_sem] theorem rs_99 : Tryd.f99.results = #[.tmp 3] := rfl
theorem en_99 : Ent Tryd.prog 99 := ent_of Tryd.func99 rfl rfl
@[go_sem] theorem rs_119 : Tryd.f119.results = #[] := rfl
end Go.Proofs.YtjlcojgimicfbaaDoor
/- Instructions: what the program's functions on them give. -/
namespace Go.Proofs.YtjlcojgimicfbaaDoor
open Go.Am
set_option linter.unusedSimpArgs false
set_option maxRecDepth 100000
variable {Γ : Nat → Option Obj}

theorem Tryd_u4 : Tryd.prog.underlying 4 = some .bool := by kernel_rfl
@[go_sem] theorem beq4 {x y : Operand} {a b : Bool} : binS Tryd.prog .eql 4 x y (.bool a) (.bool b) = some (.bool (a == b)) := bin_eql_bool Tryd_u4
@[go_sem] theorem bne4 {x y : Operand} {a b : Bool} : binS Tryd.prog .neq 4 x y (.bool a) (.bool b) = some (.bool (!(a == b))) := bin_neq_bool Tryd_u4

/-- An instruction. -/
structure Ins where
  id : Int
  kind : Int
  dst : Int
  a : Int
  b : Int
  c : Int
  f : Int
  n : Int
  x : Int
  y : Int
  z : Int
  deriving DecidableEq
abbrev Ins.cells (i : Ins) : List PV := [pI i.id, pI i.kind, pI i.dst, pI i.a, pI i.b, pI i.c, pI i.f, pI i.n, pI i.x, pI i.y, pI i.z]
abbrev ins (i : Ins) : PV := .agg i.cells
attribute [go_sem] Ins.cells

/-- The table of blanks stands where the library reads it. -/
def Blanks (Γ : Nat → Option Obj) : Prop := ∀ w : World, (∀ b o, Γ b = some o → w.heap[b]? = some o) → Lib.TabIs Tryd.prog w "strings.asciiSpace" .u8 Lib.asciiSpaceTab

def namesText : List UInt8 := [99, 111, 110, 115, 116, 32, 99, 111, 112, 121, 32, 110, 101, 103, 32, 97, 100, 100, 32, 115, 117, 98, 32, 109, 117, 108, 32, 105, 110, 112, 117, 116, 32, 99, 97, 108, 108, 32, 117, 115, 101, 32, 114, 101, 116]
def names : List (List UInt8) := [[99, 111, 110, 115, 116], [99, 111, 112, 121], [110, 101, 103], [97, 100, 100], [115, 117, 98], [109, 117, 108], [105, 110, 112, 117, 116], [99, 97, 108, 108], [117, 115, 101], [114, 101, 116]]
def nameOf (k : Int) : List UInt8 := if 0 ≤ k ∧ k < 10 then names.getD k.toNat [] else []

theorem e_fields : Ent Tryd.prog 40 := ent_of Tryd.func40 rfl rfl
theorem c_fields (hB : Blanks Γ) : Pure Γ Tryd.prog 40 [pS namesText] (.sl true (names.map fun l => [pS l])) := by
  intro F w cargs hfr ha
  have hc : cargs = #[.string ⟨namesText.toArray⟩] := by
    obtain ⟨h1, h2⟩ := ha
    have hs : cargs.size = 1 := by simpa using h1.symm
    have h3 := h2 0 (pS namesText) cargs[0] rfl (by simp [hs])
    apply Array.ext (by simp [hs])
    intro i h4 h5
    have : i = 0 := by omega
    subst this
    generalize cargs[0] = z at h3
    cases h3; rfl
  subst hc
  have hf : Lib.fields namesText = names := by decide
  refine (Tryd.strings_Fields ⟨namesText.toArray⟩ w (by decide) ?_ (hB w fun b o h => (hfr.gam b o h).1)).mono ?_
  · have h : ∀ b ∈ namesText, b.toNat < 128 := by decide
    intro j b hj
    exact h b (List.mem_of_getElem? (by simpa using hj))
  · rintro e w' ⟨rfl, rfl⟩
    have := alloc_rows hfr.ffin ((Lib.fields namesText).map fun l => Value.string ⟨l.toArray⟩) 9 (by rw [hf]; decide)
    refine ⟨_, rfl, ?_, alloc_ext _ _⟩
    simp only [List.length_map, hf] at this ⊢
    simpa [Function.comp_def] using this

theorem e_Name : Ent Tryd.prog 17 := ent_of Tryd.func17 rfl rfl
theorem c_Name (hB : Blanks Γ) (k : Int) : Pure Γ Tryd.prog 17 [pI k] (pS (nameOf k)) := by
  refine pure_of_AW Tryd.func17 rfl (by simp [Tryd.f17]) ?_; refine AL_start ?_; repeat (refine AL_seq ?_)
  refine AL_text (nx := 0) rfl fun K hK => ?_; simp (disch := omega) only [go_sem, seval]; refine hK _ ?_; clear hK K; repeat (first | (refine AL_skip ?_) | (refine AL_seq ?_) | (refine AL_cond_t rfl ?_) | (refine AL_cond_f rfl ?_))
  refine AL_text (nx := 0) rfl fun K hK => ?_
  by_cases h0 : k < 0
  · simp (disch := omega) only [go_sem, seval, h0]
    refine hK _ ?_; clear hK K; repeat (first | (refine AL_skip ?_) | (refine AL_seq ?_) | (refine AL_cond_t rfl ?_) | (refine AL_cond_f rfl ?_))
    refine AL_text (nx := 0) rfl fun K hK => ?_; simp (disch := omega) only [go_sem, seval]; refine hK _ ?_; clear hK K; repeat (first | (refine AL_skip ?_) | (refine AL_seq ?_) | (refine AL_cond_t rfl ?_) | (refine AL_cond_f rfl ?_))
    have : nameOf k = [] := by unfold nameOf; rw [if_neg (by omega)]
    rw [this]
    refine AL_ret (PureQ_ret (by simp (disch := omega) only [go_sem, seval] <;> rfl) rfl)
  by_cases h1 : 10 ≤ k
  · simp (disch := omega) only [go_sem, seval, h0, h1]
    refine hK _ ?_; clear hK K; repeat (first | (refine AL_skip ?_) | (refine AL_seq ?_) | (refine AL_cond_t rfl ?_) | (refine AL_cond_f rfl ?_))
    refine AL_text (nx := 0) rfl fun K hK => ?_; simp (disch := omega) only [go_sem, seval]; refine hK _ ?_; clear hK K; repeat (first | (refine AL_skip ?_) | (refine AL_seq ?_) | (refine AL_cond_t rfl ?_) | (refine AL_cond_f rfl ?_))
    have : nameOf k = [] := by unfold nameOf; rw [if_neg (by omega)]
    rw [this]
    refine AL_ret (PureQ_ret (by simp (disch := omega) only [go_sem, seval] <;> rfl) rfl)
  simp (disch := omega) only [go_sem, seval, h0, h1]
  refine hK _ ?_; clear hK K; repeat (first | (refine AL_skip ?_) | (refine AL_seq ?_) | (refine AL_cond_t rfl ?_) | (refine AL_cond_f rfl ?_))
  refine AL_text (nx := 0) rfl fun K hK => ?_
  simp (disch := omega) only [go_sem, seval]
  refine CallK_pure (c_fields hB) en_40 rfl ?_
  have h2 : (names.map fun l => [pS l])[k.toNat]? = some [pS (nameOf k)] := by
    rw [List.getElem?_map]
    have : k.toNat < names.length := by simp only [names, List.length_cons, List.length_nil]; omega
    simp only [nameOf, List.getElem?_eq_getElem this, List.getD_eq_getElem?_getD, if_pos (show 0 ≤ k ∧ k < 10 by omega), Option.map_some, Option.getD_some]
  have h3 : 0 ≤ k := by omega
  simp (disch := omega) only [go_sem, seval, h2, h3]
  refine hK _ ?_; clear hK K; repeat (first | (refine AL_skip ?_) | (refine AL_seq ?_) | (refine AL_cond_t rfl ?_) | (refine AL_cond_f rfl ?_))
  refine AL_ret (PureQ_ret (by simp (disch := omega) only [go_sem, seval] <;> rfl) rfl)

/-- Which parts a kind has, by its name. -/
def partsOf (l : List UInt8) : List UInt8 :=
  if l == [99, 111, 110, 115, 116] then [100, 99] else if l == [99, 111, 112, 121] then [100, 97] else if l == [110, 101, 103] then [100, 97]
  else if l == [97, 100, 100] then [100, 97, 98] else if l == [115, 117, 98] then [100, 97, 98] else if l == [109, 117, 108] then [100, 97, 98]
  else if l == [105, 110, 112, 117, 116] then [100] else if l == [99, 97, 108, 108] then [100, 102] else if l == [117, 115, 101] then [97] else if l == [114, 101, 116] then [97] else []

theorem c_parts (hB : Blanks Γ) (k : Int) : Pure Γ Tryd.prog 49 [pI k] (pS (partsOf (nameOf k))) := by
  refine pure_of_AW Tryd.func49 rfl (by simp [Tryd.f49]) ?_; refine AL_start ?_; repeat (refine AL_seq ?_)
  refine AL_text (nx := 0) rfl fun K hK => ?_; simp (disch := omega) only [go_sem, seval]; refine hK _ ?_; clear hK K; repeat (first | (refine AL_skip ?_) | (refine AL_seq ?_) | (refine AL_cond_t rfl ?_) | (refine AL_cond_f rfl ?_))
  refine AL_text (nx := 0) rfl fun K hK => ?_
  simp (disch := omega) only [go_sem, seval]
  refine CallK_pure (c_Name hB k) en_17 rfl ?_
  simp (disch := omega) only [go_sem, seval]
  refine hK _ ?_; clear hK K; repeat (first | (refine AL_skip ?_) | (refine AL_seq ?_) | (refine AL_cond_t rfl ?_) | (refine AL_cond_f rfl ?_))
  generalize nameOf k = l
  refine AL_block ?_
  repeat (refine AL_seq ?_)
  refine AL_text (nx := 0) rfl fun K hK => ?_
  cases h0 : l == [99, 111, 110, 115, 116]
  · simp (disch := omega) only [go_sem, seval, h0]; refine hK _ ?_; clear hK K; repeat (first | (refine AL_skip ?_) | (refine AL_seq ?_) | (refine AL_cond_t rfl ?_) | (refine AL_cond_f rfl ?_))
    refine AL_text (nx := 0) rfl fun K hK => ?_
    cases h1 : l == [99, 111, 112, 121]
    · simp (disch := omega) only [go_sem, seval, h1]; refine hK _ ?_; clear hK K; repeat (first | (refine AL_skip ?_) | (refine AL_seq ?_) | (refine AL_cond_t rfl ?_) | (refine AL_cond_f rfl ?_))
      refine AL_text (nx := 0) rfl fun K hK => ?_
      cases h2 : l == [110, 101, 103]
      · simp (disch := omega) only [go_sem, seval, h2]; refine hK _ ?_; clear hK K; repeat (first | (refine AL_skip ?_) | (refine AL_seq ?_) | (refine AL_cond_t rfl ?_) | (refine AL_cond_f rfl ?_))
        refine AL_text (nx := 0) rfl fun K hK => ?_
        cases h3 : l == [97, 100, 100]
        · simp (disch := omega) only [go_sem, seval, h3]; refine hK _ ?_; clear hK K; repeat (first | (refine AL_skip ?_) | (refine AL_seq ?_) | (refine AL_cond_t rfl ?_) | (refine AL_cond_f rfl ?_))
          refine AL_text (nx := 0) rfl fun K hK => ?_
          cases h4 : l == [115, 117, 98]
          · simp (disch := omega) only [go_sem, seval, h4]; refine hK _ ?_; clear hK K; repeat (first | (refine AL_skip ?_) | (refine AL_seq ?_) | (refine AL_cond_t rfl ?_) | (refine AL_cond_f rfl ?_))
            refine AL_text (nx := 0) rfl fun K hK => ?_
            cases h5 : l == [109, 117, 108]
            · simp (disch := omega) only [go_sem, seval, h5]; refine hK _ ?_; clear hK K; repeat (first | (refine AL_skip ?_) | (refine AL_seq ?_) | (refine AL_cond_t rfl ?_) | (refine AL_cond_f rfl ?_))
              refine AL_text (nx := 0) rfl fun K hK => ?_
              cases h6 : l == [105, 110, 112, 117, 116]
              · simp (disch := omega) only [go_sem, seval, h6]; refine hK _ ?_; clear hK K; repeat (first | (refine AL_skip ?_) | (refine AL_seq ?_) | (refine AL_cond_t rfl ?_) | (refine AL_cond_f rfl ?_))
                refine AL_text (nx := 0) rfl fun K hK => ?_
                cases h7 : l == [99, 97, 108, 108]
                · simp (disch := omega) only [go_sem, seval, h7]; refine hK _ ?_; clear hK K; repeat (first | (refine AL_skip ?_) | (refine AL_seq ?_) | (refine AL_cond_t rfl ?_) | (refine AL_cond_f rfl ?_))
                  refine AL_text (nx := 0) rfl fun K hK => ?_
                  cases h8 : l == [117, 115, 101]
                  · simp (disch := omega) only [go_sem, seval, h8]; refine hK _ ?_; clear hK K; repeat (first | (refine AL_skip ?_) | (refine AL_seq ?_) | (refine AL_cond_t rfl ?_) | (refine AL_cond_f rfl ?_))
                    refine AL_text (nx := 0) rfl fun K hK => ?_
                    cases h9 : l == [114, 101, 116]
                    · simp (disch := omega) only [go_sem, seval, h9]; refine hK _ ?_; clear hK K; repeat (first | (refine AL_skip ?_) | (refine AL_seq ?_) | (refine AL_cond_t rfl ?_) | (refine AL_cond_f rfl ?_))
                      refine AL_text (nx := 0) rfl fun K hK => ?_; simp (disch := omega) only [go_sem, seval]; refine hK _ ?_; clear hK K; repeat (first | (refine AL_skip ?_) | (refine AL_seq ?_) | (refine AL_cond_t rfl ?_) | (refine AL_cond_f rfl ?_))
                      refine AL_ret (PureQ_ret (by simp [go_sem, partsOf, h0, h1, h2, h3, h4, h5, h6, h7, h8, h9]) rfl)
                    · simp (disch := omega) only [go_sem, seval, h9]; refine hK _ ?_; clear hK K; repeat (first | (refine AL_skip ?_) | (refine AL_seq ?_) | (refine AL_cond_t rfl ?_) | (refine AL_cond_f rfl ?_))
                      refine AL_text (nx := 0) rfl fun K hK => ?_; simp (disch := omega) only [go_sem, seval]; refine hK _ ?_; clear hK K; repeat (first | (refine AL_skip ?_) | (refine AL_seq ?_) | (refine AL_cond_t rfl ?_) | (refine AL_cond_f rfl ?_))
                      refine AL_ret (PureQ_ret (by simp [go_sem, partsOf, h0, h1, h2, h3, h4, h5, h6, h7, h8, h9]) rfl)
                  · simp (disch := omega) only [go_sem, seval, h8]; refine hK _ ?_; clear hK K; repeat (first | (refine AL_skip ?_) | (refine AL_seq ?_) | (refine AL_cond_t rfl ?_) | (refine AL_cond_f rfl ?_))
                    refine AL_text (nx := 0) rfl fun K hK => ?_; simp (disch := omega) only [go_sem, seval]; refine hK _ ?_; clear hK K; repeat (first | (refine AL_skip ?_) | (refine AL_seq ?_) | (refine AL_cond_t rfl ?_) | (refine AL_cond_f rfl ?_))
                    refine AL_ret (PureQ_ret (by simp [go_sem, partsOf, h0, h1, h2, h3, h4, h5, h6, h7, h8]) rfl)
                · simp (disch := omega) only [go_sem, seval, h7]; refine hK _ ?_; clear hK K; repeat (first | (refine AL_skip ?_) | (refine AL_seq ?_) | (refine AL_cond_t rfl ?_) | (refine AL_cond_f rfl ?_))
                  refine AL_text (nx := 0) rfl fun K hK => ?_; simp (disch := omega) only [go_sem, seval]; refine hK _ ?_; clear hK K; repeat (first | (refine AL_skip ?_) | (refine AL_seq ?_) | (refine AL_cond_t rfl ?_) | (refine AL_cond_f rfl ?_))
                  refine AL_ret (PureQ_ret (by simp [go_sem, partsOf, h0, h1, h2, h3, h4, h5, h6, h7]) rfl)
              · simp (disch := omega) only [go_sem, seval, h6]; refine hK _ ?_; clear hK K; repeat (first | (refine AL_skip ?_) | (refine AL_seq ?_) | (refine AL_cond_t rfl ?_) | (refine AL_cond_f rfl ?_))
                refine AL_text (nx := 0) rfl fun K hK => ?_; simp (disch := omega) only [go_sem, seval]; refine hK _ ?_; clear hK K; repeat (first | (refine AL_skip ?_) | (refine AL_seq ?_) | (refine AL_cond_t rfl ?_) | (refine AL_cond_f rfl ?_))
                refine AL_ret (PureQ_ret (by simp [go_sem, partsOf, h0, h1, h2, h3, h4, h5, h6]) rfl)
            · simp (disch := omega) only [go_sem, seval, h5]; refine hK _ ?_; clear hK K; repeat (first | (refine AL_skip ?_) | (refine AL_seq ?_) | (refine AL_cond_t rfl ?_) | (refine AL_cond_f rfl ?_))
              refine AL_text (nx := 0) rfl fun K hK => ?_; simp (disch := omega) only [go_sem, seval]; refine hK _ ?_; clear hK K; repeat (first | (refine AL_skip ?_) | (refine AL_seq ?_) | (refine AL_cond_t rfl ?_) | (refine AL_cond_f rfl ?_))
              refine AL_ret (PureQ_ret (by simp [go_sem, partsOf, h0, h1, h2, h3, h4, h5]) rfl)
          · simp (disch := omega) only [go_sem, seval, h4]; refine hK _ ?_; clear hK K; repeat (first | (refine AL_skip ?_) | (refine AL_seq ?_) | (refine AL_cond_t rfl ?_) | (refine AL_cond_f rfl ?_))
            refine AL_text (nx := 0) rfl fun K hK => ?_; simp (disch := omega) only [go_sem, seval]; refine hK _ ?_; clear hK K; repeat (first | (refine AL_skip ?_) | (refine AL_seq ?_) | (refine AL_cond_t rfl ?_) | (refine AL_cond_f rfl ?_))
            refine AL_ret (PureQ_ret (by simp [go_sem, partsOf, h0, h1, h2, h3, h4]) rfl)
        · simp (disch := omega) only [go_sem, seval, h3]; refine hK _ ?_; clear hK K; repeat (first | (refine AL_skip ?_) | (refine AL_seq ?_) | (refine AL_cond_t rfl ?_) | (refine AL_cond_f rfl ?_))
          refine AL_text (nx := 0) rfl fun K hK => ?_; simp (disch := omega) only [go_sem, seval]; refine hK _ ?_; clear hK K; repeat (first | (refine AL_skip ?_) | (refine AL_seq ?_) | (refine AL_cond_t rfl ?_) | (refine AL_cond_f rfl ?_))
          refine AL_ret (PureQ_ret (by simp [go_sem, partsOf, h0, h1, h2, h3]) rfl)
      · simp (disch := omega) only [go_sem, seval, h2]; refine hK _ ?_; clear hK K; repeat (first | (refine AL_skip ?_) | (refine AL_seq ?_) | (refine AL_cond_t rfl ?_) | (refine AL_cond_f rfl ?_))
        refine AL_text (nx := 0) rfl fun K hK => ?_; simp (disch := omega) only [go_sem, seval]; refine hK _ ?_; clear hK K; repeat (first | (refine AL_skip ?_) | (refine AL_seq ?_) | (refine AL_cond_t rfl ?_) | (refine AL_cond_f rfl ?_))
        refine AL_ret (PureQ_ret (by simp [go_sem, partsOf, h0, h1, h2]) rfl)
    · simp (disch := omega) only [go_sem, seval, h1]; refine hK _ ?_; clear hK K; repeat (first | (refine AL_skip ?_) | (refine AL_seq ?_) | (refine AL_cond_t rfl ?_) | (refine AL_cond_f rfl ?_))
      refine AL_text (nx := 0) rfl fun K hK => ?_; simp (disch := omega) only [go_sem, seval]; refine hK _ ?_; clear hK K; repeat (first | (refine AL_skip ?_) | (refine AL_seq ?_) | (refine AL_cond_t rfl ?_) | (refine AL_cond_f rfl ?_))
      refine AL_ret (PureQ_ret (by simp [go_sem, partsOf, h0, h1]) rfl)
  · simp (disch := omega) only [go_sem, seval, h0]; refine hK _ ?_; clear hK K; repeat (first | (refine AL_skip ?_) | (refine AL_seq ?_) | (refine AL_cond_t rfl ?_) | (refine AL_cond_f rfl ?_))
    refine AL_text (nx := 0) rfl fun K hK => ?_; simp (disch := omega) only [go_sem, seval]; refine hK _ ?_; clear hK K; repeat (first | (refine AL_skip ?_) | (refine AL_seq ?_) | (refine AL_cond_t rfl ?_) | (refine AL_cond_f rfl ?_))
    refine AL_ret (PureQ_ret (by simp [go_sem, partsOf, h0]) rfl)

theorem c_contains (l : List UInt8) (c : UInt8) : Pure Γ Tryd.prog 48 [pS l, pS [c]] (pB (decide (0 ≤ Lib.indexByte l c))) := by
  intro F w cargs hfr ha
  have hc : cargs = #[.string ⟨l.toArray⟩, .string ⟨#[c]⟩] := Array.toList_inj.1 (preps_vs (vs := [.string ⟨l.toArray⟩, .string ⟨#[c]⟩]) ha)
  subst hc
  refine (Tryd.strings_Contains_one ⟨l.toArray⟩ c w).mono ?_
  rintro e w' ⟨rfl, rfl⟩
  exact ⟨_, rfl, .v _, Ext.refl _ _⟩

/-- Has a kind a part? -/
def hasP (k : Int) (c : UInt8) : Bool := decide (0 ≤ Lib.indexByte (partsOf (nameOf k)) c)

theorem c_has (hB : Blanks Γ) (i : Ins) (c : UInt8) : Pure Γ Tryd.prog 35 [ins i, pS [c]] (pB (hasP i.kind c)) := by
  refine pure_of_AW Tryd.func35 rfl (by simp [Tryd.f35]) ?_; refine AL_start ?_; repeat (refine AL_seq ?_)
  refine AL_text (nx := 0) rfl fun K hK => ?_; simp (disch := omega) only [go_sem, seval]; refine hK _ ?_; clear hK K; repeat (first | (refine AL_skip ?_) | (refine AL_seq ?_) | (refine AL_cond_t rfl ?_) | (refine AL_cond_f rfl ?_))
  refine AL_text (nx := 0) rfl fun K hK => ?_
  simp (disch := omega) only [go_sem, seval]
  refine CallK_pure (c_parts hB i.kind) en_49 rfl ?_
  simp (disch := omega) only [go_sem, seval]
  refine CallK_pure (c_contains _ c) en_48 rfl ?_
  simp (disch := omega) only [go_sem, seval]
  refine hK _ ?_; clear hK K; repeat (first | (refine AL_skip ?_) | (refine AL_seq ?_) | (refine AL_cond_t rfl ?_) | (refine AL_cond_f rfl ?_))
  refine AL_ret (PureQ_ret (by simp [go_sem, hasP]) rfl)

theorem c_without (i : Ins) : Pure Γ Tryd.prog 47 [ins i] (ins { i with id := 0, kind := 0 }) := by
  refine pure_of_AW Tryd.func47 rfl (by simp [Tryd.f47]) ?_; refine AL_start ?_; repeat (refine AL_seq ?_)
  refine AL_text (nx := 0) rfl fun K hK => ?_; simp (disch := omega) only [go_sem, seval]; refine hK _ ?_; clear hK K; repeat (first | (refine AL_skip ?_) | (refine AL_seq ?_) | (refine AL_cond_t rfl ?_) | (refine AL_cond_f rfl ?_))
  refine AL_text (nx := 0) rfl fun K hK => ?_; simp (disch := omega) only [go_sem, seval]; refine hK _ ?_; clear hK K; repeat (first | (refine AL_skip ?_) | (refine AL_seq ?_) | (refine AL_cond_t rfl ?_) | (refine AL_cond_f rfl ?_))
  refine AL_text (nx := 0) rfl fun K hK => ?_; simp (disch := omega) only [go_sem, seval]; refine hK _ ?_; clear hK K; repeat (first | (refine AL_skip ?_) | (refine AL_seq ?_) | (refine AL_cond_t rfl ?_) | (refine AL_cond_f rfl ?_))
  refine AL_ret (PureQ_ret (by simp (disch := omega) only [go_sem, seval] <;> rfl) rfl)

/-- An instruction without the parts that its kind has. -/
def bareI (i : Ins) : Ins :=
  { id := 0, kind := 0, dst := if hasP i.kind 100 then 0 else i.dst, a := if hasP i.kind 97 then 0 else i.a, b := if hasP i.kind 98 then 0 else i.b, c := if hasP i.kind 99 then 0 else i.c,
    f := if hasP i.kind 102 then 0 else i.f, n := if hasP i.kind 102 then 0 else i.n, x := if hasP i.kind 102 && decide (0 < i.n) then 0 else i.x, y := if hasP i.kind 102 && decide (1 < i.n) then 0 else i.y,
    z := if hasP i.kind 102 && decide (2 < i.n) then 0 else i.z }

theorem c_bare (hB : Blanks Γ) (i : Ins) : Pure Γ Tryd.prog 30 [ins i] (ins (bareI i)) := by
  obtain ⟨m, hm, hm3⟩ : ∃ m : Nat, max 0 (min i.n 3) = (m : Int) ∧ m ≤ 3 := ⟨(max 0 (min i.n 3)).toNat, by omega, by omega⟩
  refine pure_of_AW Tryd.func30 rfl (by simp [Tryd.f30]) ?_; refine AL_start ?_; repeat (refine AL_seq ?_)
  refine AL_text (nx := 0) rfl fun K hK => ?_; simp (disch := omega) only [go_sem, seval]; refine hK _ ?_; clear hK K; repeat (first | (refine AL_skip ?_) | (refine AL_seq ?_) | (refine AL_cond_t rfl ?_) | (refine AL_cond_f rfl ?_))
  refine AL_text (nx := 2) rfl fun K hK => ?_
  simp (disch := omega) only [go_sem, seval]
  refine CallK_pure (c_without i) en_47 rfl ?_
  simp (disch := omega) only [go_sem, seval]
  refine hK _ ?_; clear hK K; repeat (first | (refine AL_skip ?_) | (refine AL_seq ?_) | (refine AL_cond_t rfl ?_) | (refine AL_cond_f rfl ?_))
  let S : Int → Int → Int → Int → St := fun d a b c => ⟨ofA [(1, .op 11 0 0 0), (2, .op 11 1 0 0), (3, .op 11 2 0 0)], ofO [some (.rows 11 [i.cells]), some (.rows 11 [[pI 0, pI 0, pI 0, pI 0, pI 0, pI 0, pI 0, pI 0, pI 0, pI 0, pI 0]]), some (.rows 11 [[pI 0, pI 0, pI d, pI a, pI b, pI c, pI i.f, pI i.n, pI i.x, pI i.y, pI i.z]])]⟩
  refine AL_text (nx := 3) rfl fun K hK => ?_
  simp (disch := omega) only [go_sem, seval]
  refine CallK_pure (c_has hB i 100) en_35 rfl ?_
  simp (disch := omega) only [go_sem, seval]
  refine hK _ ?_; clear hK K
  refine AL_cut (fun d => S d i.a i.b i.c) (fun d => d = if hasP i.kind 100 = true then 0 else i.dst) ?_ ?_
  · cases h0 : hasP i.kind 100
    · repeat (first | (refine AL_skip ?_) | (refine AL_seq ?_) | (refine AL_cond_t rfl ?_) | (refine AL_cond_f rfl ?_))
      exact AL_cutend ⟨i.dst, by simp, (weak_sub [0, 1, 2] _ _ rfl (by decide) ⟨by decide, by decide⟩ (by simp [go_sem]) (by simp [go_sem]))⟩
    · repeat (first | (refine AL_skip ?_) | (refine AL_seq ?_) | (refine AL_cond_t rfl ?_) | (refine AL_cond_f rfl ?_))
      refine AL_text (nx := 3) rfl fun K hK => ?_; simp (disch := omega) only [go_sem, seval]; refine hK _ ?_; clear hK K; repeat (first | (refine AL_skip ?_) | (refine AL_seq ?_) | (refine AL_cond_t rfl ?_) | (refine AL_cond_f rfl ?_))
      exact AL_cutend ⟨0, by simp, (weak_sub [0, 1, 2] _ _ rfl (by decide) ⟨by decide, by decide⟩ (by simp [go_sem]) (by simp [go_sem]))⟩
  intro d hd
  repeat (refine AL_seq ?_)
  refine AL_text (nx := 3) rfl fun K hK => ?_
  simp (disch := omega) only [go_sem, seval, S]
  refine CallK_pure (c_has hB i 97) en_35 rfl ?_
  simp (disch := omega) only [go_sem, seval]
  refine hK _ ?_; clear hK K
  refine AL_cut (fun a => S d a i.b i.c) (fun a => a = if hasP i.kind 97 = true then 0 else i.a) ?_ ?_
  · cases h0 : hasP i.kind 97
    · repeat (first | (refine AL_skip ?_) | (refine AL_seq ?_) | (refine AL_cond_t rfl ?_) | (refine AL_cond_f rfl ?_))
      exact AL_cutend ⟨i.a, by simp, (weak_sub [0, 1, 2] _ _ rfl (by decide) ⟨by decide, by decide⟩ (by simp [go_sem]) (by simp [go_sem]))⟩
    · repeat (first | (refine AL_skip ?_) | (refine AL_seq ?_) | (refine AL_cond_t rfl ?_) | (refine AL_cond_f rfl ?_))
      refine AL_text (nx := 3) rfl fun K hK => ?_; simp (disch := omega) only [go_sem, seval]; refine hK _ ?_; clear hK K; repeat (first | (refine AL_skip ?_) | (refine AL_seq ?_) | (refine AL_cond_t rfl ?_) | (refine AL_cond_f rfl ?_))
      exact AL_cutend ⟨0, by simp, (weak_sub [0, 1, 2] _ _ rfl (by decide) ⟨by decide, by decide⟩ (by simp [go_sem]) (by simp [go_sem]))⟩
  intro a ha
  repeat (refine AL_seq ?_)
  refine AL_text (nx := 3) rfl fun K hK => ?_
  simp (disch := omega) only [go_sem, seval, S]
  refine CallK_pure (c_has hB i 98) en_35 rfl ?_
  simp (disch := omega) only [go_sem, seval]
  refine hK _ ?_; clear hK K
  refine AL_cut (fun b => S d a b i.c) (fun b => b = if hasP i.kind 98 = true then 0 else i.b) ?_ ?_
  · cases h0 : hasP i.kind 98
    · repeat (first | (refine AL_skip ?_) | (refine AL_seq ?_) | (refine AL_cond_t rfl ?_) | (refine AL_cond_f rfl ?_))
      exact AL_cutend ⟨i.b, by simp, (weak_sub [0, 1, 2] _ _ rfl (by decide) ⟨by decide, by decide⟩ (by simp [go_sem]) (by simp [go_sem]))⟩
    · repeat (first | (refine AL_skip ?_) | (refine AL_seq ?_) | (refine AL_cond_t rfl ?_) | (refine AL_cond_f rfl ?_))
      refine AL_text (nx := 3) rfl fun K hK => ?_; simp (disch := omega) only [go_sem, seval]; refine hK _ ?_; clear hK K; repeat (first | (refine AL_skip ?_) | (refine AL_seq ?_) | (refine AL_cond_t rfl ?_) | (refine AL_cond_f rfl ?_))
      exact AL_cutend ⟨0, by simp, (weak_sub [0, 1, 2] _ _ rfl (by decide) ⟨by decide, by decide⟩ (by simp [go_sem]) (by simp [go_sem]))⟩
  intro b hb
  repeat (refine AL_seq ?_)
  refine AL_text (nx := 3) rfl fun K hK => ?_
  simp (disch := omega) only [go_sem, seval, S]
  refine CallK_pure (c_has hB i 99) en_35 rfl ?_
  simp (disch := omega) only [go_sem, seval]
  refine hK _ ?_; clear hK K
  refine AL_cut (fun c => S d a b c) (fun c => c = if hasP i.kind 99 = true then 0 else i.c) ?_ ?_
  · cases h0 : hasP i.kind 99
    · repeat (first | (refine AL_skip ?_) | (refine AL_seq ?_) | (refine AL_cond_t rfl ?_) | (refine AL_cond_f rfl ?_))
      exact AL_cutend ⟨i.c, by simp, (weak_sub [0, 1, 2] _ _ rfl (by decide) ⟨by decide, by decide⟩ (by simp [go_sem]) (by simp [go_sem]))⟩
    · repeat (first | (refine AL_skip ?_) | (refine AL_seq ?_) | (refine AL_cond_t rfl ?_) | (refine AL_cond_f rfl ?_))
      refine AL_text (nx := 3) rfl fun K hK => ?_; simp (disch := omega) only [go_sem, seval]; refine hK _ ?_; clear hK K; repeat (first | (refine AL_skip ?_) | (refine AL_seq ?_) | (refine AL_cond_t rfl ?_) | (refine AL_cond_f rfl ?_))
      exact AL_cutend ⟨0, by simp, (weak_sub [0, 1, 2] _ _ rfl (by decide) ⟨by decide, by decide⟩ (by simp [go_sem]) (by simp [go_sem]))⟩
  intro c hc
  repeat (refine AL_seq ?_)
  refine AL_text (nx := 3) rfl fun K hK => ?_
  simp (disch := omega) only [go_sem, seval, S]
  refine CallK_pure (c_has hB i 102) en_35 rfl ?_
  simp (disch := omega) only [go_sem, seval]
  refine hK _ ?_; clear hK K
  cases h0 : hasP i.kind 102
  · repeat (first | (refine AL_skip ?_) | (refine AL_seq ?_) | (refine AL_cond_t rfl ?_) | (refine AL_cond_f rfl ?_))
    refine AL_text (nx := 3) rfl fun K hK => ?_; simp (disch := omega) only [go_sem, seval]; refine hK _ ?_; clear hK K; repeat (first | (refine AL_skip ?_) | (refine AL_seq ?_) | (refine AL_cond_t rfl ?_) | (refine AL_cond_f rfl ?_))
    refine AL_ret (PureQ_ret ?_ rfl)
    simp (disch := omega) only [go_sem, seval]
    simp [bareI, ins, h0, hd, ha, hb, hc]
  · repeat (first | (refine AL_skip ?_) | (refine AL_seq ?_) | (refine AL_cond_t rfl ?_) | (refine AL_cond_f rfl ?_))
    refine AL_text (nx := 3) rfl fun K hK => ?_; simp (disch := omega) only [go_sem, seval]; refine hK _ ?_; clear hK K; repeat (first | (refine AL_skip ?_) | (refine AL_seq ?_) | (refine AL_cond_t rfl ?_) | (refine AL_cond_f rfl ?_))
    refine AL_text (nx := 3) rfl fun K hK => ?_
    simp (disch := omega) only [go_sem, seval, hm, Nat.zero_le]
    refine ⟨hm3, by omega, hK _ ?_⟩; clear hK K; repeat (refine AL_seq ?_)
    have h1 : decide (0 < i.n) = decide (0 < m) := by simp only [decide_eq_decide]; omega
    have h2 : decide (1 < i.n) = decide (1 < m) := by simp only [decide_eq_decide]; omega
    have h3 : decide (2 < i.n) = decide (2 < m) := by simp only [decide_eq_decide]; omega
    have h4 : m = 0 ∨ m = 1 ∨ m = 2 ∨ m = 3 := by omega
    clear hm hm3
    rcases h4 with rfl | rfl | rfl | rfl
    · refine AL_text (nx := 3) rfl fun K hK => ?_; simp (disch := omega) only [go_sem, seval]; refine hK _ ?_; clear hK K; repeat (first | (refine AL_skip ?_) | (refine AL_seq ?_) | (refine AL_cond_t rfl ?_) | (refine AL_cond_f rfl ?_))
      refine AL_text (nx := 3) rfl fun K hK => ?_; simp (disch := omega) only [go_sem, seval]; refine hK _ ?_; clear hK K; repeat (first | (refine AL_skip ?_) | (refine AL_seq ?_) | (refine AL_cond_t rfl ?_) | (refine AL_cond_f rfl ?_))
      refine AL_ret (PureQ_ret ?_ rfl)
      simp (disch := omega) only [go_sem, seval]
      simp [bareI, ins, h0, h1, h2, h3, hd, ha, hb, hc]
    · refine AL_text (nx := 3) rfl fun K hK => ?_; simp (disch := omega) only [go_sem, seval]; refine hK _ ?_; clear hK K; repeat (first | (refine AL_skip ?_) | (refine AL_seq ?_) | (refine AL_cond_t rfl ?_) | (refine AL_cond_f rfl ?_))
      refine AL_text (nx := 3) rfl fun K hK => ?_; simp (disch := omega) only [go_sem, seval]; refine hK _ ?_; clear hK K; repeat (first | (refine AL_skip ?_) | (refine AL_seq ?_) | (refine AL_cond_t rfl ?_) | (refine AL_cond_f rfl ?_))
      refine AL_ret (PureQ_ret ?_ rfl)
      simp (disch := omega) only [go_sem, seval]
      simp [bareI, ins, h0, h1, h2, h3, hd, ha, hb, hc]
    · refine AL_text (nx := 3) rfl fun K hK => ?_; simp (disch := omega) only [go_sem, seval]; refine hK _ ?_; clear hK K; repeat (first | (refine AL_skip ?_) | (refine AL_seq ?_) | (refine AL_cond_t rfl ?_) | (refine AL_cond_f rfl ?_))
      refine AL_text (nx := 3) rfl fun K hK => ?_; simp (disch := omega) only [go_sem, seval]; refine hK _ ?_; clear hK K; repeat (first | (refine AL_skip ?_) | (refine AL_seq ?_) | (refine AL_cond_t rfl ?_) | (refine AL_cond_f rfl ?_))
      refine AL_ret (PureQ_ret ?_ rfl)
      simp (disch := omega) only [go_sem, seval]
      simp [bareI, ins, h0, h1, h2, h3, hd, ha, hb, hc]
    · refine AL_text (nx := 3) rfl fun K hK => ?_; simp (disch := omega) only [go_sem, seval]; refine hK _ ?_; clear hK K; repeat (first | (refine AL_skip ?_) | (refine AL_seq ?_) | (refine AL_cond_t rfl ?_) | (refine AL_cond_f rfl ?_))
      refine AL_text (nx := 3) rfl fun K hK => ?_; simp (disch := omega) only [go_sem, seval]; refine hK _ ?_; clear hK K; repeat (first | (refine AL_skip ?_) | (refine AL_seq ?_) | (refine AL_cond_t rfl ?_) | (refine AL_cond_f rfl ?_))
      refine AL_ret (PureQ_ret ?_ rfl)
      simp (disch := omega) only [go_sem, seval]
      simp [bareI, ins, h0, h1, h2, h3, hd, ha, hb, hc]

/-- The least of numbers. -/
def leastOf : List Int → Int → Int
  | [], m => m
  | x :: l, m => leastOf l (min m x)

theorem leastOf_snoc : ∀ (t : List Int) (x y : Int), leastOf (t ++ [y]) x = min (leastOf t x) y
  | [], _, _ => rfl
  | _ :: t, _, y => leastOf_snoc t _ y

theorem c_Min (L : List Int) (x : Int) (l : List Int) (hL : L = x :: l) : Pure Γ Tryd.prog 29 [ints L] (pI (leastOf l x)) := by
  have hl : L.length = l.length + 1 := by rw [hL]; rfl
  refine pure_of_AW Tryd.func29 rfl (by simp [Tryd.f29]) ?_; refine AL_start ?_; repeat (refine AL_seq ?_)
  refine AL_text (nx := 0) rfl fun K hK => ?_; simp (disch := omega) only [go_sem, seval]; refine hK _ ?_; clear hK K; repeat (first | (refine AL_skip ?_) | (refine AL_seq ?_) | (refine AL_cond_t rfl ?_) | (refine AL_cond_f rfl ?_))
  refine AL_len 0 (full := false) (rows := iRows L) rfl rfl (.refl _) fun hlen => ?_
  simp only [iRows, List.length_map] at hlen
  refine AL_text (nx := 0) rfl fun K hK => ?_
  have h0 : ¬ (L.length : Int) < 1 := by omega
  simp (disch := omega) only [go_sem, seval, h0]
  refine hK _ ?_; clear hK K; repeat (first | (refine AL_skip ?_) | (refine AL_seq ?_) | (refine AL_cond_t rfl ?_) | (refine AL_cond_f rfl ?_))
  refine AL_text (nx := 0) rfl fun K hK => ?_
  have h3 : (iRows L)[0]? = some [pI x] := by rw [hL]; rfl
  simp (disch := omega) only [go_sem, seval, h3]
  refine hK _ ?_; clear hK K; repeat (first | (refine AL_skip ?_) | (refine AL_seq ?_) | (refine AL_cond_t rfl ?_) | (refine AL_cond_f rfl ?_))
  refine AL_text (nx := 0) rfl fun K hK => ?_; simp (disch := omega) only [go_sem, seval]; refine hK _ ?_; clear hK K; repeat (first | (refine AL_skip ?_) | (refine AL_seq ?_) | (refine AL_cond_t rfl ?_) | (refine AL_cond_f rfl ?_))
  refine AL_block ?_
  refine AL_loop (fun k : Nat => ⟨ofA [(0, ints L), (3, pI (leastOf (l.take (k - 1)) x)), (4, pI k)], ofO []⟩) (fun k => 1 ≤ k ∧ k ≤ L.length) (fun k => L.length - k) 1 ⟨by omega, by omega⟩
    (weak_sub [] _ _ rfl (by decide) ⟨by decide, by decide⟩ (by simp [go_sem]) (by simp [go_sem, leastOf])) ?_
  intro k hk
  repeat (refine AL_seq ?_)
  refine AL_text (nx := 0) rfl fun K hK => ?_
  by_cases h1 : k < L.length
  · have h2 : (k : Int) < (L.length : Int) := by omega
    simp (disch := omega) only [go_sem, seval, h2]
    refine hK _ ?_; clear hK K; repeat (first | (refine AL_skip ?_) | (refine AL_seq ?_) | (refine AL_cond_t rfl ?_) | (refine AL_cond_f rfl ?_))
    refine AL_block ?_
    refine AL_text (nx := 0) rfl fun K hK => ?_
    have h3 := row_get h1
    simp (disch := omega) only [go_sem, seval, h3]
    refine hK _ ?_; clear hK K; repeat (first | (refine AL_skip ?_) | (refine AL_seq ?_) | (refine AL_cond_t rfl ?_) | (refine AL_cond_f rfl ?_))
    refine AL_text (nx := 0) rfl fun K hK => ?_
    simp (disch := omega) only [go_sem, seval, wrap_succ (k := k) (by omega)]
    refine hK _ ?_; clear hK K; repeat (first | (refine AL_skip ?_) | (refine AL_seq ?_) | (refine AL_cond_t rfl ?_) | (refine AL_cond_f rfl ?_))
    refine AL_round ⟨k + 1, ⟨by omega, by omega⟩, by omega, ?_⟩
    have h4 : leastOf (l.take k) x = min (leastOf (l.take (k - 1)) x) L[k] := by
      subst hL
      obtain ⟨j, rfl⟩ : ∃ j, k = j + 1 := ⟨k - 1, by omega⟩
      simp only [Nat.add_sub_cancel, List.getElem_cons_succ]
      have hj : j < l.length := by simpa using h1
      rw [List.take_succ_eq_append_getElem hj]
      exact leastOf_snoc _ _ _
    exact weak_sub [] _ _ rfl (by decide) ⟨by decide, by decide⟩ (by simp [go_sem]) (by simp [go_sem, h4])
  · have h2 : ¬ (k : Int) < (L.length : Int) := by omega
    simp (disch := omega) only [go_sem, seval, h2]
    refine hK _ ?_; clear hK K; repeat (first | (refine AL_skip ?_) | (refine AL_seq ?_) | (refine AL_cond_t rfl ?_) | (refine AL_cond_f rfl ?_))
    refine AL_exit ?_; simp only [SeqQ, BlockQ, ↓reduceIte, Nat.reduceEqDiff]; repeat (first | (refine AL_skip ?_) | (refine AL_seq ?_) | (refine AL_cond_t rfl ?_) | (refine AL_cond_f rfl ?_))
    refine AL_text (nx := 0) rfl fun K hK => ?_; simp (disch := omega) only [go_sem, seval]; refine hK _ ?_; clear hK K; repeat (first | (refine AL_skip ?_) | (refine AL_seq ?_) | (refine AL_cond_t rfl ?_) | (refine AL_cond_f rfl ?_))
    have h3 : l.take (k - 1) = l := List.take_of_length_le (by omega)
    rw [h3]
    refine AL_ret (PureQ_ret (by simp (disch := omega) only [go_sem, seval] <;> rfl) rfl)

/-- The first place of a number, or -1. -/
def idxFrom : List Int → Int → Nat → Int
  | [], _, _ => -1
  | y :: l, v, k => if v = y then k else idxFrom l v (k + 1)

theorem idxFrom_skip : ∀ (l : List Int) (v : Int) (j k : Nat) (h : k < l.length), l[k] ≠ v → idxFrom (l.drop k) v (j + k) = idxFrom (l.drop (k + 1)) v (j + k + 1)
  | l, v, j, k, h, hne => by rw [List.drop_eq_getElem_cons h]; simp only [idxFrom]; rw [if_neg (fun e => hne e.symm)]
theorem idxFrom_hit : ∀ (l : List Int) (v : Int) (k : Nat) (h : k < l.length), l[k] = v → idxFrom (l.drop k) v k = k
  | l, v, k, h, he => by rw [List.drop_eq_getElem_cons h]; simp only [idxFrom]; rw [if_pos he.symm]

theorem c_Index (L : List Int) (v : Int) : Pure Γ Tryd.prog 50 [ints L, pI v] (pI (idxFrom L v 0)) := by
  refine pure_of_AW Tryd.func50 rfl (by simp [Tryd.f50]) ?_; refine AL_start ?_; repeat (refine AL_seq ?_)
  refine AL_text (nx := 0) rfl fun K hK => ?_; simp (disch := omega) only [go_sem, seval]; refine hK _ ?_; clear hK K; repeat (first | (refine AL_skip ?_) | (refine AL_seq ?_) | (refine AL_cond_t rfl ?_) | (refine AL_cond_f rfl ?_))
  refine AL_len 0 (full := false) (rows := iRows L) rfl rfl (.refl _) fun hlen => ?_
  simp only [iRows, List.length_map] at hlen
  refine AL_text (nx := 0) rfl fun K hK => ?_; simp (disch := omega) only [go_sem, seval]; refine hK _ ?_; clear hK K; repeat (first | (refine AL_skip ?_) | (refine AL_seq ?_) | (refine AL_cond_t rfl ?_) | (refine AL_cond_f rfl ?_))
  refine AL_block ?_
  refine AL_loop (fun k : Nat => ⟨ofA [(0, ints L), (1, pI v), (7, pI L.length), (8, pI k)], ofO []⟩) (fun k => k ≤ L.length ∧ idxFrom (L.drop k) v k = idxFrom L v 0) (fun k => L.length - k) 0 ⟨by omega, rfl⟩ (weak_sub [] _ _ rfl (by decide) ⟨by decide, by decide⟩ (by simp [go_sem]) (by simp [go_sem])) ?_
  intro k hk
  repeat (refine AL_seq ?_)
  refine AL_text (nx := 0) rfl fun K hK => ?_
  by_cases h1 : k < L.length
  · have h2 : (k : Int) < (L.length : Int) := by omega
    simp (disch := omega) only [go_sem, seval, h2]
    refine hK _ ?_; clear hK K; repeat (first | (refine AL_skip ?_) | (refine AL_seq ?_) | (refine AL_cond_t rfl ?_) | (refine AL_cond_f rfl ?_))
    refine AL_block ?_
    repeat (refine AL_seq ?_)
    refine AL_text (nx := 0) rfl fun K hK => ?_; simp (disch := omega) only [go_sem, seval]; refine hK _ ?_; clear hK K; repeat (first | (refine AL_skip ?_) | (refine AL_seq ?_) | (refine AL_cond_t rfl ?_) | (refine AL_cond_f rfl ?_))
    refine AL_text (nx := 0) rfl fun K hK => ?_
    have h3 := row_get h1
    have hs := wrap_succ (k := k) (by omega)
    by_cases h4 : v = L[k]
    · have h5 : (v == L[k]) = true := by simpa using h4
      simp (disch := omega) only [go_sem, seval, h3, h5]
      refine hK _ ?_; clear hK K; repeat (first | (refine AL_skip ?_) | (refine AL_seq ?_) | (refine AL_cond_t rfl ?_) | (refine AL_cond_f rfl ?_))
      refine AL_text (nx := 0) rfl fun K hK => ?_; simp (disch := omega) only [go_sem, seval]; refine hK _ ?_; clear hK K; repeat (first | (refine AL_skip ?_) | (refine AL_seq ?_) | (refine AL_cond_t rfl ?_) | (refine AL_cond_f rfl ?_))
      have h6 := idxFrom_hit L v k h1 h4.symm
      rw [← hk.2, h6]
      refine AL_ret (PureQ_ret (by simp (disch := omega) only [go_sem, seval] <;> rfl) rfl)
    · have h5 : (v == L[k]) = false := by simpa using h4
      simp (disch := omega) only [go_sem, seval, h3, h5]
      refine hK _ ?_; clear hK K; repeat (first | (refine AL_skip ?_) | (refine AL_seq ?_) | (refine AL_cond_t rfl ?_) | (refine AL_cond_f rfl ?_))
      refine AL_text (nx := 0) rfl fun K hK => ?_
      simp (disch := omega) only [go_sem, seval, hs]
      refine hK _ ?_; clear hK K; repeat (first | (refine AL_skip ?_) | (refine AL_seq ?_) | (refine AL_cond_t rfl ?_) | (refine AL_cond_f rfl ?_))
      refine AL_round ⟨k + 1, ⟨by omega, ?_⟩, by omega, (weak_sub [] _ _ rfl (by decide) ⟨by decide, by decide⟩ (by simp [go_sem]) (by simp [go_sem]))⟩
      rw [← hk.2]
      have := idxFrom_skip L v 0 k h1 (fun e => h4 e.symm)
      simp only [Nat.zero_add] at this
      exact this.symm
  · have h2 : ¬ (k : Int) < (L.length : Int) := by omega
    simp (disch := omega) only [go_sem, seval, h2]
    refine hK _ ?_; clear hK K; repeat (first | (refine AL_skip ?_) | (refine AL_seq ?_) | (refine AL_cond_t rfl ?_) | (refine AL_cond_f rfl ?_))
    refine AL_exit ?_; simp only [SeqQ, BlockQ, ↓reduceIte, Nat.reduceEqDiff]; repeat (first | (refine AL_skip ?_) | (refine AL_seq ?_) | (refine AL_cond_t rfl ?_) | (refine AL_cond_f rfl ?_))
    refine AL_text (nx := 0) rfl fun K hK => ?_; simp (disch := omega) only [go_sem, seval]; refine hK _ ?_; clear hK K; repeat (first | (refine AL_skip ?_) | (refine AL_seq ?_) | (refine AL_cond_t rfl ?_) | (refine AL_cond_f rfl ?_))
    have h3 : L.drop k = [] := List.drop_of_length_le (by omega)
    rw [← hk.2, h3]
    refine AL_ret (PureQ_ret (by simp (disch := omega) only [go_sem, seval] <;> rfl) rfl)

theorem idxFrom_neg (v : Int) : ∀ (l : List Int) (k : Nat), (0 ≤ idxFrom l v k) ↔ v ∈ l
  | [], k => by simp [idxFrom]
  | y :: l, k => by
    simp only [idxFrom, List.mem_cons]
    split
    · simp [*]
    · rw [idxFrom_neg v l (k + 1)]; simp [*]

theorem c_Contains (L : List Int) (v : Int) : Pure Γ Tryd.prog 36 [ints L, pI v] (pB (decide (v ∈ L))) := by
  refine pure_of_AW Tryd.func36 rfl (by simp [Tryd.f36]) ?_; refine AL_start ?_; repeat (refine AL_seq ?_)
  refine AL_text (nx := 0) rfl fun K hK => ?_; simp (disch := omega) only [go_sem, seval]; refine hK _ ?_; clear hK K; repeat (first | (refine AL_skip ?_) | (refine AL_seq ?_) | (refine AL_cond_t rfl ?_) | (refine AL_cond_f rfl ?_))
  refine AL_text (nx := 0) rfl fun K hK => ?_
  simp (disch := omega) only [go_sem, seval]
  refine CallK_pure (c_Index L v) en_50 rfl ?_
  simp (disch := omega) only [go_sem, seval]
  refine hK _ ?_; clear hK K; repeat (first | (refine AL_skip ?_) | (refine AL_seq ?_) | (refine AL_cond_t rfl ?_) | (refine AL_cond_f rfl ?_))
  refine AL_ret (PureQ_ret ?_ rfl)
  simp (disch := omega) only [go_sem, seval]
  simp [idxFrom_neg]
end Go.Proofs.YtjlcojgimicfbaaDoor
/- Whether an instruction may be: the program's answer and the document's. -/
namespace Go.Proofs.YtjlcojgimicfbaaDoor
open Go.Am
set_option linter.unusedSimpArgs false
set_option maxRecDepth 100000
variable {Γ : Nat → Option Obj}

def noneR (h : Bool) (n : Int) : Bool := h && decide (0 ≤ n) || n == 0
theorem c_none (h : Bool) (n : Int) : Pure Γ Tryd.prog 31 [pB h, pI n] (pB (noneR h n)) := by
  refine pure_of_AW Tryd.func31 rfl (by simp [Tryd.f31]) ?_; refine AL_start ?_; repeat (refine AL_seq ?_)
  refine AL_text (nx := 0) rfl fun K hK => ?_; simp (disch := omega) only [go_sem, seval]; refine hK _ ?_; clear hK K; repeat (first | (refine AL_skip ?_) | (refine AL_seq ?_) | (refine AL_cond_t rfl ?_) | (refine AL_cond_f rfl ?_))
  cases h
  · refine AL_text (nx := 0) rfl fun K hK => ?_; simp (disch := omega) only [go_sem, seval]; refine hK _ ?_; clear hK K; repeat (first | (refine AL_skip ?_) | (refine AL_seq ?_) | (refine AL_cond_t rfl ?_) | (refine AL_cond_f rfl ?_))
    refine AL_ret (PureQ_ret (by simp [go_sem, noneR]) rfl)
  by_cases h0 : 0 ≤ n
  · refine AL_text (nx := 0) rfl fun K hK => ?_
    simp (disch := omega) only [go_sem, seval, h0]
    refine hK _ ?_; clear hK K; repeat (first | (refine AL_skip ?_) | (refine AL_seq ?_) | (refine AL_cond_t rfl ?_) | (refine AL_cond_f rfl ?_))
    refine AL_ret (PureQ_ret (by simp [go_sem, noneR, h0]) rfl)
  · refine AL_text (nx := 0) rfl fun K hK => ?_
    simp (disch := omega) only [go_sem, seval, h0]
    refine hK _ ?_; clear hK K; repeat (first | (refine AL_skip ?_) | (refine AL_seq ?_) | (refine AL_cond_t rfl ?_) | (refine AL_cond_f rfl ?_))
    refine AL_ret (PureQ_ret (by simp [go_sem, noneR, h0]) rfl)

def hasDstR (k : Int) : Bool := decide (0 ≤ k) && decide (k ≤ 7)
theorem c_hasDst (k : Int) : Pure Γ Tryd.prog 32 [pI k] (pB (hasDstR k)) := by
  refine pure_of_AW Tryd.func32 rfl (by simp [Tryd.f32]) ?_; refine AL_start ?_; repeat (refine AL_seq ?_)
  refine AL_text (nx := 0) rfl fun K hK => ?_; simp (disch := omega) only [go_sem, seval]; refine hK _ ?_; clear hK K; repeat (first | (refine AL_skip ?_) | (refine AL_seq ?_) | (refine AL_cond_t rfl ?_) | (refine AL_cond_f rfl ?_))
  by_cases h0 : 0 ≤ k
  · refine AL_text (nx := 0) rfl fun K hK => ?_
    simp (disch := omega) only [go_sem, seval, h0]
    refine hK _ ?_; clear hK K; repeat (first | (refine AL_skip ?_) | (refine AL_seq ?_) | (refine AL_cond_t rfl ?_) | (refine AL_cond_f rfl ?_))
    refine AL_ret (PureQ_ret (by simp [go_sem, hasDstR, h0]) rfl)
  · refine AL_text (nx := 0) rfl fun K hK => ?_
    simp (disch := omega) only [go_sem, seval, h0]
    refine hK _ ?_; clear hK K; repeat (first | (refine AL_skip ?_) | (refine AL_seq ?_) | (refine AL_cond_t rfl ?_) | (refine AL_cond_f rfl ?_))
    refine AL_ret (PureQ_ret (by simp [go_sem, hasDstR, h0]) rfl)
def hasBR (k : Int) : Bool := decide (3 ≤ k) && decide (k ≤ 5)
theorem c_hasB (k : Int) : Pure Γ Tryd.prog 34 [pI k] (pB (hasBR k)) := by
  refine pure_of_AW Tryd.func34 rfl (by simp [Tryd.f34]) ?_; refine AL_start ?_; repeat (refine AL_seq ?_)
  refine AL_text (nx := 0) rfl fun K hK => ?_; simp (disch := omega) only [go_sem, seval]; refine hK _ ?_; clear hK K; repeat (first | (refine AL_skip ?_) | (refine AL_seq ?_) | (refine AL_cond_t rfl ?_) | (refine AL_cond_f rfl ?_))
  by_cases h0 : 3 ≤ k
  · refine AL_text (nx := 0) rfl fun K hK => ?_
    simp (disch := omega) only [go_sem, seval, h0]
    refine hK _ ?_; clear hK K; repeat (first | (refine AL_skip ?_) | (refine AL_seq ?_) | (refine AL_cond_t rfl ?_) | (refine AL_cond_f rfl ?_))
    refine AL_ret (PureQ_ret (by simp [go_sem, hasBR, h0]) rfl)
  · refine AL_text (nx := 0) rfl fun K hK => ?_
    simp (disch := omega) only [go_sem, seval, h0]
    refine hK _ ?_; clear hK K; repeat (first | (refine AL_skip ?_) | (refine AL_seq ?_) | (refine AL_cond_t rfl ?_) | (refine AL_cond_f rfl ?_))
    refine AL_ret (PureQ_ret (by simp [go_sem, hasBR, h0]) rfl)
def hasAR (k : Int) : Bool := decide (1 ≤ k) && decide (k ≤ 5) || k == 8 || k == 9
theorem c_hasA (k : Int) : Pure Γ Tryd.prog 33 [pI k] (pB (hasAR k)) := by
  refine pure_of_AW Tryd.func33 rfl (by simp [Tryd.f33]) ?_; refine AL_start ?_; repeat (refine AL_seq ?_)
  refine AL_text (nx := 0) rfl fun K hK => ?_; simp (disch := omega) only [go_sem, seval]; refine hK _ ?_; clear hK K; repeat (first | (refine AL_skip ?_) | (refine AL_seq ?_) | (refine AL_cond_t rfl ?_) | (refine AL_cond_f rfl ?_))
  by_cases h0 : 1 ≤ k
  · by_cases h1 : k ≤ 5
    · refine AL_text (nx := 0) rfl fun K hK => ?_
      simp (disch := omega) only [go_sem, seval, h0, h1]
      refine hK _ ?_; clear hK K; repeat (first | (refine AL_skip ?_) | (refine AL_seq ?_) | (refine AL_cond_t rfl ?_) | (refine AL_cond_f rfl ?_))
      refine AL_ret (PureQ_ret (by simp [go_sem, hasAR, h0, h1]) rfl)
    · cases h2 : k == 8
      · refine AL_text (nx := 0) rfl fun K hK => ?_
        simp (disch := omega) only [go_sem, seval, h0, h1, h2]
        refine hK _ ?_; clear hK K; repeat (first | (refine AL_skip ?_) | (refine AL_seq ?_) | (refine AL_cond_t rfl ?_) | (refine AL_cond_f rfl ?_))
        refine AL_ret (PureQ_ret (by simp [go_sem, hasAR, h0, h1, h2]) rfl)
      · refine AL_text (nx := 0) rfl fun K hK => ?_
        simp (disch := omega) only [go_sem, seval, h0, h1, h2]
        refine hK _ ?_; clear hK K; repeat (first | (refine AL_skip ?_) | (refine AL_seq ?_) | (refine AL_cond_t rfl ?_) | (refine AL_cond_f rfl ?_))
        refine AL_ret (PureQ_ret (by simp [go_sem, hasAR, h0, h1, h2]) rfl)
  · cases h2 : k == 8
    · refine AL_text (nx := 0) rfl fun K hK => ?_
      simp (disch := omega) only [go_sem, seval, h0, h2]
      refine hK _ ?_; clear hK K; repeat (first | (refine AL_skip ?_) | (refine AL_seq ?_) | (refine AL_cond_t rfl ?_) | (refine AL_cond_f rfl ?_))
      refine AL_ret (PureQ_ret (by simp [go_sem, hasAR, h0, h2]) rfl)
    · refine AL_text (nx := 0) rfl fun K hK => ?_
      simp (disch := omega) only [go_sem, seval, h0, h2]
      refine hK _ ?_; clear hK K; repeat (first | (refine AL_skip ?_) | (refine AL_seq ?_) | (refine AL_cond_t rfl ?_) | (refine AL_cond_f rfl ?_))
      refine AL_ret (PureQ_ret (by simp [go_sem, hasAR, h0, h2]) rfl)

def refNameOf (k : Int) : List UInt8 := if k < 0 ∨ 9 < k then [] else names.getD k.toNat []
def nameRows : List (List PV) := names.map fun l => [pS l]
theorem nameRows_get (k : Int) (h0 : 0 ≤ k) (h1 : k ≤ 9) : nameRows[k.toNat]? = some [pS (refNameOf k)] := by
  have h : k.toNat < names.length := by simp only [names, List.length_cons, List.length_nil]; omega
  simp only [nameRows, List.getElem?_map, List.getElem?_eq_getElem h, refNameOf, if_neg (show ¬ (k < 0 ∨ 9 < k) by omega), Option.map_some, List.getD_eq_getElem?_getD, Option.getD_some]
theorem c_refName (k : Int) : Pure Γ Tryd.prog 18 [pI k] (pS (refNameOf k)) := by
  refine pure_of_AW Tryd.func18 rfl (by simp [Tryd.f18]) ?_; refine AL_start ?_; repeat (refine AL_seq ?_)
  refine AL_text (nx := 0) rfl fun K hK => ?_; simp (disch := omega) only [go_sem, seval]; refine hK _ ?_; clear hK K; repeat (first | (refine AL_skip ?_) | (refine AL_seq ?_) | (refine AL_cond_t rfl ?_) | (refine AL_cond_f rfl ?_))
  refine AL_text (nx := 0) rfl fun K hK => ?_; simp (disch := omega) only [go_sem, seval]; refine hK _ ?_; clear hK K; repeat (first | (refine AL_skip ?_) | (refine AL_seq ?_) | (refine AL_cond_t rfl ?_) | (refine AL_cond_f rfl ?_))
  refine AL_weak (st2 := ⟨ofA [(0, pI k), (3, .sl true nameRows)], ofO []⟩) (weak_sub [] _ _ rfl (by decide) ⟨by decide, by decide⟩ (by simp [go_sem]) (by simp [go_sem, nameRows, names])) ?_ (by simp)
  refine AL_text (nx := 0) rfl fun K hK => ?_
  by_cases h0 : k < 0
  · simp (disch := omega) only [go_sem, seval, h0]
    refine hK _ ?_; clear hK K; repeat (first | (refine AL_skip ?_) | (refine AL_seq ?_) | (refine AL_cond_t rfl ?_) | (refine AL_cond_f rfl ?_))
    refine AL_text (nx := 0) rfl fun K hK => ?_; simp (disch := omega) only [go_sem, seval]; refine hK _ ?_; clear hK K; repeat (first | (refine AL_skip ?_) | (refine AL_seq ?_) | (refine AL_cond_t rfl ?_) | (refine AL_cond_f rfl ?_))
    refine AL_ret (PureQ_ret (by simp [go_sem, refNameOf, h0]) rfl)
  by_cases h1 : 9 < k
  · simp (disch := omega) only [go_sem, seval, h0, h1]
    refine hK _ ?_; clear hK K; repeat (first | (refine AL_skip ?_) | (refine AL_seq ?_) | (refine AL_cond_t rfl ?_) | (refine AL_cond_f rfl ?_))
    refine AL_text (nx := 0) rfl fun K hK => ?_; simp (disch := omega) only [go_sem, seval]; refine hK _ ?_; clear hK K; repeat (first | (refine AL_skip ?_) | (refine AL_seq ?_) | (refine AL_cond_t rfl ?_) | (refine AL_cond_f rfl ?_))
    refine AL_ret (PureQ_ret (by simp [go_sem, refNameOf, h1]) rfl)
  · simp (disch := omega) only [go_sem, seval, h0, h1]
    refine hK _ ?_; clear hK K; repeat (first | (refine AL_skip ?_) | (refine AL_seq ?_) | (refine AL_cond_t rfl ?_) | (refine AL_cond_f rfl ?_))
    refine AL_text (nx := 0) rfl fun K hK => ?_
    have h2 := nameRows_get k (by omega) (by omega)
    have h3 : 0 ≤ k := by omega
    simp (disch := omega) only [go_sem, seval, h2, h3]
    refine hK _ ?_; clear hK K; repeat (first | (refine AL_skip ?_) | (refine AL_seq ?_) | (refine AL_cond_t rfl ?_) | (refine AL_cond_f rfl ?_))
    refine AL_ret (PureQ_ret (by simp (disch := omega) only [go_sem, seval] <;> rfl) rfl)

theorem c_Ints (a b : List Int) : Pure Γ Tryd.prog 12 [ints a, ints b] (pB (a == b)) := by
  refine pure_of_AW Tryd.func12 rfl (by simp [Tryd.f12]) ?_; refine AL_start ?_; repeat (refine AL_seq ?_)
  refine AL_text (nx := 0) rfl fun K hK => ?_; simp (disch := omega) only [go_sem, seval]; refine hK _ ?_; clear hK K; repeat (first | (refine AL_skip ?_) | (refine AL_seq ?_) | (refine AL_cond_t rfl ?_) | (refine AL_cond_f rfl ?_))
  refine AL_len 0 (full := false) (rows := iRows a) rfl rfl (.refl _) fun hlen => ?_
  simp only [iRows, List.length_map] at hlen
  refine AL_text (nx := 0) rfl fun K hK => ?_
  by_cases h0 : a.length = b.length
  · have h1 : ((a.length : Int) != (b.length : Int)) = false := by simp [h0]
    simp (disch := omega) only [go_sem, seval, h1]
    refine hK _ ?_; clear hK K; repeat (first | (refine AL_skip ?_) | (refine AL_seq ?_) | (refine AL_cond_t rfl ?_) | (refine AL_cond_f rfl ?_))
    refine AL_text (nx := 0) rfl fun K hK => ?_; simp (disch := omega) only [go_sem, seval]; refine hK _ ?_; clear hK K; repeat (first | (refine AL_skip ?_) | (refine AL_seq ?_) | (refine AL_cond_t rfl ?_) | (refine AL_cond_f rfl ?_))
    refine AL_block ?_
    refine AL_loop (fun k : Nat => ⟨ofA [(0, ints a), (1, ints b), (5, pI k)], ofO []⟩) (fun k => k ≤ a.length ∧ (a.drop k == b.drop k) = (a == b)) (fun k => a.length - k) 0 ⟨by omega, rfl⟩ (weak_sub [] _ _ rfl (by decide) ⟨by decide, by decide⟩ (by simp [go_sem]) (by simp [go_sem])) ?_
    intro k hk
    repeat (refine AL_seq ?_)
    refine AL_text (nx := 0) rfl fun K hK => ?_
    by_cases h2 : k < a.length
    · have h3 : (k : Int) < (a.length : Int) := by omega
      simp (disch := omega) only [go_sem, seval, h3]
      refine hK _ ?_; clear hK K; repeat (first | (refine AL_skip ?_) | (refine AL_seq ?_) | (refine AL_cond_t rfl ?_) | (refine AL_cond_f rfl ?_))
      refine AL_block ?_
      repeat (refine AL_seq ?_)
      refine AL_draw (nx := 0) mixed rfl (by kernel_rfl) fun K hK => ?_
      have h4 := row_get h2
      have h5 := row_get (l := b) (k := k) (by omega)
      have hs := wrap_succ (k := k) (by omega)
      have hd : (a.drop k == b.drop k) = (a[k] == b[k] && (a.drop (k + 1) == b.drop (k + 1))) := by
        rw [List.drop_eq_getElem_cons h2, List.drop_eq_getElem_cons (show k < b.length by omega)]; rfl
      by_cases h6 : a[k] = b[k]
      · have h7 : (a[k] != b[k]) = false := by simp [h6]
        simp (disch := omega) only [go_sem, seval, h4, h5, h7]
        refine ⟨by kernel_rfl, hK _ ?_⟩; clear hK K; repeat (first | (refine AL_skip ?_) | (refine AL_seq ?_) | (refine AL_cond_t rfl ?_) | (refine AL_cond_f rfl ?_))
        refine AL_text (nx := 0) rfl fun K hK => ?_
        simp (disch := omega) only [go_sem, seval, hs]
        refine hK _ ?_; clear hK K; repeat (first | (refine AL_skip ?_) | (refine AL_seq ?_) | (refine AL_cond_t rfl ?_) | (refine AL_cond_f rfl ?_))
        refine AL_round ⟨k + 1, ⟨by omega, ?_⟩, by omega, (weak_sub [] _ _ rfl (by decide) ⟨by decide, by decide⟩ (by simp [go_sem]) (by simp [go_sem]))⟩
        rw [← hk.2, hd]; simp [h6]
      · have h7 : (a[k] != b[k]) = true := by simp [h6]
        simp (disch := omega) only [go_sem, seval, h4, h5, h7]
        refine ⟨by kernel_rfl, hK _ ?_⟩; clear hK K; repeat (first | (refine AL_skip ?_) | (refine AL_seq ?_) | (refine AL_cond_t rfl ?_) | (refine AL_cond_f rfl ?_))
        refine AL_text (nx := 0) rfl fun K hK => ?_; simp (disch := omega) only [go_sem, seval]; refine hK _ ?_; clear hK K; repeat (first | (refine AL_skip ?_) | (refine AL_seq ?_) | (refine AL_cond_t rfl ?_) | (refine AL_cond_f rfl ?_))
        have : (a == b) = false := by rw [← hk.2, hd]; simp [h6]
        rw [this]
        refine AL_ret (PureQ_ret (by simp (disch := omega) only [go_sem, seval] <;> rfl) rfl)
    · have h3 : ¬ (k : Int) < (a.length : Int) := by omega
      simp (disch := omega) only [go_sem, seval, h3]
      refine hK _ ?_; clear hK K; repeat (first | (refine AL_skip ?_) | (refine AL_seq ?_) | (refine AL_cond_t rfl ?_) | (refine AL_cond_f rfl ?_))
      refine AL_exit ?_; simp only [SeqQ, BlockQ, ↓reduceIte, Nat.reduceEqDiff]; repeat (first | (refine AL_skip ?_) | (refine AL_seq ?_) | (refine AL_cond_t rfl ?_) | (refine AL_cond_f rfl ?_))
      refine AL_text (nx := 0) rfl fun K hK => ?_; simp (disch := omega) only [go_sem, seval]; refine hK _ ?_; clear hK K; repeat (first | (refine AL_skip ?_) | (refine AL_seq ?_) | (refine AL_cond_t rfl ?_) | (refine AL_cond_f rfl ?_))
      have : (a == b) = true := by rw [← hk.2, List.drop_of_length_le (by omega), List.drop_of_length_le (by omega)]; rfl
      rw [this]
      refine AL_ret (PureQ_ret (by simp (disch := omega) only [go_sem, seval] <;> rfl) rfl)
  · have h1 : ((a.length : Int) != (b.length : Int)) = true := by simp; omega
    simp (disch := omega) only [go_sem, seval, h1]
    refine hK _ ?_; clear hK K; repeat (first | (refine AL_skip ?_) | (refine AL_seq ?_) | (refine AL_cond_t rfl ?_) | (refine AL_cond_f rfl ?_))
    refine AL_text (nx := 0) rfl fun K hK => ?_; simp (disch := omega) only [go_sem, seval]; refine hK _ ?_; clear hK K; repeat (first | (refine AL_skip ?_) | (refine AL_seq ?_) | (refine AL_cond_t rfl ?_) | (refine AL_cond_f rfl ?_))
    have : (a == b) = false := by
      rw [beq_eq_false_iff_ne]; intro e; exact h0 (by rw [e])
    rw [this]
    refine AL_ret (PureQ_ret (by simp (disch := omega) only [go_sem, seval] <;> rfl) rfl)

/-- No part is less than 0. -/
def leastI (i : Ins) : Int := min (min (min (min i.dst i.a) i.b) i.f) (leastOf [i.y, i.z] i.x)
def zeroI : Ins := ⟨0, 0, 0, 0, 0, 0, 0, 0, 0, 0, 0⟩
def offI (i : Ins) : Bool := nameOf i.kind == [] || decide (i.id < 0) || decide (96 ≤ i.id) || decide (i.n < 0) || decide (3 < i.n) || decide (i.c < -2147483648) || decide (2147483647 < i.c)
def formI (i : Ins) : Bool := !offI i && decide (0 ≤ leastI i) && decide (bareI i = zeroI)

theorem minC (a b : Int) : (if b < a then b else a) = min a b := by omega
theorem eq_arr (w : World) (d : Nat) (x y z x' y' z' : Int) : (Op.equalIn (d + 1 + 1) 22 (.agg #[.int .i64 x, .int .i64 y, .int .i64 z]) (.agg #[.int .i64 x', .int .i64 y', .int .i64 z'])).run Tryd.prog w = .ok (x == x' && y == y' && z == z') w := by
  have hu : Tryd.prog.underlying 22 = some (.array 3 3) := by kernel_rfl
  have hs : tsz Tryd.prog 3 = some 1 := by kernel_rfl
  have hg : tag Tryd.prog 3 = some false := by kernel_rfl
  have u3 := Tryd.underlying3
  have a3 := Tryd.isAgg3
  have z3 := Tryd.sizeOf3
  obtain ⟨ti, hi, _⟩ := Option.map_eq_some_iff.1 hs
  rw [run_equalIn_array w (d + 1) _ _ hu hi, show Tryd.prog.cellsOf 3 = 1 by kernel_rfl]
  show (Op.eqItems (d + 1) 3 1 _ _ [0, 1, 2]).run Tryd.prog w = _
  simp only [Op.eqItems]
  go_simp
  by_cases h1 : x = x' <;> by_cases h2 : y = y' <;> by_cases h3 : z = z' <;> simp [h1, h2, h3]
theorem eq_ins {x y : Operand} (i j : Ins) : BinR Tryd.prog .eql 24 x y (.agg #[.int .i64 i.id, .int .i64 i.kind, .int .i64 i.dst, .int .i64 i.a, .int .i64 i.b, .int .i64 i.c, .int .i64 i.f, .int .i64 i.n, .int .i64 i.x, .int .i64 i.y, .int .i64 i.z])
    (.agg #[.int .i64 j.id, .int .i64 j.kind, .int .i64 j.dst, .int .i64 j.a, .int .i64 j.b, .int .i64 j.c, .int .i64 j.f, .int .i64 j.n, .int .i64 j.x, .int .i64 j.y, .int .i64 j.z]) (.bool (decide (i = j))) := by
  intro w
  have u3 := Tryd.underlying3
  have hS : Tryd.prog.underlying 24 = some (.struct (Tryd.prog.fieldsOf 24)) := by kernel_rfl
  have hp : Tryd.prog.stoodInHeld 24 = false := by kernel_rfl
  rw [Sem.run_bind, run_eqGuard_agg w .eql 24 x y _ _ (by kernel_rfl)]
  simp only [Result.andThen]
  rw [run_eql_struct, show (10000 : Nat) = 9999 + 1 from rfl, run_equalIn_agg w 9999 24 _ _ hS hp]
  simp only [Program.fieldsOf, Tryd.underlying24]
  go_simp
  rw [show (9999 : Nat) = 9997 + 1 + 1 from rfl, eq_arr]
  have e : (i = j) = (i.id = j.id ∧ i.kind = j.kind ∧ i.dst = j.dst ∧ i.a = j.a ∧ i.b = j.b ∧ i.c = j.c ∧ i.f = j.f ∧ i.n = j.n ∧ i.x = j.x ∧ i.y = j.y ∧ i.z = j.z) := by
    cases i; cases j; simp
  simp only [e]
  clear hS hp u3
  repeat' split
  all_goals (by_cases hx : i.x = j.x <;> by_cases hy : i.y = j.y <;> by_cases hz : i.z = j.z <;> simp_all [Result.andThen])

theorem c_Form (hB : Blanks Γ) (i : Ins) : Pure Γ Tryd.prog 8 [ins i] (pB (formI i)) := by
  refine pure_of_AW Tryd.func8 rfl (by simp [Tryd.f8]) ?_; refine AL_start ?_; repeat (refine AL_seq ?_)
  refine AL_text (nx := 0) rfl fun K hK => ?_; simp (disch := omega) only [go_sem, seval]; refine hK _ ?_; clear hK K; repeat (first | (refine AL_skip ?_) | (refine AL_seq ?_) | (refine AL_cond_t rfl ?_) | (refine AL_cond_f rfl ?_))
  by_cases h0 : (nameOf i.kind == []) = true
  · refine AL_text (nx := 1) rfl fun K hK => ?_
    (repeat (refine RW_cutc 5 fun K' hK' => ?_; (try simp (disch := omega) only [go_sem, seval, h0]); (repeat (first | (refine CallK_pure (c_Name hB _) en_17 rfl ?_; (try simp (disch := omega) only [go_sem, seval, h0])))); refine hK' _ _ _ ?_; clear hK' K')); (try simp (disch := omega) only [go_sem, seval, h0])
    refine hK _ ?_; clear hK K; repeat (first | (refine AL_skip ?_) | (refine AL_seq ?_) | (refine AL_cond_t rfl ?_) | (refine AL_cond_f rfl ?_))
    refine AL_text (nx := 1) rfl fun K hK => ?_; simp (disch := omega) only [go_sem, seval]; refine hK _ ?_; clear hK K; repeat (first | (refine AL_skip ?_) | (refine AL_seq ?_) | (refine AL_cond_t rfl ?_) | (refine AL_cond_f rfl ?_))
    refine AL_ret (PureQ_ret (by simp [go_sem, formI, offI, h0]) rfl)
  rw [Bool.not_eq_true] at h0
  by_cases h1 : i.id < 0
  · refine AL_text (nx := 1) rfl fun K hK => ?_
    (repeat (refine RW_cutc 5 fun K' hK' => ?_; (try simp (disch := omega) only [go_sem, seval, h0, h1]); (repeat (first | (refine CallK_pure (c_Name hB _) en_17 rfl ?_; (try simp (disch := omega) only [go_sem, seval, h0, h1])))); refine hK' _ _ _ ?_; clear hK' K')); (try simp (disch := omega) only [go_sem, seval, h0, h1])
    refine hK _ ?_; clear hK K; repeat (first | (refine AL_skip ?_) | (refine AL_seq ?_) | (refine AL_cond_t rfl ?_) | (refine AL_cond_f rfl ?_))
    refine AL_text (nx := 1) rfl fun K hK => ?_; simp (disch := omega) only [go_sem, seval]; refine hK _ ?_; clear hK K; repeat (first | (refine AL_skip ?_) | (refine AL_seq ?_) | (refine AL_cond_t rfl ?_) | (refine AL_cond_f rfl ?_))
    refine AL_ret (PureQ_ret (by simp [go_sem, formI, offI, h0, h1]) rfl)
  by_cases h2 : 96 ≤ i.id
  · refine AL_text (nx := 1) rfl fun K hK => ?_
    (repeat (refine RW_cutc 5 fun K' hK' => ?_; (try simp (disch := omega) only [go_sem, seval, h0, h1, h2]); (repeat (first | (refine CallK_pure (c_Name hB _) en_17 rfl ?_; (try simp (disch := omega) only [go_sem, seval, h0, h1, h2])))); refine hK' _ _ _ ?_; clear hK' K')); (try simp (disch := omega) only [go_sem, seval, h0, h1, h2])
    refine hK _ ?_; clear hK K; repeat (first | (refine AL_skip ?_) | (refine AL_seq ?_) | (refine AL_cond_t rfl ?_) | (refine AL_cond_f rfl ?_))
    refine AL_text (nx := 1) rfl fun K hK => ?_; simp (disch := omega) only [go_sem, seval]; refine hK _ ?_; clear hK K; repeat (first | (refine AL_skip ?_) | (refine AL_seq ?_) | (refine AL_cond_t rfl ?_) | (refine AL_cond_f rfl ?_))
    refine AL_ret (PureQ_ret (by simp [go_sem, formI, offI, h0, h1, h2]) rfl)
  by_cases h3 : i.n < 0
  · refine AL_text (nx := 1) rfl fun K hK => ?_
    (repeat (refine RW_cutc 5 fun K' hK' => ?_; (try simp (disch := omega) only [go_sem, seval, h0, h1, h2, h3]); (repeat (first | (refine CallK_pure (c_Name hB _) en_17 rfl ?_; (try simp (disch := omega) only [go_sem, seval, h0, h1, h2, h3])))); refine hK' _ _ _ ?_; clear hK' K')); (try simp (disch := omega) only [go_sem, seval, h0, h1, h2, h3])
    refine hK _ ?_; clear hK K; repeat (first | (refine AL_skip ?_) | (refine AL_seq ?_) | (refine AL_cond_t rfl ?_) | (refine AL_cond_f rfl ?_))
    refine AL_text (nx := 1) rfl fun K hK => ?_; simp (disch := omega) only [go_sem, seval]; refine hK _ ?_; clear hK K; repeat (first | (refine AL_skip ?_) | (refine AL_seq ?_) | (refine AL_cond_t rfl ?_) | (refine AL_cond_f rfl ?_))
    refine AL_ret (PureQ_ret (by simp [go_sem, formI, offI, h0, h1, h2, h3]) rfl)
  by_cases h4 : 3 < i.n
  · refine AL_text (nx := 1) rfl fun K hK => ?_
    (repeat (refine RW_cutc 5 fun K' hK' => ?_; (try simp (disch := omega) only [go_sem, seval, h0, h1, h2, h3, h4]); (repeat (first | (refine CallK_pure (c_Name hB _) en_17 rfl ?_; (try simp (disch := omega) only [go_sem, seval, h0, h1, h2, h3, h4])))); refine hK' _ _ _ ?_; clear hK' K')); (try simp (disch := omega) only [go_sem, seval, h0, h1, h2, h3, h4])
    refine hK _ ?_; clear hK K; repeat (first | (refine AL_skip ?_) | (refine AL_seq ?_) | (refine AL_cond_t rfl ?_) | (refine AL_cond_f rfl ?_))
    refine AL_text (nx := 1) rfl fun K hK => ?_; simp (disch := omega) only [go_sem, seval]; refine hK _ ?_; clear hK K; repeat (first | (refine AL_skip ?_) | (refine AL_seq ?_) | (refine AL_cond_t rfl ?_) | (refine AL_cond_f rfl ?_))
    refine AL_ret (PureQ_ret (by simp [go_sem, formI, offI, h0, h1, h2, h3, h4]) rfl)
  by_cases h5 : i.c < -2147483648
  · refine AL_text (nx := 1) rfl fun K hK => ?_
    (repeat (refine RW_cutc 5 fun K' hK' => ?_; (try simp (disch := omega) only [go_sem, seval, h0, h1, h2, h3, h4, h5]); (repeat (first | (refine CallK_pure (c_Name hB _) en_17 rfl ?_; (try simp (disch := omega) only [go_sem, seval, h0, h1, h2, h3, h4, h5])))); refine hK' _ _ _ ?_; clear hK' K')); (try simp (disch := omega) only [go_sem, seval, h0, h1, h2, h3, h4, h5])
    refine hK _ ?_; clear hK K; repeat (first | (refine AL_skip ?_) | (refine AL_seq ?_) | (refine AL_cond_t rfl ?_) | (refine AL_cond_f rfl ?_))
    refine AL_text (nx := 1) rfl fun K hK => ?_; simp (disch := omega) only [go_sem, seval]; refine hK _ ?_; clear hK K; repeat (first | (refine AL_skip ?_) | (refine AL_seq ?_) | (refine AL_cond_t rfl ?_) | (refine AL_cond_f rfl ?_))
    refine AL_ret (PureQ_ret (by simp [go_sem, formI, offI, h0, h1, h2, h3, h4, h5]) rfl)
  by_cases h6 : 2147483647 < i.c
  · refine AL_text (nx := 1) rfl fun K hK => ?_
    (repeat (refine RW_cutc 5 fun K' hK' => ?_; (try simp (disch := omega) only [go_sem, seval, h0, h1, h2, h3, h4, h5, h6]); (repeat (first | (refine CallK_pure (c_Name hB _) en_17 rfl ?_; (try simp (disch := omega) only [go_sem, seval, h0, h1, h2, h3, h4, h5, h6])))); refine hK' _ _ _ ?_; clear hK' K')); (try simp (disch := omega) only [go_sem, seval, h0, h1, h2, h3, h4, h5, h6])
    refine hK _ ?_; clear hK K; repeat (first | (refine AL_skip ?_) | (refine AL_seq ?_) | (refine AL_cond_t rfl ?_) | (refine AL_cond_f rfl ?_))
    refine AL_text (nx := 1) rfl fun K hK => ?_; simp (disch := omega) only [go_sem, seval]; refine hK _ ?_; clear hK K; repeat (first | (refine AL_skip ?_) | (refine AL_seq ?_) | (refine AL_cond_t rfl ?_) | (refine AL_cond_f rfl ?_))
    refine AL_ret (PureQ_ret (by simp [go_sem, formI, offI, h0, h1, h2, h3, h4, h5, h6]) rfl)
  refine AL_text (nx := 1) rfl fun K hK => ?_
  (repeat (refine RW_cutc 5 fun K' hK' => ?_; (try simp (disch := omega) only [go_sem, seval, h0, h1, h2, h3, h4, h5, h6]); (repeat (first | (refine CallK_pure (c_Name hB _) en_17 rfl ?_; (try simp (disch := omega) only [go_sem, seval, h0, h1, h2, h3, h4, h5, h6])))); refine hK' _ _ _ ?_; clear hK' K')); (try simp (disch := omega) only [go_sem, seval, h0, h1, h2, h3, h4, h5, h6])
  refine hK _ ?_; clear hK K; repeat (first | (refine AL_skip ?_) | (refine AL_seq ?_) | (refine AL_cond_t rfl ?_) | (refine AL_cond_f rfl ?_))
  have hoff : offI i = false := by simp [offI, h0, h1, h2, h3, h4, h5, h6]
  clear h0 h1 h2 h3 h4 h5 h6
  refine AL_weak (st2 := ⟨ofA [(1, .op 11 0 0 0)], ofO [some (.rows 11 [i.cells])]⟩) (weak_sub [0] _ _ rfl (by decide) ⟨by decide, by decide⟩ (by simp [go_sem]) (by simp [go_sem])) ?_ (by simp)
  refine AL_draw (nx := 1) mixed rfl (by kernel_rfl) fun K hK => ?_
  (repeat (refine RW_cutc 5 fun K' hK' => ?_; (try simp (disch := omega) only [go_sem, seval]); refine hK' _ _ _ ?_; clear hK' K')); (try simp (disch := omega) only [go_sem, seval])
  refine CallK_view [ints [i.x, i.y, i.z]] (c_Min [i.x, i.y, i.z] i.x [i.y, i.z] rfl) en_29 rfl (by simp [go_sem]) ?_
  (repeat (refine RW_cutc 5 fun K' hK' => ?_; (try simp (disch := omega) only [go_sem, seval]); refine hK' _ _ _ ?_; clear hK' K')); (try simp (disch := omega) only [go_sem, seval])
  refine ⟨by kernel_rfl, hK _ ?_⟩; clear hK K; repeat (first | (refine AL_skip ?_) | (refine AL_seq ?_) | (refine AL_cond_t rfl ?_) | (refine AL_cond_f rfl ?_))
  refine AL_weak (st2 := ⟨ofA [(1, .op 11 0 0 0), (3, pI (leastI i))], ofO [some (.rows 11 [i.cells])]⟩) (weak_sub [0] _ _ rfl (by decide) ⟨by decide, by decide⟩ (by simp [go_sem]) (by simp [go_sem, leastI, minC])) ?_ (by simp)
  by_cases h7 : 0 ≤ leastI i
  · refine AL_text (nx := 1) rfl fun K hK => ?_
    (repeat (refine RW_cutc 5 fun K' hK' => ?_; (try simp (disch := omega) only [go_sem, seval, h7]); (repeat (first | (refine CallK_pure (c_bare hB _) en_30 rfl ?_; (try simp (disch := omega) only [go_sem, seval, h7])))); refine hK' _ _ _ ?_; clear hK' K')); (try simp (disch := omega) only [go_sem, seval, h7])
    refine ⟨_, eq_ins (bareI i) zeroI, ?_⟩
    (try simp (disch := omega) only [go_sem, seval])
    refine hK _ ?_; clear hK K; repeat (first | (refine AL_skip ?_) | (refine AL_seq ?_) | (refine AL_cond_t rfl ?_) | (refine AL_cond_f rfl ?_))
    refine AL_ret (PureQ_ret (by simp [go_sem, formI, hoff, h7]) rfl)
  · refine AL_text (nx := 1) rfl fun K hK => ?_
    (repeat (refine RW_cutc 5 fun K' hK' => ?_; (try simp (disch := omega) only [go_sem, seval, h7]); refine hK' _ _ _ ?_; clear hK' K')); (try simp (disch := omega) only [go_sem, seval, h7])
    refine hK _ ?_; clear hK K; repeat (first | (refine AL_skip ?_) | (refine AL_seq ?_) | (refine AL_cond_t rfl ?_) | (refine AL_cond_f rfl ?_))
    refine AL_ret (PureQ_ret (by simp [go_sem, formI, hoff, h7]) rfl)
end Go.Proofs.YtjlcojgimicfbaaDoor
