/-
  DERIVED: THE SHELF's CONTRACTS AT THIS DUMP, IN PLAIN WORDS (tools/lay-plain.mjs out of 'TryzShelf.lean', which tools/lay-shelf.mjs wrote): THE SAME DECLARATIONS UNDER THE SAME NAMES: 'import', 'namespace', 'open', 'def', 'theorem' AND NOTHING ELSE: no command of the shelf's: FOR A HAND-IN. Each laying: the table of numbers ('.._ren') and one theorem, a field a fact of the dump's own or the kernel's comparison; each contract: ONE APPLICATION.
-/
import Derived.Shelf.Strings.Builder1
import Derived.Shelf.Strings.Builder2
import Derived.Shelf.Strings.OnBuilder
import Derived.Shelf.Small.Strs
import Derived.Shelf.Strings.BuilderF
import Derived.Shelf.Strconv.Itoa0
import Derived.Shelf.Strconv.Itoa1
import Derived.Shelf.LaysM
import Derived.Shelf.Strconv.Itoa2
import Derived.Shelf.Strconv.Itoa3
import Derived.Shelf.Strings.Search1
import Derived.Shelf.Strings.Search2
import Derived.Shelf.Strings.Search3
import Derived.Shelf.Strings.Shaped
import Derived.Shelf.Strings.Prefix
import Derived.Test.YtmfabihndpidnaaGreatDoorProg
namespace Go.Proofs
open Go.Shelf
def Tryz.lays156_ren : Go.Shelf.Ren := ⟨fun | 156 => 24 | 165 => 46 | 166 => 15 | 169 => 17 | 240 => 37 | 241 => 69 | 276 => 57 | 277 => 87 | n => n, fun | 31 => 73 | 9 => 9 | 3 => 3 | 4 => 4 | 0 => 0 | 20 => 20 | 72 => 50 | 76 => 62 | 70 => 47 | 37 => 48 | 75 => 61 | 127 => 115 | 164 => 130 | 5 => 5 | 80 => 65 | n => n, fun | n => n⟩
theorem Tryz.lays156 : Go.Proofs.Lays.n156 Tryz.prog Tryz.lays156_ren := {
 mixed := by kernel_rfl
 f156 := Tryz.func24.trans (congrArg some (by kernel_rfl))
 f165 := Tryz.func46.trans (congrArg some (by kernel_rfl))
 f166 := Tryz.func15.trans (congrArg some (by kernel_rfl))
 f169 := Tryz.func17.trans (congrArg some (by kernel_rfl))
 f240 := Tryz.func37.trans (congrArg some (by kernel_rfl))
 f241 := Tryz.func69.trans (congrArg some (by kernel_rfl))
 f276 := Tryz.func57.trans (congrArg some (by kernel_rfl))
 f277 := Tryz.func87.trans (congrArg some (by kernel_rfl))
 t0 := Tryz.underlying0
 a0 := Tryz.isAgg0
 z0 := Tryz.sizeOf0
 v0 := Tryz.zeroValue0
 t3 := Tryz.underlying3
 a3 := Tryz.isAgg3
 z3 := Tryz.sizeOf3
 v3 := Tryz.zeroValue3
 t4 := Tryz.underlying4
 a4 := Tryz.isAgg4
 z4 := Tryz.sizeOf4
 v4 := Tryz.zeroValue4
 t9 := Tryz.underlying9
 a9 := Tryz.isAgg9
 z9 := Tryz.sizeOf9
 v9 := Tryz.zeroValue9
 t20 := Tryz.underlying20
 a20 := Tryz.isAgg20
 z20 := Tryz.sizeOf20
 v20 := Tryz.zeroValue20
 t31 := Tryz.underlying73
 a31 := Tryz.isAgg73
 z31 := Tryz.sizeOf73
 v31 := Tryz.zeroValue73
 t37 := Tryz.underlying48
 a37 := Tryz.isAgg48
 z37 := Tryz.sizeOf48
 v37 := Tryz.zeroValue48
 t70 := Tryz.underlying47
 a70 := Tryz.isAgg47
 z70 := Tryz.sizeOf47
 v70 := Tryz.zeroValue47
 t72 := Tryz.underlying50
 a72 := Tryz.isAgg50
 z72 := Tryz.sizeOf50
 v72 := Tryz.zeroValue50
 t75 := Tryz.underlying61
 a75 := Tryz.isAgg61
 z75 := Tryz.sizeOf61
 v75 := Tryz.zeroValue61
 t76 := Tryz.underlying62
 a76 := Tryz.isAgg62
 z76 := Tryz.sizeOf62
 v76 := Tryz.zeroValue62
 t127 := Tryz.underlying115
 a127 := Tryz.isAgg115
 z127 := Tryz.sizeOf115
 v127 := Tryz.zeroValue115
 t164 := Tryz.underlying130
 a164 := Tryz.isAgg130
 z164 := Tryz.sizeOf130
 v164 := Tryz.zeroValue130 }
theorem Tryz.Builder_Extra_156 : Builder.Extra Tryz.prog Tryz.lays156_ren := {
 sizeBuilder := by kernel_rfl
 liesBuilder := by kernel_rfl
 t5 := Tryz.underlying5
 a5 := Tryz.isAgg5
 z5 := Tryz.sizeOf5
 v5 := Tryz.zeroValue5
 infoByte := by kernel_rfl
 cellsByte := by kernel_rfl
 sizeByte := by kernel_rfl
 neB5 := by decide }
open Go.RowKit in
theorem Tryz.strings_Join (bk o c : Nat) (xs : List ByteArray) (sep : ByteArray) (w : World) (hcells : ∀ (j : Nat) x, xs[j]? = some x → w.cell? ⟨bk, o + j, none⟩ = some (.string x)) (hbk : bk < w.heap.size) (hN : xs.length ≤ 140737488355328) (hcap : xs.length ≤ c) (hlen : (Lib.join (xs.map (·.data.toList)) sep.data.toList).length ≤ 140737488355328) :
 Calls Tryz.prog 24 #[.slice (some ⟨bk, o, none⟩) xs.length c, .string sep] w fun e w' => e = .returned (.string ⟨(Lib.join (xs.map (·.data.toList)) sep.data.toList).toArray⟩) ∧ Below w.heap.size w w' := Any.strings_Join Tryz.lays156 Tryz.Builder_Extra_156 bk o c xs sep w hcells hbk hN hcap hlen
def Tryz.lays137_ren : Go.Shelf.Ren := ⟨fun | 137 => 53 | 217 => 73 | 266 => 89 | n => n, fun | 9 => 9 | 5 => 5 | 3 => 3 | n => n, fun | n => n⟩
theorem Tryz.lays137 : Go.Proofs.Lays.n137 Tryz.prog Tryz.lays137_ren := {
 mixed := by kernel_rfl
 f137 := Tryz.func53.trans (congrArg some (by kernel_rfl))
 f217 := Tryz.func73.trans (congrArg some (by kernel_rfl))
 f266 := Tryz.func89.trans (congrArg some (by kernel_rfl))
 t3 := Tryz.underlying3
 a3 := Tryz.isAgg3
 z3 := Tryz.sizeOf3
 v3 := Tryz.zeroValue3
 t5 := Tryz.underlying5
 a5 := Tryz.isAgg5
 z5 := Tryz.sizeOf5
 v5 := Tryz.zeroValue5
 t9 := Tryz.underlying9
 a9 := Tryz.isAgg9
 z9 := Tryz.sizeOf9
 v9 := Tryz.zeroValue9 }
open Go.RowKit in
theorem Tryz.strings_IndexByte (s : ByteArray) (c : Int) (w : World) :
 Calls Tryz.prog 53 #[.string s, .int .u8 c] w fun e w' => e = .returned (.int .i64 (Lib.indexByte s.data.toList c.toNat.toUInt8)) ∧ w' = w := Any.strings_IndexByte Tryz.lays137 s c w
def Tryz.laysM171_ren : Go.Shelf.Ren := ⟨fun | 171 => 23 | 243 => 45 | 246 => 68 | 283 => 83 | 284 => 84 | 285 => 85 | 286 => 86 | 129 => 101 | 317 => 100 | 318 => 102 | 319 => 103 | 320 => 104 | 337 => 117 | 338 => 118 | n => n, fun | 3 => 3 | 9 => 9 | 2 => 2 | 4 => 4 | 171 => 170 | 0 => 0 | 53 => 171 | 37 => 48 | 5 => 5 | 173 => 174 | 212 => 185 | 51 => 186 | 20 => 20 | 213 => 187 | 46 => 124 | 232 => 204 | 233 => 205 | n => n, fun | 17 => 1 | 18 => 4 | 19 => 5 | n => n⟩
theorem Tryz.laysM171 : Go.Proofs.LaysM.n171 Tryz.prog Tryz.laysM171_ren := {
 mixed := by kernel_rfl
 f129 := Tryz.func101.trans (congrArg some (by kernel_rfl))
 f171 := Tryz.func23.trans (congrArg some (by kernel_rfl))
 f243 := Tryz.func45.trans (congrArg some (by kernel_rfl))
 f246 := Tryz.func68.trans (congrArg some (by kernel_rfl))
 f283 := Tryz.func83.trans (congrArg some (by kernel_rfl))
 f284 := Tryz.func84.trans (congrArg some (by kernel_rfl))
 f285 := Tryz.func85.trans (congrArg some (by kernel_rfl))
 f286 := Tryz.func86.trans (congrArg some (by kernel_rfl))
 f317 := Tryz.func100.trans (congrArg some (by kernel_rfl))
 f318 := Tryz.func102.trans (congrArg some (by kernel_rfl))
 f319 := Tryz.func103.trans (congrArg some (by kernel_rfl))
 f320 := Tryz.func104.trans (congrArg some (by kernel_rfl))
 f337 := Tryz.func117.trans (congrArg some (by kernel_rfl))
 f338 := Tryz.func118.trans (congrArg some (by kernel_rfl))
 t0 := Tryz.underlying0
 a0 := Tryz.isAgg0
 z0 := Tryz.sizeOf0
 v0 := Tryz.zeroValue0
 t2 := Tryz.underlying2
 a2 := Tryz.isAgg2
 z2 := Tryz.sizeOf2
 v2 := Tryz.zeroValue2
 t3 := Tryz.underlying3
 a3 := Tryz.isAgg3
 z3 := Tryz.sizeOf3
 v3 := Tryz.zeroValue3
 t4 := Tryz.underlying4
 a4 := Tryz.isAgg4
 z4 := Tryz.sizeOf4
 v4 := Tryz.zeroValue4
 t5 := Tryz.underlying5
 a5 := Tryz.isAgg5
 z5 := Tryz.sizeOf5
 v5 := Tryz.zeroValue5
 t9 := Tryz.underlying9
 a9 := Tryz.isAgg9
 z9 := Tryz.sizeOf9
 v9 := Tryz.zeroValue9
 t20 := Tryz.underlying20
 a20 := Tryz.isAgg20
 z20 := Tryz.sizeOf20
 v20 := Tryz.zeroValue20
 t37 := Tryz.underlying48
 a37 := Tryz.isAgg48
 z37 := Tryz.sizeOf48
 v37 := Tryz.zeroValue48
 t46 := Tryz.underlying124
 a46 := Tryz.isAgg124
 z46 := Tryz.sizeOf124
 v46 := Tryz.zeroValue124
 t51 := Tryz.underlying186
 a51 := Tryz.isAgg186
 z51 := Tryz.sizeOf186
 v51 := Tryz.zeroValue186
 t53 := Tryz.underlying171
 a53 := Tryz.isAgg171
 z53 := Tryz.sizeOf171
 v53 := Tryz.zeroValue171
 t171 := Tryz.underlying170
 a171 := Tryz.isAgg170
 z171 := Tryz.sizeOf170
 v171 := Tryz.zeroValue170
 t173 := Tryz.underlying174
 a173 := Tryz.isAgg174
 z173 := Tryz.sizeOf174
 v173 := Tryz.zeroValue174
 t212 := Tryz.underlying185
 a212 := Tryz.isAgg185
 z212 := Tryz.sizeOf185
 v212 := Tryz.zeroValue185
 t213 := Tryz.underlying187
 a213 := Tryz.isAgg187
 z213 := Tryz.sizeOf187
 t232 := Tryz.underlying204
 a232 := Tryz.isAgg204
 z232 := Tryz.sizeOf204
 v232 := Tryz.zeroValue204
 t233 := Tryz.underlying205
 a233 := Tryz.isAgg205
 z233 := Tryz.sizeOf205
 v233 := Tryz.zeroValue205
 g17 := by kernel_rfl
 g18 := by kernel_rfl
 g19 := by kernel_rfl
 i0 := by kernel_rfl
 i2 := by kernel_rfl
 i3 := by kernel_rfl
 i4 := by kernel_rfl
 i5 := by kernel_rfl
 i9 := by kernel_rfl
 i20 := by kernel_rfl
 i37 := by kernel_rfl
 i46 := by kernel_rfl
 i51 := by kernel_rfl
 i53 := by kernel_rfl
 i171 := by kernel_rfl
 i173 := by kernel_rfl
 i212 := by kernel_rfl
 i232 := by kernel_rfl
 i233 := by kernel_rfl
 m17 := by kernel_rfl
 m18 := by kernel_rfl
 m19 := by kernel_rfl }
open Go.RowKit Go.Sort Go.Lib in
theorem Tryz.strconv_Itoa (n : Int) (h0 : -9223372036854775808 ≤ n) (h1 : n ≤ 9223372036854775807) (w : World) (htab : Lib.TabIs Tryz.prog w "internal/strconv.uint64pow10" .u64 Lib.pow10Tab) :
 Calls Tryz.prog 23 #[.int .i64 n] w fun e w' => e = .returned (.string ⟨(Lib.itoa n).toArray⟩) ∧ ∃ k os, w' = grow (w.drewN k) os := Any.strconv_Itoa Tryz.laysM171 n h0 h1 w htab
def Tryz.lays144_ren : Go.Shelf.Ren := ⟨fun | 144 => 58 | 143 => 76 | 219 => 93 | 217 => 73 | 225 => 110 | 224 => 111 | 267 => 112 | 266 => 89 | 314 => 120 | n => n, fun | 9 => 9 | 4 => 4 | 3 => 3 | 5 => 5 | 46 => 124 | 146 => 200 | 51 => 186 | n => n, fun | 1 => 2 | n => n⟩
theorem Tryz.lays144 : Go.Proofs.Lays.n144 Tryz.prog Tryz.lays144_ren := {
 mixed := by kernel_rfl
 f143 := Tryz.func76.trans (congrArg some (by kernel_rfl))
 f144 := Tryz.func58.trans (congrArg some (by kernel_rfl))
 f217 := Tryz.func73.trans (congrArg some (by kernel_rfl))
 f219 := Tryz.func93.trans (congrArg some (by kernel_rfl))
 f224 := Tryz.func111.trans (congrArg some (by kernel_rfl))
 f225 := Tryz.func110.trans (congrArg some (by kernel_rfl))
 f266 := Tryz.func89.trans (congrArg some (by kernel_rfl))
 f267 := Tryz.func112.trans (congrArg some (by kernel_rfl))
 f314 := Tryz.func120.trans (congrArg some (by kernel_rfl))
 t3 := Tryz.underlying3
 a3 := Tryz.isAgg3
 z3 := Tryz.sizeOf3
 v3 := Tryz.zeroValue3
 t4 := Tryz.underlying4
 a4 := Tryz.isAgg4
 z4 := Tryz.sizeOf4
 v4 := Tryz.zeroValue4
 t5 := Tryz.underlying5
 a5 := Tryz.isAgg5
 z5 := Tryz.sizeOf5
 v5 := Tryz.zeroValue5
 t9 := Tryz.underlying9
 a9 := Tryz.isAgg9
 z9 := Tryz.sizeOf9
 v9 := Tryz.zeroValue9
 t46 := Tryz.underlying124
 a46 := Tryz.isAgg124
 z46 := Tryz.sizeOf124
 v46 := Tryz.zeroValue124
 t51 := Tryz.underlying186
 a51 := Tryz.isAgg186
 z51 := Tryz.sizeOf186
 v51 := Tryz.zeroValue186
 t146 := Tryz.underlying200
 a146 := Tryz.isAgg200
 z146 := Tryz.sizeOf200
 v146 := Tryz.zeroValue200
 g1 := by kernel_rfl }
open Go.RowKit Go.Lib in
theorem Tryz.strings_Contains_one (s : ByteArray) (c : UInt8) (w : World) :
 Calls Tryz.prog 58 #[.string s, .string ⟨#[c]⟩] w fun e w' => e = .returned (.bool (decide (0 ≤ Lib.indexByte s.data.toList c))) ∧ w' = w := Any.strings_Contains_one Tryz.lays144 s c w
def Tryz.lays99_ren : Go.Shelf.Ren := ⟨fun | 99 => 54 | 206 => 74 | n => n, fun | 9 => 9 | 4 => 4 | 3 => 3 | n => n, fun | n => n⟩
theorem Tryz.lays99 : Go.Proofs.Lays.n99 Tryz.prog Tryz.lays99_ren := {
 mixed := by kernel_rfl
 f99 := Tryz.func54.trans (congrArg some (by kernel_rfl))
 f206 := Tryz.func74.trans (congrArg some (by kernel_rfl))
 t3 := Tryz.underlying3
 a3 := Tryz.isAgg3
 z3 := Tryz.sizeOf3
 v3 := Tryz.zeroValue3
 t4 := Tryz.underlying4
 a4 := Tryz.isAgg4
 z4 := Tryz.sizeOf4
 v4 := Tryz.zeroValue4
 t9 := Tryz.underlying9
 a9 := Tryz.isAgg9
 z9 := Tryz.sizeOf9
 v9 := Tryz.zeroValue9 }
open Go.RowKit Go.Lib in
theorem Tryz.strings_HasPrefix (s p : ByteArray) (w : World) :
 Calls Tryz.prog 54 #[.string s, .string p] w fun e w' => e = .returned (.bool (Lib.hasPrefix s.data.toList p.data.toList)) ∧ w' = w := Any.strings_HasPrefix Tryz.lays99 s p w
end Go.Proofs
