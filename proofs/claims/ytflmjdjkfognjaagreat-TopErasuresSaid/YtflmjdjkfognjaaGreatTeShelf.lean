/- contracts of the library at this program -/
import Derived.Shelf.Strings.Builder1
import Derived.Shelf.Strings.Builder2
import Derived.Shelf.Small.Bits
import Derived.Shelf.Small.Wraps
import Derived.Shelf.Strings.BuilderF
import Derived.Shelf.Strings.BuilderK
import Derived.Shelf.Strconv.Itoa0
import Derived.Shelf.Sort.Plain
import Derived.Shelf.Strings.Prefix
import Derived.Shelf.Bits.Mul64
import Derived.Shelf.Strings.Repeat
import Derived.Shelf.Slices.Turned
import Derived.Ground.Names2Prog
import Derived.Shelf.Slices.Clone
import Derived.Shelf.Slices.CompactI
import Derived.Shelf.Slices.SearchI
import Derived.Shelf.Slices.Cells
import Derived.Shelf.Slices.In.SortNone
import Derived.Ground.SlgnProg
import Derived.Shelf.SlicesE.Clone
import Derived.Shelf.SlIterI.Nil
import Derived.Shelf.SlIterI.Sorted
import Derived.Test.YtflmjdjkfognjaaGreatProg
namespace Go.Proofs.YtflmjdjkfognjaaGreat
open Go.Shelf
def Tryz.lays169_ren : Go.Shelf.Ren := ⟨fun | 169 => 83 | n => n, fun | 70 => 167 | 9 => 9 | 0 => 0 | 72 => 169 | 37 => 123 | 127 => 241 | 3 => 3 | 5 => 5 | n => n, fun | n => n⟩
theorem Tryz.lays169 : Go.Proofs.Lays.n169 Tryz.prog Tryz.lays169_ren := {
  mixed := by kernel_rfl
  f169 := Tryz.func83.trans (congrArg some (by kernel_rfl))
  t0 := Tryz.underlying0
  a0 := Tryz.isAgg0
  z0 := Tryz.sizeOf0
  v0 := Tryz.zeroValue0
  t3 := Tryz.underlying3
  a3 := Tryz.isAgg3
  z3 := Tryz.sizeOf3
  v3 := Tryz.zeroValue3
  t9 := Tryz.underlying9
  a9 := Tryz.isAgg9
  z9 := Tryz.sizeOf9
  v9 := Tryz.zeroValue9
  t37 := Tryz.underlying123
  a37 := Tryz.isAgg123
  z37 := Tryz.sizeOf123
  v37 := Tryz.zeroValue123
  t70 := Tryz.underlying167
  a70 := Tryz.isAgg167
  z70 := Tryz.sizeOf167
  v70 := Tryz.zeroValue167
  t72 := Tryz.underlying169
  a72 := Tryz.isAgg169
  z72 := Tryz.sizeOf169
  v72 := Tryz.zeroValue169
  t127 := Tryz.underlying241
  a127 := Tryz.isAgg241
  z127 := Tryz.sizeOf241
  v127 := Tryz.zeroValue241 }
theorem Tryz.Builder_Extra_169 : Builder.Extra Tryz.prog Tryz.lays169_ren := {
  sizeBuilder := by kernel_rfl
  liesBuilder := by kernel_rfl
  t5 := Tryz.underlying5
  a5 := Tryz.isAgg5
  z5 := Tryz.sizeOf5
  v5 := Tryz.zeroValue5
  infoByte := by kernel_rfl
  cellsByte := by kernel_rfl
  sizeByte := by kernel_rfl
  neB5 := by decide }
open Go.RowKit in
theorem Tryz.Builder_String_any (B b : Nat) (l : List UInt8) (w : World) (h : Lib.IsBuilder 169 5 B b (Lib.byteCells l) w) (hBw : B ≤ w.heap.size) :
    Calls Tryz.prog 83 #[.pointer (some ⟨b, 0, none⟩)] w fun e w' => e = .returned (.string ⟨l.toArray⟩) ∧ Below B w w' := Any.Builder_String_any Tryz.lays169 Tryz.Builder_Extra_169 B b l w h hBw
def Tryz.lays189_ren : Go.Shelf.Ren := ⟨fun | 189 => 214 | 125 => 243 | 257 => 242 | 128 => 264 | 129 => 265 | 294 => 255 | 295 => 256 | 296 => 257 | 297 => 258 | 298 => 259 | 299 => 260 | 216 => 261 | 300 => 262 | 301 => 263 | 328 => 272 | 329 => 273 | 330 => 274 | 331 => 275 | 332 => 276 | 215 => 277 | 343 => 281 | n => n, fun | 28 => 53 | 3 => 3 | 46 => 121 | 0 => 0 | 51 => 235 | 53 => 238 | 4 => 4 | 183 => 341 | 182 => 340 | 131 => 44 | 5 => 5 | 9 => 9 | 218 => 354 | 222 => 358 | 228 => 361 | 229 => 253 | n => n, fun | n => n⟩
theorem Tryz.lays189 : Go.Proofs.Lays.n189 Tryz.prog Tryz.lays189_ren := {
  mixed := by kernel_rfl
  f125 := Tryz.func243.trans (congrArg some (by kernel_rfl))
  f128 := Tryz.func264.trans (congrArg some (by kernel_rfl))
  f129 := Tryz.func265.trans (congrArg some (by kernel_rfl))
  f189 := Tryz.func214.trans (congrArg some (by kernel_rfl))
  f215 := Tryz.func277.trans (congrArg some (by kernel_rfl))
  f216 := Tryz.func261.trans (congrArg some (by kernel_rfl))
  f257 := Tryz.func242.trans (congrArg some (by kernel_rfl))
  f294 := Tryz.func255.trans (congrArg some (by kernel_rfl))
  f295 := Tryz.func256.trans (congrArg some (by kernel_rfl))
  f296 := Tryz.func257.trans (congrArg some (by kernel_rfl))
  f297 := Tryz.func258.trans (congrArg some (by kernel_rfl))
  f298 := Tryz.func259.trans (congrArg some (by kernel_rfl))
  f299 := Tryz.func260.trans (congrArg some (by kernel_rfl))
  f300 := Tryz.func262.trans (congrArg some (by kernel_rfl))
  f301 := Tryz.func263.trans (congrArg some (by kernel_rfl))
  f328 := Tryz.func272.trans (congrArg some (by kernel_rfl))
  f329 := Tryz.func273.trans (congrArg some (by kernel_rfl))
  f330 := Tryz.func274.trans (congrArg some (by kernel_rfl))
  f331 := Tryz.func275.trans (congrArg some (by kernel_rfl))
  f332 := Tryz.func276.trans (congrArg some (by kernel_rfl))
  f343 := Tryz.func281.trans (congrArg some (by kernel_rfl))
  t0 := Tryz.underlying0
  a0 := Tryz.isAgg0
  z0 := Tryz.sizeOf0
  v0 := Tryz.zeroValue0
  t3 := Tryz.underlying3
  a3 := Tryz.isAgg3
  z3 := Tryz.sizeOf3
  v3 := Tryz.zeroValue3
  t4 := Tryz.underlying4
  a4 := Tryz.isAgg4
  z4 := Tryz.sizeOf4
  v4 := Tryz.zeroValue4
  t5 := Tryz.underlying5
  a5 := Tryz.isAgg5
  z5 := Tryz.sizeOf5
  v5 := Tryz.zeroValue5
  t9 := Tryz.underlying9
  a9 := Tryz.isAgg9
  z9 := Tryz.sizeOf9
  v9 := Tryz.zeroValue9
  t28 := Tryz.underlying53
  a28 := Tryz.isAgg53
  z28 := Tryz.sizeOf53
  v28 := Tryz.zeroValue53
  t46 := Tryz.underlying121
  a46 := Tryz.isAgg121
  z46 := Tryz.sizeOf121
  v46 := Tryz.zeroValue121
  t51 := Tryz.underlying235
  a51 := Tryz.isAgg235
  z51 := Tryz.sizeOf235
  v51 := Tryz.zeroValue235
  t53 := Tryz.underlying238
  a53 := Tryz.isAgg238
  z53 := Tryz.sizeOf238
  v53 := Tryz.zeroValue238
  t131 := Tryz.underlying44
  a131 := Tryz.isAgg44
  z131 := Tryz.sizeOf44
  v131 := Tryz.zeroValue44
  t182 := Tryz.underlying340
  a182 := Tryz.isAgg340
  z182 := Tryz.sizeOf340
  v182 := Tryz.zeroValue340
  t183 := Tryz.underlying341
  a183 := Tryz.isAgg341
  z183 := Tryz.sizeOf341
  v183 := Tryz.zeroValue341
  t218 := Tryz.underlying354
  a218 := Tryz.isAgg354
  z218 := Tryz.sizeOf354
  v218 := Tryz.zeroValue354
  t222 := Tryz.underlying358
  a222 := Tryz.isAgg358
  z222 := Tryz.sizeOf358
  v222 := Tryz.zeroValue358
  t228 := Tryz.underlying361
  a228 := Tryz.isAgg361
  z228 := Tryz.sizeOf361
  v228 := Tryz.zeroValue361
  t229 := Tryz.underlying253
  a229 := Tryz.isAgg253
  z229 := Tryz.sizeOf253
  v229 := Tryz.zeroValue253 }
open Go.Sort Go.RowKit in
theorem Tryz.slices_Sort_int (blk off cap : Nat) (zs : List Int) (w : World) (hH : Holds (Value.int .i64) w blk off zs.toArray) (hblk : blk < w.heap.size) (hsz : zs.length < 4611686018427387904) :
    Calls Tryz.prog 214 #[.slice (some ⟨blk, off, none⟩) zs.length cap] w fun e w' =>
      e = .returned (.tuple #[]) ∧ ∃ n os, w' = grow (putRow (Value.int .i64) (Sort.ahead w n) blk off (zs.mergeSort fun x y => decide (x ≤ y)).toArray) os := Any.slices_Sort_int Tryz.lays189 blk off cap zs w hH hblk hsz
def Tryz.lays105_ren : Go.Shelf.Ren := ⟨fun | 105 => 29 | 212 => 78 | 99 => 79 | 165 => 80 | 166 => 81 | 170 => 82 | 169 => 83 | 263 => 149 | 264 => 150 | 206 => 151 | 240 => 152 | 241 => 153 | 276 => 195 | 277 => 196 | n => n, fun | 9 => 9 | 3 => 3 | 4 => 4 | 20 => 20 | 0 => 0 | 46 => 121 | 109 => 164 | 5 => 5 | 72 => 169 | 76 => 173 | 51 => 235 | 146 => 236 | 53 => 238 | 148 => 239 | 70 => 167 | 37 => 123 | 75 => 172 | 127 => 241 | 164 => 288 | 80 => 176 | n => n, fun | n => n⟩
theorem Tryz.lays105 : Go.Proofs.Lays.n105 Tryz.prog Tryz.lays105_ren := {
  mixed := by kernel_rfl
  f99 := Tryz.func79.trans (congrArg some (by kernel_rfl))
  f105 := Tryz.func29.trans (congrArg some (by kernel_rfl))
  f165 := Tryz.func80.trans (congrArg some (by kernel_rfl))
  f166 := Tryz.func81.trans (congrArg some (by kernel_rfl))
  f169 := Tryz.func83.trans (congrArg some (by kernel_rfl))
  f170 := Tryz.func82.trans (congrArg some (by kernel_rfl))
  f206 := Tryz.func151.trans (congrArg some (by kernel_rfl))
  f212 := Tryz.func78.trans (congrArg some (by kernel_rfl))
  f240 := Tryz.func152.trans (congrArg some (by kernel_rfl))
  f241 := Tryz.func153.trans (congrArg some (by kernel_rfl))
  f263 := Tryz.func149.trans (congrArg some (by kernel_rfl))
  f264 := Tryz.func150.trans (congrArg some (by kernel_rfl))
  f276 := Tryz.func195.trans (congrArg some (by kernel_rfl))
  f277 := Tryz.func196.trans (congrArg some (by kernel_rfl))
  t0 := Tryz.underlying0
  a0 := Tryz.isAgg0
  z0 := Tryz.sizeOf0
  v0 := Tryz.zeroValue0
  t3 := Tryz.underlying3
  a3 := Tryz.isAgg3
  z3 := Tryz.sizeOf3
  v3 := Tryz.zeroValue3
  t4 := Tryz.underlying4
  a4 := Tryz.isAgg4
  z4 := Tryz.sizeOf4
  v4 := Tryz.zeroValue4
  t5 := Tryz.underlying5
  a5 := Tryz.isAgg5
  z5 := Tryz.sizeOf5
  v5 := Tryz.zeroValue5
  t9 := Tryz.underlying9
  a9 := Tryz.isAgg9
  z9 := Tryz.sizeOf9
  v9 := Tryz.zeroValue9
  t20 := Tryz.underlying20
  a20 := Tryz.isAgg20
  z20 := Tryz.sizeOf20
  v20 := Tryz.zeroValue20
  t37 := Tryz.underlying123
  a37 := Tryz.isAgg123
  z37 := Tryz.sizeOf123
  v37 := Tryz.zeroValue123
  t46 := Tryz.underlying121
  a46 := Tryz.isAgg121
  z46 := Tryz.sizeOf121
  v46 := Tryz.zeroValue121
  t51 := Tryz.underlying235
  a51 := Tryz.isAgg235
  z51 := Tryz.sizeOf235
  v51 := Tryz.zeroValue235
  t53 := Tryz.underlying238
  a53 := Tryz.isAgg238
  z53 := Tryz.sizeOf238
  v53 := Tryz.zeroValue238
  t70 := Tryz.underlying167
  a70 := Tryz.isAgg167
  z70 := Tryz.sizeOf167
  v70 := Tryz.zeroValue167
  t72 := Tryz.underlying169
  a72 := Tryz.isAgg169
  z72 := Tryz.sizeOf169
  v72 := Tryz.zeroValue169
  t75 := Tryz.underlying172
  a75 := Tryz.isAgg172
  z75 := Tryz.sizeOf172
  v75 := Tryz.zeroValue172
  t76 := Tryz.underlying173
  a76 := Tryz.isAgg173
  z76 := Tryz.sizeOf173
  v76 := Tryz.zeroValue173
  t109 := Tryz.underlying164
  a109 := Tryz.isAgg164
  z109 := Tryz.sizeOf164
  v109 := Tryz.zeroValue164
  t127 := Tryz.underlying241
  a127 := Tryz.isAgg241
  z127 := Tryz.sizeOf241
  v127 := Tryz.zeroValue241
  t146 := Tryz.underlying236
  a146 := Tryz.isAgg236
  z146 := Tryz.sizeOf236
  v146 := Tryz.zeroValue236
  t148 := Tryz.underlying239
  a148 := Tryz.isAgg239
  z148 := Tryz.sizeOf239
  v148 := Tryz.zeroValue239
  t164 := Tryz.underlying288
  a164 := Tryz.isAgg288
  z164 := Tryz.sizeOf288
  v164 := Tryz.zeroValue288 }
theorem Tryz.Builder_Extra_105 : Builder.Extra Tryz.prog Tryz.lays105_ren := {
  sizeBuilder := by kernel_rfl
  liesBuilder := by kernel_rfl
  t5 := Tryz.underlying5
  a5 := Tryz.isAgg5
  z5 := Tryz.sizeOf5
  v5 := Tryz.zeroValue5
  infoByte := by kernel_rfl
  cellsByte := by kernel_rfl
  sizeByte := by kernel_rfl
  neB5 := by decide }
open Go.RowKit Go.Lib in
theorem Tryz.strings_Repeat (s : ByteArray) (c : Nat) (w : World) (hc : c ≤ 9223372036854775807) (hlen : s.size * c ≤ 140737488355328) :
    Calls Tryz.prog 29 #[.string s, .int .i64 c] w fun e w' => e = .returned (.string ⟨(Lib.repeatL s.data.toList c).toArray⟩) ∧ Below w.heap.size w w' := Any.strings_Repeat Tryz.lays105 Tryz.Builder_Extra_105 s c w hc hlen
def Tryz.laysNm215_ren : Go.Shelf.Ren := ⟨fun | 15 => 17 | n => n, fun | 22 => 53 | 3 => 3 | 4 => 4 | n => n, fun | n => n⟩
theorem Tryz.laysNm215 : Go.Proofs.Lays2.n15 Tryz.prog Tryz.laysNm215_ren := {
  mixed := by kernel_rfl
  f15 := Tryz.func17.trans (congrArg some (by kernel_rfl))
  t3 := Tryz.underlying3
  a3 := Tryz.isAgg3
  z3 := Tryz.sizeOf3
  v3 := Tryz.zeroValue3
  t4 := Tryz.underlying4
  a4 := Tryz.isAgg4
  z4 := Tryz.sizeOf4
  v4 := Tryz.zeroValue4
  t22 := Tryz.underlying53
  a22 := Tryz.isAgg53
  z22 := Tryz.sizeOf53
  v22 := Tryz.zeroValue53
  i3 := by kernel_rfl }
open Go.RowKit Go.Lib in
theorem Tryz.slices_Clone_int (b off n c : Nat) (zs : List Int) (w : World) (hz : n ≤ zs.length) (hbig : n * 8 ≤ 140737488355328) (hc : ∀ j, j < zs.length → w.cell? ⟨b, off + j, none⟩ = some (.int .i64 (zs.getD j 0))) :
    Calls Tryz.prog 17 #[.slice (some ⟨b, off, none⟩) n c] w fun e w' => ∃ v', e = .returned v' ∧ w'.ownsRow w.heap.size 3 1 v' n ((zs.take n).map (Value.int .i64)) ∧ v' ≠ .slice none 0 0 ∧ Below w.heap.size w w' := Any.slices_Clone_int Tryz.laysNm215 b off n c zs w hz hbig hc
open Go.RowKit Go.Lib in
theorem Tryz.slices_Clone_int_nil (n c : Nat) (w : World) :
    Calls Tryz.prog 17 #[.slice none n c] w fun e w' => e = .returned (.slice none 0 0) ∧ w' = w := Any.slices_Clone_int_nil Tryz.laysNm215 n c w
open Go.RowKit Go.Lib in
theorem Tryz.slices_Clone_int_zero (a : Addr) (c : Nat) (w : World) :
    Calls Tryz.prog 17 #[.slice (some a) 0 c] w fun e w' => ∃ v', e = .returned v' ∧ w'.ownsRow w.heap.size 3 1 v' 0 [] ∧ v' ≠ .slice none 0 0 ∧ Below w.heap.size w w' := Any.slices_Clone_int_zero Tryz.laysNm215 a c w
def Tryz.laysNm220_ren : Go.Shelf.Ren := ⟨fun | 20 => 215 | n => n, fun | 22 => 53 | 3 => 3 | 4 => 4 | 0 => 0 | n => n, fun | n => n⟩
theorem Tryz.laysNm220 : Go.Proofs.Lays2.n20 Tryz.prog Tryz.laysNm220_ren := {
  mixed := by kernel_rfl
  f20 := Tryz.func215.trans (congrArg some (by kernel_rfl))
  t0 := Tryz.underlying0
  a0 := Tryz.isAgg0
  z0 := Tryz.sizeOf0
  v0 := Tryz.zeroValue0
  t3 := Tryz.underlying3
  a3 := Tryz.isAgg3
  z3 := Tryz.sizeOf3
  v3 := Tryz.zeroValue3
  t4 := Tryz.underlying4
  a4 := Tryz.isAgg4
  z4 := Tryz.sizeOf4
  v4 := Tryz.zeroValue4
  t22 := Tryz.underlying53
  a22 := Tryz.isAgg53
  z22 := Tryz.sizeOf53
  v22 := Tryz.zeroValue53
  i3 := by kernel_rfl }
open Go.RowKit Go.Lib Go.Sort in
theorem Tryz.slices_Compact_int (blk off cap : Nat) (zs : List Int) (w : World) (hH : Holds (Value.int .i64) w blk off zs.toArray) (hsz : zs.length ≤ 9223372036854775807) (hcap : zs.length ≤ cap) :
    Calls Tryz.prog 215 #[.slice (some ⟨blk, off, none⟩) zs.length cap] w fun e w' => e = .returned (.slice (some ⟨blk, off, none⟩) (Lib.compact zs).length cap) ∧ ∃ q, w' = putRow (Value.int .i64) (Sort.ahead w q) blk off (Lib.compact zs ++ List.replicate (zs.length - (Lib.compact zs).length) 0).toArray := Any.slices_Compact_int Tryz.laysNm220 blk off cap zs w hH hsz hcap
open Go.RowKit Go.Lib Go.Sort in
theorem Tryz.slices_Compact_int_empty (a : Option Addr) (cap : Nat) (w : World) :
    Calls Tryz.prog 215 #[.slice a 0 cap] w fun e w' => e = .returned (.slice a 0 cap) ∧ w' = w := Any.slices_Compact_int_empty Tryz.laysNm220 a cap w
open Go.RowKit Go.Sort in
theorem Tryz.slices_Sort_int_none (p : Option Addr) (cap : Nat) (w : World) :
    Calls Tryz.prog 214 #[.slice p 0 cap] w fun e w' => e = .returned (.tuple #[]) ∧ w' = w := Any.slices_Sort_int_none Tryz.lays189 p cap w
def Tryz.keysA_ren : Go.Shelf.Ren := ⟨fun | 7 => 213 | 10 => 241 | n => n, fun | 23 => 52 | 26 => 3 | 3 => 4 | 28 => 256 | 0 => 0 | 27 => 255 | 33 => 59 | 4 => 4 | n => n, fun | n => n⟩
theorem Tryz.keysA : Go.Proofs.SlLaysZI.n7 Tryz.prog Tryz.keysA_ren := {
  mixed := by kernel_rfl
  f7 := ⟨Tryz.f213.name, by decide, Tryz.func213.trans (congrArg some (by kernel_rfl))⟩
  f10 := ⟨Tryz.f241.name, by decide, Tryz.func241.trans (congrArg some (by kernel_rfl))⟩
  t0 := Tryz.underlying0
  a0 := Tryz.isAgg0
  z0 := Tryz.sizeOf0
  v0 := Tryz.zeroValue0
  t4 := Tryz.underlying4
  a4 := Tryz.isAgg4
  z4 := Tryz.sizeOf4
  v4 := Tryz.zeroValue4
  t23 := Tryz.underlying52
  a23 := Tryz.isAgg52
  z23 := Tryz.sizeOf52
  v23 := Tryz.zeroValue52
  t26 := Tryz.underlying3
  a26 := Tryz.isAgg3
  z26 := Tryz.sizeOf3
  v26 := Tryz.zeroValue3
  t27 := Tryz.underlying255
  a27 := Tryz.isAgg255
  z27 := Tryz.sizeOf255
  v27 := Tryz.zeroValue255
  t28 := Tryz.underlying256
  a28 := Tryz.isAgg256
  z28 := Tryz.sizeOf256
  v28 := Tryz.zeroValue256
  t33 := Tryz.underlying59
  a33 := Tryz.isAgg59
  z33 := Tryz.sizeOf59
  v33 := Tryz.zeroValue59 }
def Tryz.collectA_ren : Go.Shelf.Ren := ⟨fun | 8 => 212 | 11 => 240 | n => n, fun | 26 => 3 | 28 => 256 | 24 => 53 | 0 => 0 | 33 => 59 | 4 => 4 | n => n, fun | n => n⟩
theorem Tryz.collectA : Go.Proofs.SlLaysZI.n8 Tryz.prog Tryz.collectA_ren := {
  mixed := by kernel_rfl
  f8 := ⟨Tryz.f212.name, by decide, Tryz.func212.trans (congrArg some (by kernel_rfl))⟩
  f11 := ⟨Tryz.f240.name, by decide, Tryz.func240.trans (congrArg some (by kernel_rfl))⟩
  t0 := Tryz.underlying0
  a0 := Tryz.isAgg0
  z0 := Tryz.sizeOf0
  v0 := Tryz.zeroValue0
  t24 := Tryz.underlying53
  a24 := Tryz.isAgg53
  z24 := Tryz.sizeOf53
  v24 := Tryz.zeroValue53
  t26 := Tryz.underlying3
  a26 := Tryz.isAgg3
  z26 := Tryz.sizeOf3
  v26 := Tryz.zeroValue3
  t28 := Tryz.underlying256
  a28 := Tryz.isAgg256
  z28 := Tryz.sizeOf256
  v28 := Tryz.zeroValue256
  i26 := by kernel_rfl }
end Go.Proofs.YtflmjdjkfognjaaGreat
