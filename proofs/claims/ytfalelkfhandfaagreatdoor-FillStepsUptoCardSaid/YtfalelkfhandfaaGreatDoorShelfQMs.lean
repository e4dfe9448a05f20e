/- The contracts of the library's functions at this dump, as the kit's tool wrote them, those that the claim's texts name. -/
import Derived.Shelf.Strings.Builder1
import Derived.Shelf.Strings.Builder2
import Derived.Shelf.Small.Utf8
import Derived.Shelf.Small.Strs
import Derived.Shelf.Strings.BuilderF
import Derived.Shelf.Strings.BuilderK
import Derived.Shelf.Strings.Search1
import Derived.Shelf.Strings.Search2
import Derived.Shelf.Strings.Search3
import Derived.Shelf.Strings.Count
import Derived.Shelf.LaysM
import Derived.Shelf.Strings.Shaped
import Derived.Shelf.Strings.Prefix
import Derived.Shelf.Strings.Split
import Derived.Shelf.Strings.Replace
import Derived.Shelf.Strings.SplitShaped
import Derived.Shelf.Unicode.DecodeSlow
import Derived.Shelf.Unicode.DecodeAny
import Derived.Test.YtfalelkfhandfaaGreatDoorProg
import Derived.Test.YtfalelkfhandfaaGreatDoorCoreMs
import Derived.Test.YtfalelkfhandfaaGreatDoorU8Ms
import Derived.Deep.RegionWith
import Derived.Test.YtfalelkfhandfaaGreatDoorRef01Ms
namespace Go.Proofs
open Go.Shelf
def Tryz.lays119_ren : Go.Shelf.Ren := ⟨fun | 119 => 185 | n => n, fun | 21 => 21 | 4 => 4 | n => n, fun | n => n⟩
theorem Tryz.lays119 : Go.Proofs.Lays.n119 Tryz.prog Tryz.lays119_ren := {
  mixed := by kernel_rfl
  f119 := Tryz.func185.trans (congrArg some (by kernel_rfl))
  t4 := Tryz.underlying4
  a4 := Tryz.isAgg4
  z4 := Tryz.sizeOf4
  v4 := Tryz.zeroValue4
  t21 := Tryz.underlying21
  a21 := Tryz.isAgg21
  z21 := Tryz.sizeOf21
  v21 := Tryz.zeroValue21 }
theorem Tryz.utf8_ValidRune (r : Int) (w : World) :
    Calls Tryz.prog 185 #[.int .i32 r] w fun e w' => e = .returned (.bool (Lib.validRune r)) ∧ w' = w := Any.utf8_ValidRune Tryz.lays119 r w
def Tryz.lays137_ren : Go.Shelf.Ren := ⟨fun | 137 => 135 | 217 => 153 | 266 => 164 | n => n, fun | 9 => 9 | 5 => 5 | 3 => 3 | n => n, fun | n => n⟩
theorem Tryz.lays137 : Go.Proofs.Lays.n137 Tryz.prog Tryz.lays137_ren := {
  mixed := by kernel_rfl
  f137 := Tryz.func135.trans (congrArg some (by kernel_rfl))
  f217 := Tryz.func153.trans (congrArg some (by kernel_rfl))
  f266 := Tryz.func164.trans (congrArg some (by kernel_rfl))
  t3 := Tryz.underlying3
  a3 := Tryz.isAgg3
  z3 := Tryz.sizeOf3
  v3 := Tryz.zeroValue3
  t5 := Tryz.underlying5
  a5 := Tryz.isAgg5
  z5 := Tryz.sizeOf5
  v5 := Tryz.zeroValue5
  t9 := Tryz.underlying9
  a9 := Tryz.isAgg9
  z9 := Tryz.sizeOf9
  v9 := Tryz.zeroValue9 }
open Go.RowKit in
theorem Tryz.strings_IndexByte (s : ByteArray) (c : Int) (w : World) :
    Calls Tryz.prog 135 #[.string s, .int .u8 c] w fun e w' => e = .returned (.int .i64 (Lib.indexByte s.data.toList c.toNat.toUInt8)) ∧ w' = w := Any.strings_IndexByte Tryz.lays137 s c w
def Tryz.lays144_ren : Go.Shelf.Ren := ⟨fun | 144 => 105 | 143 => 125 | 219 => 144 | 217 => 153 | 225 => 160 | 224 => 161 | 267 => 162 | 266 => 164 | 314 => 173 | n => n, fun | 9 => 9 | 4 => 4 | 3 => 3 | 5 => 5 | 46 => 201 | 146 => 219 | 51 => 218 | n => n, fun | 1 => 2 | n => n⟩
theorem Tryz.lays144 : Go.Proofs.Lays.n144 Tryz.prog Tryz.lays144_ren := {
  mixed := by kernel_rfl
  f143 := Tryz.func125.trans (congrArg some (by kernel_rfl))
  f144 := Tryz.func105.trans (congrArg some (by kernel_rfl))
  f217 := Tryz.func153.trans (congrArg some (by kernel_rfl))
  f219 := Tryz.func144.trans (congrArg some (by kernel_rfl))
  f224 := Tryz.func161.trans (congrArg some (by kernel_rfl))
  f225 := Tryz.func160.trans (congrArg some (by kernel_rfl))
  f266 := Tryz.func164.trans (congrArg some (by kernel_rfl))
  f267 := Tryz.func162.trans (congrArg some (by kernel_rfl))
  f314 := Tryz.func173.trans (congrArg some (by kernel_rfl))
  t3 := Tryz.underlying3
  a3 := Tryz.isAgg3
  z3 := Tryz.sizeOf3
  v3 := Tryz.zeroValue3
  t4 := Tryz.underlying4
  a4 := Tryz.isAgg4
  z4 := Tryz.sizeOf4
  v4 := Tryz.zeroValue4
  t5 := Tryz.underlying5
  a5 := Tryz.isAgg5
  z5 := Tryz.sizeOf5
  v5 := Tryz.zeroValue5
  t9 := Tryz.underlying9
  a9 := Tryz.isAgg9
  z9 := Tryz.sizeOf9
  v9 := Tryz.zeroValue9
  t46 := Tryz.underlying201
  a46 := Tryz.isAgg201
  z46 := Tryz.sizeOf201
  v46 := Tryz.zeroValue201
  t51 := Tryz.underlying218
  a51 := Tryz.isAgg218
  z51 := Tryz.sizeOf218
  v51 := Tryz.zeroValue218
  t146 := Tryz.underlying219
  a146 := Tryz.isAgg219
  z146 := Tryz.sizeOf219
  v146 := Tryz.zeroValue219
  g1 := by kernel_rfl }
open Go.RowKit Go.Lib in
theorem Tryz.strings_Contains (s sub : ByteArray) (m : Int) (w : World) (hs : s.size < 4294967281) (hm : w.cell? ⟨2, 0, none⟩ = some (.int .i64 m)) :
    Calls Tryz.prog 105 #[.string s, .string sub] w fun e w' => e = .returned (.bool (Lib.contains s.data.toList sub.data.toList)) ∧ w' = w := Any.strings_Contains Tryz.lays144 s sub m w hs hm
def Tryz.lays99_ren : Go.Shelf.Ren := ⟨fun | 99 => 158 | 206 => 172 | n => n, fun | 9 => 9 | 4 => 4 | 3 => 3 | n => n, fun | n => n⟩
theorem Tryz.lays99 : Go.Proofs.Lays.n99 Tryz.prog Tryz.lays99_ren := {
  mixed := by kernel_rfl
  f99 := Tryz.func158.trans (congrArg some (by kernel_rfl))
  f206 := Tryz.func172.trans (congrArg some (by kernel_rfl))
  t3 := Tryz.underlying3
  a3 := Tryz.isAgg3
  z3 := Tryz.sizeOf3
  v3 := Tryz.zeroValue3
  t4 := Tryz.underlying4
  a4 := Tryz.isAgg4
  z4 := Tryz.sizeOf4
  v4 := Tryz.zeroValue4
  t9 := Tryz.underlying9
  a9 := Tryz.isAgg9
  z9 := Tryz.sizeOf9
  v9 := Tryz.zeroValue9 }
open Go.RowKit Go.Lib in
theorem Tryz.strings_HasPrefix (s p : ByteArray) (w : World) :
    Calls Tryz.prog 158 #[.string s, .string p] w fun e w' => e = .returned (.bool (Lib.hasPrefix s.data.toList p.data.toList)) ∧ w' = w := Any.strings_HasPrefix Tryz.lays99 s p w
def Tryz.lays100_ren : Go.Shelf.Ren := ⟨fun | 100 => 123 | 207 => 141 | n => n, fun | 9 => 9 | 4 => 4 | 3 => 3 | n => n, fun | n => n⟩
theorem Tryz.lays100 : Go.Proofs.Lays.n100 Tryz.prog Tryz.lays100_ren := {
  mixed := by kernel_rfl
  f100 := Tryz.func123.trans (congrArg some (by kernel_rfl))
  f207 := Tryz.func141.trans (congrArg some (by kernel_rfl))
  t3 := Tryz.underlying3
  a3 := Tryz.isAgg3
  z3 := Tryz.sizeOf3
  v3 := Tryz.zeroValue3
  t4 := Tryz.underlying4
  a4 := Tryz.isAgg4
  z4 := Tryz.sizeOf4
  v4 := Tryz.zeroValue4
  t9 := Tryz.underlying9
  a9 := Tryz.isAgg9
  z9 := Tryz.sizeOf9
  v9 := Tryz.zeroValue9 }
open Go.RowKit Go.Lib in
theorem Tryz.strings_HasSuffix (s p : ByteArray) (w : World) (hs : s.size ≤ 9223372036854775807) :
    Calls Tryz.prog 123 #[.string s, .string p] w fun e w' => e = .returned (.bool (Lib.hasSuffix s.data.toList p.data.toList)) ∧ w' = w := Any.strings_HasSuffix Tryz.lays100 s p w hs
def Tryz.lays101_ren : Go.Shelf.Ren := ⟨fun | 101 => 157 | 208 => 171 | 206 => 172 | n => n, fun | 9 => 9 | 4 => 4 | 3 => 3 | n => n, fun | n => n⟩
theorem Tryz.lays101 : Go.Proofs.Lays.n101 Tryz.prog Tryz.lays101_ren := {
  mixed := by kernel_rfl
  f101 := Tryz.func157.trans (congrArg some (by kernel_rfl))
  f206 := Tryz.func172.trans (congrArg some (by kernel_rfl))
  f208 := Tryz.func171.trans (congrArg some (by kernel_rfl))
  t3 := Tryz.underlying3
  a3 := Tryz.isAgg3
  z3 := Tryz.sizeOf3
  v3 := Tryz.zeroValue3
  t4 := Tryz.underlying4
  a4 := Tryz.isAgg4
  z4 := Tryz.sizeOf4
  v4 := Tryz.zeroValue4
  t9 := Tryz.underlying9
  a9 := Tryz.isAgg9
  z9 := Tryz.sizeOf9
  v9 := Tryz.zeroValue9 }
open Go.RowKit Go.Lib in
theorem Tryz.strings_TrimPrefix (s p : ByteArray) (w : World) :
    Calls Tryz.prog 157 #[.string s, .string p] w fun e w' => e = .returned (.string ⟨(Lib.trimPrefix s.data.toList p.data.toList).toArray⟩) ∧ w' = w := Any.strings_TrimPrefix Tryz.lays101 s p w
def Tryz.lays155_ren : Go.Shelf.Ren := ⟨fun | 155 => 136 | 154 => 154 | 138 => 165 | 165 => 166 | 143 => 125 | 166 => 167 | 197 => 120 | 169 => 168 | 195 => 176 | 218 => 177 | 240 => 178 | 241 => 179 | 219 => 144 | 260 => 134 | 276 => 183 | 277 => 184 | 217 => 153 | 225 => 160 | 224 => 161 | 267 => 162 | 266 => 164 | 314 => 173 | n => n, fun | 9 => 9 | 3 => 3 | 4 => 4 | 72 => 209 | 0 => 0 | 76 => 213 | 105 => 153 | 21 => 21 | 5 => 5 | 70 => 207 | 20 => 20 | 37 => 145 | 75 => 212 | 127 => 223 | 164 => 227 | 46 => 201 | 119 => 200 | 139 => 204 | 138 => 203 | 146 => 219 | 51 => 218 | 80 => 215 | n => n, fun | 1 => 2 | 3 => 0 | 4 => 1 | n => n⟩
theorem Tryz.lays155 : Go.Proofs.Lays.n155 Tryz.prog Tryz.lays155_ren := {
  mixed := by kernel_rfl
  f138 := Tryz.func165.trans (congrArg some (by kernel_rfl))
  f143 := Tryz.func125.trans (congrArg some (by kernel_rfl))
  f154 := Tryz.func154.trans (congrArg some (by kernel_rfl))
  f155 := Tryz.func136.trans (congrArg some (by kernel_rfl))
  f165 := Tryz.func166.trans (congrArg some (by kernel_rfl))
  f166 := Tryz.func167.trans (congrArg some (by kernel_rfl))
  f169 := Tryz.func168.trans (congrArg some (by kernel_rfl))
  f195 := Tryz.func176.trans (congrArg some (by kernel_rfl))
  f197 := Tryz.func120.trans (congrArg some (by kernel_rfl))
  f217 := Tryz.func153.trans (congrArg some (by kernel_rfl))
  f218 := Tryz.func177.trans (congrArg some (by kernel_rfl))
  f219 := Tryz.func144.trans (congrArg some (by kernel_rfl))
  f224 := Tryz.func161.trans (congrArg some (by kernel_rfl))
  f225 := Tryz.func160.trans (congrArg some (by kernel_rfl))
  f240 := Tryz.func178.trans (congrArg some (by kernel_rfl))
  f241 := Tryz.func179.trans (congrArg some (by kernel_rfl))
  f260 := Tryz.func134.trans (congrArg some (by kernel_rfl))
  f266 := Tryz.func164.trans (congrArg some (by kernel_rfl))
  f267 := Tryz.func162.trans (congrArg some (by kernel_rfl))
  f276 := Tryz.func183.trans (congrArg some (by kernel_rfl))
  f277 := Tryz.func184.trans (congrArg some (by kernel_rfl))
  f314 := Tryz.func173.trans (congrArg some (by kernel_rfl))
  t0 := Tryz.underlying0
  a0 := Tryz.isAgg0
  z0 := Tryz.sizeOf0
  v0 := Tryz.zeroValue0
  t3 := Tryz.underlying3
  a3 := Tryz.isAgg3
  z3 := Tryz.sizeOf3
  v3 := Tryz.zeroValue3
  t4 := Tryz.underlying4
  a4 := Tryz.isAgg4
  z4 := Tryz.sizeOf4
  v4 := Tryz.zeroValue4
  t5 := Tryz.underlying5
  a5 := Tryz.isAgg5
  z5 := Tryz.sizeOf5
  v5 := Tryz.zeroValue5
  t9 := Tryz.underlying9
  a9 := Tryz.isAgg9
  z9 := Tryz.sizeOf9
  v9 := Tryz.zeroValue9
  t20 := Tryz.underlying20
  a20 := Tryz.isAgg20
  z20 := Tryz.sizeOf20
  v20 := Tryz.zeroValue20
  t21 := Tryz.underlying21
  a21 := Tryz.isAgg21
  z21 := Tryz.sizeOf21
  v21 := Tryz.zeroValue21
  t37 := Tryz.underlying145
  a37 := Tryz.isAgg145
  z37 := Tryz.sizeOf145
  v37 := Tryz.zeroValue145
  t46 := Tryz.underlying201
  a46 := Tryz.isAgg201
  z46 := Tryz.sizeOf201
  v46 := Tryz.zeroValue201
  t51 := Tryz.underlying218
  a51 := Tryz.isAgg218
  z51 := Tryz.sizeOf218
  v51 := Tryz.zeroValue218
  t70 := Tryz.underlying207
  a70 := Tryz.isAgg207
  z70 := Tryz.sizeOf207
  v70 := Tryz.zeroValue207
  t72 := Tryz.underlying209
  a72 := Tryz.isAgg209
  z72 := Tryz.sizeOf209
  v72 := Tryz.zeroValue209
  t75 := Tryz.underlying212
  a75 := Tryz.isAgg212
  z75 := Tryz.sizeOf212
  v75 := Tryz.zeroValue212
  t76 := Tryz.underlying213
  a76 := Tryz.isAgg213
  z76 := Tryz.sizeOf213
  v76 := Tryz.zeroValue213
  t105 := Tryz.underlying153
  a105 := Tryz.isAgg153
  z105 := Tryz.sizeOf153
  v105 := Tryz.zeroValue153
  t119 := Tryz.underlying200
  a119 := Tryz.isAgg200
  z119 := Tryz.sizeOf200
  t127 := Tryz.underlying223
  a127 := Tryz.isAgg223
  z127 := Tryz.sizeOf223
  v127 := Tryz.zeroValue223
  t138 := Tryz.underlying203
  a138 := Tryz.isAgg203
  z138 := Tryz.sizeOf203
  v138 := Tryz.zeroValue203
  t139 := Tryz.underlying204
  a139 := Tryz.isAgg204
  z139 := Tryz.sizeOf204
  v139 := Tryz.zeroValue204
  t146 := Tryz.underlying219
  a146 := Tryz.isAgg219
  z146 := Tryz.sizeOf219
  v146 := Tryz.zeroValue219
  t164 := Tryz.underlying227
  a164 := Tryz.isAgg227
  z164 := Tryz.sizeOf227
  v164 := Tryz.zeroValue227
  g1 := by kernel_rfl
  g3 := by kernel_rfl
  g4 := by kernel_rfl }
theorem Tryz.Builder_Extra_155 : Builder.Extra Tryz.prog Tryz.lays155_ren := {
  sizeBuilder := by kernel_rfl
  liesBuilder := by kernel_rfl
  t5 := Tryz.underlying5
  a5 := Tryz.isAgg5
  z5 := Tryz.sizeOf5
  v5 := Tryz.zeroValue5
  infoByte := by kernel_rfl
  cellsByte := by kernel_rfl
  sizeByte := by kernel_rfl
  neB5 := by decide }
open Go.RowKit Go.Lib in
theorem Tryz.strings_ReplaceAll (s old new : ByteArray) (m : Int) (w : World) (hs : s.size < 4294967281) (hm : w.cell? ⟨2, 0, none⟩ = some (.int .i64 m)) (h1 : 1 ≤ old.size) (hlen : s.size + Lib.countB s old * new.size ≤ 140737488355328) :
    Calls Tryz.prog 136 #[.string s, .string old, .string new] w fun e w' =>
      e = .returned (.string ⟨(Lib.replaceAll s.data.toList old.data.toList new.data.toList).toArray⟩) ∧ Below w.heap.size w w' := Any.strings_ReplaceAll Tryz.lays155 Tryz.Builder_Extra_155 s old new m w hs hm h1 hlen
def Tryz.laysM155_ren : Go.Shelf.Ren := ⟨fun | 155 => 136 | 154 => 154 | 138 => 165 | 165 => 166 | 143 => 125 | 166 => 167 | 197 => 120 | 169 => 168 | 195 => 176 | 218 => 177 | 240 => 178 | 241 => 179 | 219 => 144 | 260 => 134 | 276 => 183 | 277 => 184 | 217 => 153 | 225 => 160 | 224 => 161 | 267 => 162 | 266 => 164 | 314 => 173 | n => n, fun | 9 => 9 | 3 => 3 | 4 => 4 | 72 => 209 | 0 => 0 | 76 => 213 | 105 => 153 | 21 => 21 | 5 => 5 | 70 => 207 | 20 => 20 | 37 => 145 | 75 => 212 | 127 => 223 | 164 => 227 | 46 => 201 | 119 => 200 | 139 => 204 | 138 => 203 | 146 => 219 | 51 => 218 | 80 => 215 | n => n, fun | 1 => 2 | 3 => 0 | 4 => 1 | n => n⟩
theorem Tryz.laysM155 : Go.Proofs.LaysM.n155 Tryz.prog Tryz.laysM155_ren := {
  mixed := by kernel_rfl
  f138 := Tryz.func165.trans (congrArg some (by kernel_rfl))
  f143 := Tryz.func125.trans (congrArg some (by kernel_rfl))
  f154 := Tryz.func154.trans (congrArg some (by kernel_rfl))
  f155 := Tryz.func136.trans (congrArg some (by kernel_rfl))
  f165 := Tryz.func166.trans (congrArg some (by kernel_rfl))
  f166 := Tryz.func167.trans (congrArg some (by kernel_rfl))
  f169 := Tryz.func168.trans (congrArg some (by kernel_rfl))
  f195 := Tryz.func176.trans (congrArg some (by kernel_rfl))
  f197 := Tryz.func120.trans (congrArg some (by kernel_rfl))
  f217 := Tryz.func153.trans (congrArg some (by kernel_rfl))
  f218 := Tryz.func177.trans (congrArg some (by kernel_rfl))
  f219 := Tryz.func144.trans (congrArg some (by kernel_rfl))
  f224 := Tryz.func161.trans (congrArg some (by kernel_rfl))
  f225 := Tryz.func160.trans (congrArg some (by kernel_rfl))
  f240 := Tryz.func178.trans (congrArg some (by kernel_rfl))
  f241 := Tryz.func179.trans (congrArg some (by kernel_rfl))
  f260 := Tryz.func134.trans (congrArg some (by kernel_rfl))
  f266 := Tryz.func164.trans (congrArg some (by kernel_rfl))
  f267 := Tryz.func162.trans (congrArg some (by kernel_rfl))
  f276 := Tryz.func183.trans (congrArg some (by kernel_rfl))
  f277 := Tryz.func184.trans (congrArg some (by kernel_rfl))
  f314 := Tryz.func173.trans (congrArg some (by kernel_rfl))
  t0 := Tryz.underlying0
  a0 := Tryz.isAgg0
  z0 := Tryz.sizeOf0
  v0 := Tryz.zeroValue0
  t3 := Tryz.underlying3
  a3 := Tryz.isAgg3
  z3 := Tryz.sizeOf3
  v3 := Tryz.zeroValue3
  t4 := Tryz.underlying4
  a4 := Tryz.isAgg4
  z4 := Tryz.sizeOf4
  v4 := Tryz.zeroValue4
  t5 := Tryz.underlying5
  a5 := Tryz.isAgg5
  z5 := Tryz.sizeOf5
  v5 := Tryz.zeroValue5
  t9 := Tryz.underlying9
  a9 := Tryz.isAgg9
  z9 := Tryz.sizeOf9
  v9 := Tryz.zeroValue9
  t20 := Tryz.underlying20
  a20 := Tryz.isAgg20
  z20 := Tryz.sizeOf20
  v20 := Tryz.zeroValue20
  t21 := Tryz.underlying21
  a21 := Tryz.isAgg21
  z21 := Tryz.sizeOf21
  v21 := Tryz.zeroValue21
  t37 := Tryz.underlying145
  a37 := Tryz.isAgg145
  z37 := Tryz.sizeOf145
  v37 := Tryz.zeroValue145
  t46 := Tryz.underlying201
  a46 := Tryz.isAgg201
  z46 := Tryz.sizeOf201
  v46 := Tryz.zeroValue201
  t51 := Tryz.underlying218
  a51 := Tryz.isAgg218
  z51 := Tryz.sizeOf218
  v51 := Tryz.zeroValue218
  t70 := Tryz.underlying207
  a70 := Tryz.isAgg207
  z70 := Tryz.sizeOf207
  v70 := Tryz.zeroValue207
  t72 := Tryz.underlying209
  a72 := Tryz.isAgg209
  z72 := Tryz.sizeOf209
  v72 := Tryz.zeroValue209
  t75 := Tryz.underlying212
  a75 := Tryz.isAgg212
  z75 := Tryz.sizeOf212
  v75 := Tryz.zeroValue212
  t76 := Tryz.underlying213
  a76 := Tryz.isAgg213
  z76 := Tryz.sizeOf213
  v76 := Tryz.zeroValue213
  t105 := Tryz.underlying153
  a105 := Tryz.isAgg153
  z105 := Tryz.sizeOf153
  v105 := Tryz.zeroValue153
  t119 := Tryz.underlying200
  a119 := Tryz.isAgg200
  z119 := Tryz.sizeOf200
  t127 := Tryz.underlying223
  a127 := Tryz.isAgg223
  z127 := Tryz.sizeOf223
  v127 := Tryz.zeroValue223
  t138 := Tryz.underlying203
  a138 := Tryz.isAgg203
  z138 := Tryz.sizeOf203
  v138 := Tryz.zeroValue203
  t139 := Tryz.underlying204
  a139 := Tryz.isAgg204
  z139 := Tryz.sizeOf204
  v139 := Tryz.zeroValue204
  t146 := Tryz.underlying219
  a146 := Tryz.isAgg219
  z146 := Tryz.sizeOf219
  v146 := Tryz.zeroValue219
  t164 := Tryz.underlying227
  a164 := Tryz.isAgg227
  z164 := Tryz.sizeOf227
  v164 := Tryz.zeroValue227
  g1 := by kernel_rfl
  g3 := by kernel_rfl
  g4 := by kernel_rfl
  t80 := Tryz.underlying215
  a80 := Tryz.isAgg215
  z80 := Tryz.sizeOf215
  v80 := Tryz.zeroValue215
  i0 := by kernel_rfl
  i3 := by kernel_rfl
  i4 := by kernel_rfl
  i5 := by kernel_rfl
  i9 := by kernel_rfl
  i20 := by kernel_rfl
  i21 := by kernel_rfl
  i37 := by kernel_rfl
  i46 := by kernel_rfl
  i51 := by kernel_rfl
  i70 := by kernel_rfl
  i72 := by kernel_rfl
  i75 := by kernel_rfl
  i76 := by kernel_rfl
  i80 := by kernel_rfl
  i105 := by kernel_rfl
  i127 := by kernel_rfl
  i138 := by kernel_rfl
  i139 := by kernel_rfl
  i146 := by kernel_rfl
  i164 := by kernel_rfl
  m1 := by kernel_rfl
  s1_3 := fun w h => Go.Proofs.cell_of_shapedOpen_int (zero := #[.int .i64 0]) (t := 3) h (of_decide_eq_true (by kernel_rfl)) (by kernel_rfl) rfl (by kernel_rfl) (by kernel_rfl) Tryz.underlying3
  m3 := by kernel_rfl
  m4 := by kernel_rfl }
def Tryz.lays197_ren : Go.Shelf.Ren := ⟨fun | 197 => 120 | 260 => 134 | n => n, fun | 9 => 9 | 21 => 21 | 3 => 3 | 4 => 4 | 5 => 5 | 105 => 153 | 119 => 200 | 0 => 0 | 46 => 201 | 139 => 204 | 138 => 203 | n => n, fun | 3 => 0 | 4 => 1 | n => n⟩
theorem Tryz.lays197 : Go.Proofs.Lays.n197 Tryz.prog Tryz.lays197_ren := {
  mixed := by kernel_rfl
  f197 := Tryz.func120.trans (congrArg some (by kernel_rfl))
  f260 := Tryz.func134.trans (congrArg some (by kernel_rfl))
  t0 := Tryz.underlying0
  a0 := Tryz.isAgg0
  z0 := Tryz.sizeOf0
  v0 := Tryz.zeroValue0
  t3 := Tryz.underlying3
  a3 := Tryz.isAgg3
  z3 := Tryz.sizeOf3
  v3 := Tryz.zeroValue3
  t4 := Tryz.underlying4
  a4 := Tryz.isAgg4
  z4 := Tryz.sizeOf4
  v4 := Tryz.zeroValue4
  t5 := Tryz.underlying5
  a5 := Tryz.isAgg5
  z5 := Tryz.sizeOf5
  v5 := Tryz.zeroValue5
  t9 := Tryz.underlying9
  a9 := Tryz.isAgg9
  z9 := Tryz.sizeOf9
  v9 := Tryz.zeroValue9
  t21 := Tryz.underlying21
  a21 := Tryz.isAgg21
  z21 := Tryz.sizeOf21
  v21 := Tryz.zeroValue21
  t46 := Tryz.underlying201
  a46 := Tryz.isAgg201
  z46 := Tryz.sizeOf201
  v46 := Tryz.zeroValue201
  t105 := Tryz.underlying153
  a105 := Tryz.isAgg153
  z105 := Tryz.sizeOf153
  v105 := Tryz.zeroValue153
  t119 := Tryz.underlying200
  a119 := Tryz.isAgg200
  z119 := Tryz.sizeOf200
  t138 := Tryz.underlying203
  a138 := Tryz.isAgg203
  z138 := Tryz.sizeOf203
  v138 := Tryz.zeroValue203
  t139 := Tryz.underlying204
  a139 := Tryz.isAgg204
  z139 := Tryz.sizeOf204
  v139 := Tryz.zeroValue204
  g3 := by kernel_rfl
  g4 := by kernel_rfl }
open Go.RowKit Go.Lib in
theorem Tryz.utf8_DecodeRuneInString (s : ByteArray) (w : World) (hT : Lib.Utf8Tabs 0 1 w) :
    Calls Tryz.prog 120 #[.string s] w fun e w' => e = .returned (.tuple #[.int .i32 (Lib.decodeGo s).1, .int .i64 (Lib.decodeGo s).2]) ∧ Below w.heap.size w w' := Any.utf8_DecodeRuneInString Tryz.lays197 s w hT
end Go.Proofs
namespace Go.Proofs.YtfalelkfhandfaaGreatDoor
open Go.RowKit

def Tabs (w:World):Prop:=Lib.Utf8Tabs 0 1 w∧0<w.heap.size∧1<w.heap.size
theorem Tabs.below {w w':World} (h:Tabs w) (hb:Below w.heap.size w w'):Tabs w':=by
 obtain ⟨⟨h1,h2⟩,h3,h4⟩:=h
 refine ⟨⟨fun c hc=>?_,fun i hi=>⟨?_,?_⟩⟩,Nat.lt_of_lt_of_le h3 hb.size,Nat.lt_of_lt_of_le h4 hb.size⟩
 ·rw [hb.cell (p:=⟨_,c,none⟩) h3];exact h1 c hc
 ·rw [hb.cell (p:=⟨_,2*i,none⟩) h4];exact (h2 i hi).1
 ·rw [hb.cell (p:=⟨_,2*i+1,none⟩) h4];exact (h2 i hi).2
theorem Tabs.drew {w:World} (h:Tabs w):Tabs w.drew:=h

theorem zIm (s:ByteArray) (i:Nat):Utf8.decode (s.extract i s.size) 0=Utf8.decode s i:=by
 rw [Lib.decode_at,Lib.decode_at]
 have hz:(s.extract i s.size).size=s.size-i:=by simp
 have g:∀ k,(s.extract i s.size).get! k=s.get! (i+k):=fun k=>by
  by_cases h:i+k<s.size
  ·exact get!_extract s i s.size k h (Nat.le_refl _)
  ·rw [get!_ge _ _ (by rw [hz];omega),get!_ge _ _ (by omega)]
 simp only [g,hz,Nat.zero_add,Nat.add_zero,Nat.sub_zero]

theorem zAx (s:ByteArray) (at':Int) (w:World) (hT:Tabs w) :
  Calls Tryz.prog 100 #[.string s,.int .i64 at'] w fun e w'=>e=.returned (.tuple #[.int .i32 (rdI s at').1,.int .i64 (rdI s at').2])∧Below w.heap.size w w':=by
 by_cases hi:0≤at'∧at'<s.size
 ·obtain ⟨i,rfl⟩:=Int.eq_ofNat_of_zero_le hi.1
  have hi2:i<s.size:=by omega
  clear hi
  have C:∀ w,Tabs w→_:=fun w hT=>Tryz.utf8_DecodeRuneInString (s.extract i s.size) w hT.1
  have hd:Lib.decodeGo (s.extract i s.size)=Utf8.decode s i:=by
   unfold Lib.decodeGo
   rw [if_neg (by simp;omega),zIm]
  rw [hd] at C
  have C':=Hd C
  have hr:=zBc hi2
  rw [← xC] at hr
  clear C hd
  generalize Utf8.decode s i=d at *
  obtain ⟨d1,d2⟩:=d
  have HR:=Hd hr
  clear hr
  go_enter Tryz.func100,Tryz.ntmps100
  go_wp2_with (go_at_call 120;refine (C'.out _ hT).mono ?_;rintro e w' ⟨rfl,hb'⟩)
  all_goals go_ret2
  all_goals (refine ⟨vJ ?_ ?_,hb'⟩ <;> (have hr:=HR.out;rw [hr];clear HR;split <;> first | rfl | omega))
 ·have HR:=Hd (show rdI s at'=(0,0) by
   by_cases h:at'<0
   ·exact zSk h
   ·obtain ⟨i,rfl⟩:=Int.eq_ofNat_of_zero_le (by omega:0≤at')
    rw [xC,zZc (by omega)])
  by_cases hn:at'<0
  ·clear hi
   go_enter Tryz.func100,Tryz.ntmps100
   go_wp2_with fail
   go_ret2
   exact ⟨vJ (by rw [HR.out];rfl) (by rw [HR.out];rfl),Below.refl _ _⟩
  ·have hge:s.size≤at':=by omega
   clear hi
   go_enter Tryz.func100,Tryz.ntmps100
   go_wp2_with fail
   go_ret2
   exact ⟨vJ (by rw [HR.out];rfl) (by rw [HR.out];rfl),Below.refl _ _⟩

theorem zRf (r:Int) (w:World) :
  Calls Tryz.prog 180 #[.int .i32 r] w fun e w'=>e=.returned (.string (form r))∧w=w':=by
 have C:∀ w,_:=fun w=>Tryz.utf8_ValidRune r w
 rw [zJa] at C
 cases hm:may r
 ·rw [hm] at C
  have C':=Hd C
  have HF:=Hd (zEs hm)
  clear C hm
  go_enter Tryz.func180,Tryz.ntmps180
  go_wp2_with (go_at_call 185;refine (C'.out _).mono ?_;rintro e w' ⟨rfl,rfl⟩)
  go_ret
  exact ⟨zBv (by rw [HF.out];rfl),rfl⟩
 ·rw [hm] at C
  have C':=Hd C
  have HF:=Hd (zPn hm)
  clear C hm
  go_enter Tryz.func180,Tryz.ntmps180
  go_wp2_with (go_at_call 185;refine (C'.out _).mono ?_;rintro e w' ⟨rfl,rfl⟩)
  go_ret
  exact ⟨zBv (by rw [HF.out]),rfl⟩

set_option maxHeartbeats 1000000 in
theorem zUp (s:ByteArray) (w:World) (hT:Tabs w) :
  Calls Tryz.prog 79 #[.string s] w fun e w'=>e=.returned (.int .i64 (bad s))∧Below w.heap.size w w':=by
 go_enter Tryz.func79,Tryz.ntmps79
 go_wp2_with fail
 go_loopw [] (fun wr=>∃ pos,wr.heap[w.heap.size]?=some (.stringIter s pos)∧pos≤s.size∧bad s=badZ (scan s pos).2∧Below w.heap.size w wr) (fun wr=>iterLeft w.heap.size wr)
 case atStart=>exact ⟨0,World.iter_heap _ _ _,Nat.zero_le _,by unfold bad;rfl,(Below.refl _ _).alloc (Nat.le_refl _) _⟩
 case round =>
  obtain ⟨pos,hk,hpos,hbad,hb⟩:=hrel
  have HB:=Hd hbad
  have HK:=Hd hk
  have HT:=Hd (hT.below hb)
  have hz:=zP hk
  clear hbad
  by_cases hp:pos<s.size
  ·have hn:=fun ty=>Lib.run_next_any_at (P:=Tryz.prog) wr w.heap.size s pos ty hk hp
   have hb2:Below w.heap.size w (wr.iterAt w.heap.size s (pos+(Utf8.decode s pos).2)):=Lib.below_iterAt hb (Nat.le_refl _) _ _
   have hk2:=Lib.iterAt_heap wr w.heap.size s pos (pos+(Utf8.decode s pos).2) hk
   have hT2:=hT.below hb2
   generalize hW:wr.iterAt w.heap.size s (pos+(Utf8.decode s pos).2)=W at *
   clear hk hW
   rcases zDu s pos hp with ⟨h1,h2⟩ | ⟨h1,h2,h3,h4,h5,h6⟩
   ·rw [h2] at hn
    simp only [] at hn
    have C:=fun w hT=>zAx s pos w hT
    rw [xC,h1] at C
    have C':=Hd C
    have HR:=Hd (zDv hp (by rw [h1]))
    clear h1 h2 C
    go_wp2_with (go_at_call 100;refine (C'.out _ hT2).mono ?_;rintro e w' ⟨rfl,hb'⟩)
    go_ret
    exact ⟨zAn (by rw [HB.out,HR.out];rfl),hb2.trans (hb'.mono hb2.size)⟩
   ·have HR:=Hd (gV hp (by omega))
    rw [h6] at hn hk2
    have C:=fun w hT=>zAx s pos w hT
    rw [xC] at C
    generalize rd s pos=d at *
    obtain ⟨d1,d2⟩:=d
    simp only [] at *
    have C':=Hd C
    have h8:((d2:Int) == 0)=false:=by simp;omega
    have hp2:=Hd h3
    clear C h4 h5 h6 h3
    by_cases h9:d1=65533
    ·subst h9
     go_wp2_with (go_at_call 100;refine (C'.out _ hT2).mono ?_;rintro e w' ⟨rfl,hb'⟩)
     have hb3:=hb2.trans (hb'.mono hb2.size)
     have hk3:=keeps hb' hk2
     go_roundw
     case rel=>exact ⟨pos+d2,hk3,hp2.out,by rw [HB.out,HR.out],hb3⟩
     case measure=>rw [vY hk3,vY HK.out];have:=hp2.out;omega
    ·have h10:((d1:Int) != 65533)=true:=by rw [bne_iff_ne];omega
     have H9:=Hd h9
     clear h9
     go_wp2_with fail
     go_roundw
     case rel=>exact ⟨pos+d2,hk2,hp2.out,by rw [HB.out,HR.out],hb2⟩
     case measure=>rw [vY hk2,vY HK.out];have:=hp2.out;omega
  ·have hn:=fun ty=>Lib.run_next_end_at (P:=Tryz.prog) wr w.heap.size s pos ty hk hp
   have HR:=Hd (zAi (s:=s) (i:=pos) (by omega))
   clear hk
   go_wp2_with fail
   go_ret
   exact ⟨zAn (by rw [HB.out,HR.out];rfl),hb⟩

theorem zPf:(Tryz.prog.info? 2).map (fun i=>(i.zero,i.size,i.bytes))=some (some (.int .i64 0),1,8):=by kernel_rfl
def longVals (l:List Nat):List Value:=l.map fun (x:Nat)=>Value.int .i64 (x:Int)

theorem zPg {s:ByteArray} {i:Nat} (h:i<s.size) (hn:(scan s i).2=none):rd s i≠(0,0):=by
 intro h0
 rw [zDv h (by rw [h0])] at hn
 cases hn
end Go.Proofs.YtfalelkfhandfaaGreatDoor
namespace Go.Proofs.YtfalelkfhandfaaGreatDoor
open Go.RowKit

theorem zWu (s:ByteArray) (i:Nat) (h:i<s.size):i+(rd s i).2≤s.size:=by
 have:=zAh s i;omega
set_option maxHeartbeats 1000000 in
theorem zOf (s:ByteArray) (w:World) (hs:s.size≤1099511627775) (hbad:0≤bad s) :
  Calls Tryz.prog 88 #[.string s] w fun e w'=>e=.returned (.tuple #[.slice none 0 0,.bool false])∧Below w.heap.size w w':=by
 have HX:=Hd (show (scan s 0).2≠none from fun h=>by have:=(zGe s).2 h;omega)
 have HL:=Hd (zBs s 0)
 go_enter Tryz.func88,Tryz.ntmps88
 go_wp2_with fail
 go_loopw [4,5] (fun v a wr=>∃ pos:Nat,a=.int .i64 pos∧pos≤s.size∧∃ l:List Nat,l++(scan s pos).1=(scan s 0).1∧(scan s pos).2=(scan s 0).2∧Below w.heap.size w wr∧wr.ownsRow w.heap.size 2 1 v l.length (longVals l)) (fun _ a _=>s.size-(intOf a).toNat)
 case atStart=>exact ⟨0,rfl,Nat.zero_le _,[],rfl,rfl,Below.refl _ _,World.ownsRow_nil _ _ _ _⟩
 case round =>
  obtain ⟨pos,rfl,hpos,l,hl,hnn,hb,hown⟩:=hrel
  have HN:=Hd hnn
  have HLL:=Hd hl
  have hll:l.length≤1099511627775:=by
   have h1:=HL.out;have h2:=congrArg List.length hl;rw [List.length_append] at h2;omega
  clear hl hnn
  by_cases hp:pos<s.size
  ·have C:=fun w=>zHu s pos w (by omega)
   rw [xC] at C
   by_cases h0:(rd s pos).2=0
   ·have h1:(((rd s pos).2:Int) == 0)=true:=by simp [h0]
    generalize rd s pos=d at *
    obtain ⟨d1,d2⟩:=d
    have C':=Hd C
    clear C h0
    go_wp2_with (go_at_call 107;refine (C'.out _).mono ?_;rintro e w' ⟨rfl,hb'⟩)
    go_ret2
    exact ⟨rfl,hb.trans (hb'.mono hb.size)⟩
   ·have HR:=Hd (gV hp h0)
    have hb2:=zWu s pos hp
    have h1:(((rd s pos).2:Int) == 0)=false:=by simp [h0]
    have h2:0<(rd s pos).2:=by omega
    generalize rd s pos=d at *
    obtain ⟨d1,d2⟩:=d
    have C':=Hd C
    clear C h0
    simp only [] at *
    go_wp2_with fail
    refine (C'.out _).mono ?_
    rintro e w' ⟨rfl,hb'⟩
    have hown2:=zS hown hb'
    have hb3:=hb.trans (hb'.mono hb.size)
    clear hown hb'
    go_wp2_with (at_builtin;refine yR w' #[.int .i64 (d1:Int)] _ rfl _ _ 134 2 rfl Tryz.underlying134 w.heap.size zPf rfl (by decide) _ _ _ rfl hown2 1 1 rfl rfl (by decide) ?_ ?_ ?_ ?_ ?_)
    ·rfl
    ·omega
    ·omega
    ·exact hb3.size
    ·intro v' w' hown3 hgr _
     have hb4:=vZ hb3 hb3.size hown2 hgr
     clear hown2 hgr hb3
     go_wp2_with fail
     go_roundw
     case rel=>exact ⟨pos+d2,by go_num,hb2,l++[d1],by rw [← HLL.out,HR.out];simp,by rw [← HN.out,HR.out],hb4,by simpa [longVals] using hown3⟩
     case measure=>simp [intOf];omega
  ·exfalso
   exact HX.out (by rw [← HN.out,zAi (by omega)])
set_option maxHeartbeats 1000000 in
theorem zZx (s:ByteArray) (w:World) (hs:s.size≤1099511627775) (hbad:bad s<0) :
  Calls Tryz.prog 88 #[.string s] w fun e w'=>∃ v,e=.returned (.tuple #[v,.bool true])∧Below w.heap.size w w'∧w'.ownsRow w.heap.size 2 1 v (chars s).length (longVals (chars s)):=by
 have HX:=Hd ((zGe s).1 hbad)
 have HL:=Hd (zBs s 0)
 have HC:=Hd (show chars s=(scan s 0).1 by unfold chars;rfl)
 go_enter Tryz.func88,Tryz.ntmps88
 go_wp2_with fail
 go_loopw [4,5] (fun v a wr=>∃ pos:Nat,a=.int .i64 pos∧pos≤s.size∧∃ l:List Nat,l++(scan s pos).1=(scan s 0).1∧(scan s pos).2=(scan s 0).2∧Below w.heap.size w wr∧wr.ownsRow w.heap.size 2 1 v l.length (longVals l)) (fun _ a _=>s.size-(intOf a).toNat)
 case atStart=>exact ⟨0,rfl,Nat.zero_le _,[],rfl,rfl,Below.refl _ _,World.ownsRow_nil _ _ _ _⟩
 case round =>
  obtain ⟨pos,rfl,hpos,l,hl,hnn,hb,hown⟩:=hrel
  have HN:=Hd hnn
  have HLL:=Hd hl
  have hll:l.length≤1099511627775:=by
   have h1:=HL.out;have h2:=congrArg List.length hl;rw [List.length_append] at h2;omega
  clear hl hnn
  by_cases hp:pos<s.size
  ·have C:=fun w=>zHu s pos w (by omega)
   rw [xC] at C
   by_cases h0:(rd s pos).2=0
   ·exfalso
    have h1:=HN.out
    rw [zDv hp h0,HX.out] at h1
    cases h1
   ·have HR:=Hd (gV hp h0)
    have hb2:=zWu s pos hp
    have h1:(((rd s pos).2:Int) == 0)=false:=by simp [h0]
    have h2:0<(rd s pos).2:=by omega
    generalize rd s pos=d at *
    obtain ⟨d1,d2⟩:=d
    have C':=Hd C
    clear C h0
    simp only [] at *
    go_wp2_with fail
    refine (C'.out _).mono ?_
    rintro e w' ⟨rfl,hb'⟩
    have hown2:=zS hown hb'
    have hb3:=hb.trans (hb'.mono hb.size)
    clear hown hb'
    go_wp2_with (at_builtin;refine yR w' #[.int .i64 (d1:Int)] _ rfl _ _ 134 2 rfl Tryz.underlying134 w.heap.size zPf rfl (by decide) _ _ _ rfl hown2 1 1 rfl rfl (by decide) ?_ ?_ ?_ ?_ ?_)
    ·rfl
    ·omega
    ·omega
    ·exact hb3.size
    ·intro v' w' hown3 hgr _
     have hb4:=vZ hb3 hb3.size hown2 hgr
     clear hown2 hgr hb3
     go_wp2_with fail
     go_roundw
     case rel=>exact ⟨pos+d2,by go_num,hb2,l++[d1],by rw [← HLL.out,HR.out];simp,by rw [← HN.out,HR.out],hb4,by simpa [longVals] using hown3⟩
     case measure=>simp [intOf];omega
  ·have e1:l=chars s:=by
    have h1:=HLL.out
    rw [zAi (by omega),← HC.out] at h1
    simpa using h1
   go_wp2_with fail
   go_ret2
   exact ⟨_,rfl,hb,by rw [← e1];exact hown⟩
end Go.Proofs.YtfalelkfhandfaaGreatDoor
