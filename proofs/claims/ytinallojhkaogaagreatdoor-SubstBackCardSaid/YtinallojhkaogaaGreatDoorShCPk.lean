/- strings.Count of one byte. -/
import Derived.Test.YtinallojhkaogaaGreatDoorProg
import Derived.Shelf.Strings.Count
namespace Go.Proofs
open Go.Shelf Go.RowKit
def Tryz.lays138_ren : Go.Shelf.Ren := ⟨fun | 138 => 228 | 195 => 229 | 218 => 230 | 143 => 231 | 219 => 187 | 217 => 81 | 225 => 197 | 224 => 198 | 267 => 199 | 266 => 107 | 314 => 200 | n => n, fun | 9 => 9 | 3 => 3 | 4 => 4 | 5 => 5 | 0 => 0 | 46 => 227 | 146 => 290 | 51 => 137 | n => n, fun | 1 => 0 | n => n⟩
theorem Tryz.lays138 : Go.Proofs.Lays.n138 Tryz.prog Tryz.lays138_ren := {
  mixed := by kernel_rfl
  f138 := Tryz.func228.trans (congrArg some (by kernel_rfl))
  f143 := Tryz.func231.trans (congrArg some (by kernel_rfl))
  f195 := Tryz.func229.trans (congrArg some (by kernel_rfl))
  f217 := Tryz.func81.trans (congrArg some (by kernel_rfl))
  f218 := Tryz.func230.trans (congrArg some (by kernel_rfl))
  f219 := Tryz.func187.trans (congrArg some (by kernel_rfl))
  f224 := Tryz.func198.trans (congrArg some (by kernel_rfl))
  f225 := Tryz.func197.trans (congrArg some (by kernel_rfl))
  f266 := Tryz.func107.trans (congrArg some (by kernel_rfl))
  f267 := Tryz.func199.trans (congrArg some (by kernel_rfl))
  f314 := Tryz.func200.trans (congrArg some (by kernel_rfl))
  t0 := Tryz.underlying0
  a0 := Tryz.isAgg0
  z0 := Tryz.sizeOf0
  v0 := Tryz.zeroValue0
  t3 := Tryz.underlying3
  a3 := Tryz.isAgg3
  z3 := Tryz.sizeOf3
  v3 := Tryz.zeroValue3
  t4 := Tryz.underlying4
  a4 := Tryz.isAgg4
  z4 := Tryz.sizeOf4
  v4 := Tryz.zeroValue4
  t5 := Tryz.underlying5
  a5 := Tryz.isAgg5
  z5 := Tryz.sizeOf5
  v5 := Tryz.zeroValue5
  t9 := Tryz.underlying9
  a9 := Tryz.isAgg9
  z9 := Tryz.sizeOf9
  v9 := Tryz.zeroValue9
  t46 := Tryz.underlying227
  a46 := Tryz.isAgg227
  z46 := Tryz.sizeOf227
  v46 := Tryz.zeroValue227
  t51 := Tryz.underlying137
  a51 := Tryz.isAgg137
  z51 := Tryz.sizeOf137
  v51 := Tryz.zeroValue137
  t146 := Tryz.underlying290
  a146 := Tryz.isAgg290
  z146 := Tryz.sizeOf290
  v146 := Tryz.zeroValue290
  g1 := by kernel_rfl }
theorem Tryz.strings_Count_one (s : ByteArray) (c : UInt8) (w : World) :
    Calls Tryz.prog 228 #[.string s, .string ⟨#[c]⟩] w fun e w' => e = .returned (.int .i64 (Lib.countByte s.data.toList c)) ∧ w' = w := Any.strings_Count_one Tryz.lays138 s c w
end Go.Proofs
