/- Layings of the library's contracts at this seat's program, written by program. -/
import Derived.Ground.NamesProg
import Derived.Shelf.Strconv.Itoa0
import Derived.Test.YtmbjbbflhlndcaaProg
namespace Go.Proofs.Ytmbjbbflhlndcaa
open Go.Shelf Go.Proofs
def Try.lenLay_ren : Go.Shelf.Ren := ⟨fun | 129 => 92 | n => n, fun | 53 => 127 | 3 => 3 | 4 => 4 | 46 => 121 | 5 => 5 | 9 => 9 | n => n, fun | n => n⟩
theorem Try.lenLay : Go.Proofs.Lays.n129 Try.prog Try.lenLay_ren := {
  mixed := by kernel_rfl,
  f129 := Try.func92.trans (congrArg some (by kernel_rfl)),
  t3 := Try.underlying3,
  a3 := Try.isAgg3,
  z3 := Try.sizeOf3,
  v3 := Try.zeroValue3,
  t4 := Try.underlying4,
  a4 := Try.isAgg4,
  z4 := Try.sizeOf4,
  v4 := Try.zeroValue4,
  t5 := Try.underlying5,
  a5 := Try.isAgg5,
  z5 := Try.sizeOf5,
  v5 := Try.zeroValue5,
  t9 := Try.underlying9,
  a9 := Try.isAgg9,
  z9 := Try.sizeOf9,
  v9 := Try.zeroValue9,
  t46 := Try.underlying121,
  a46 := Try.isAgg121,
  z46 := Try.sizeOf121,
  v46 := Try.zeroValue121,
  t53 := Try.underlying127,
  a53 := Try.isAgg127,
  z53 := Try.sizeOf127,
  v53 := Try.zeroValue127 }
end Go.Proofs.Ytmbjbbflhlndcaa
