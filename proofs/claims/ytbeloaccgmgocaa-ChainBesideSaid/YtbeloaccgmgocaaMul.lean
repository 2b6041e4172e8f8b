/- The contract of math/bits.Mul64, laid off the shelf at this program's numbers. Conditions: the numbers fit their kind. -/
import Derived.Shelf.Bits.Mul64
import Derived.Test.YtbeloaccgmgocaaChecked
namespace Go.Proofs.Ytbeloaccgmgocaa
open Go.Shelf
def lays264_ren : Go.Shelf.Ren := ⟨fun | 264 => 67 | n => n, fun | 53 => 118 | 46 => 102 | n => n, fun | n => n⟩
theorem lays264 : Go.Proofs.Lays.n264 Try.prog lays264_ren := {
  mixed := by kernel_rfl
  f264 := Try.func67.trans (congrArg some (by kernel_rfl))
  t46 := Try.underlying102
  a46 := Try.isAgg102
  z46 := Try.sizeOf102
  v46 := Try.zeroValue102
  t53 := Try.underlying118
  a53 := Try.isAgg118
  z53 := Try.sizeOf118
  v53 := Try.zeroValue118 }
open Go.RowKit Go.Lib in
theorem bits_Mul64 (x y : Nat) (hx : x < 18446744073709551616) (hy : y < 18446744073709551616) (w : World) :
    Calls Try.prog 67 #[.int .u64 x, .int .u64 y] w fun e w' => e = .returned (.tuple #[.int .u64 ((x * y / 18446744073709551616 : Nat) : Int), .int .u64 ((x * y % 18446744073709551616 : Nat) : Int)]) ∧ w' = w := Any.bits_Mul64 lays264 x y hx hy w
end Go.Proofs.Ytbeloaccgmgocaa
