/- The walks of what the statements share: Num, Low. -/
import Derived.Test.YtlfenakabedmfaaBase
namespace Go.Proofs.Ytlfenakabedmfaa
open Go.RowKit

theorem num_any (x : Int) (w : World) :
    Calls Try.prog 32 #[.int .i64 x] w fun e w' => e = .returned (.int .i64 x) ∧ w = w' := by
  go_enter Try.func32, Try.ntmps32
  go_wp2_with fail
  go_ret
  exact ⟨rfl, rfl⟩
/-- A number, from 0 to below n. -/
def lowV (x n : Int) : Int := x % 18446744073709551616 % n
theorem low_bd (x : Int) {n : Int} (h : 1 ≤ n) : 0 ≤ lowV x n ∧ lowV x n < n := ⟨Int.emod_nonneg _ (by omega), Int.emod_lt_of_pos _ (by omega)⟩
theorem low_eq (x : Int) {n : Int} (h : 1 ≤ n) (h2 : n ≤ 9223372036854775807) : wrap64 ((IntKind.u64.wrap x).tmod n) = lowV x n := by
  have hb := low_bd x h
  have hu : 0 ≤ x % 18446744073709551616 := Int.emod_nonneg _ (by omega)
  have e : (IntKind.u64.wrap x).tmod n = lowV x n := by
    rw [IntKind.wrap_u64, Int.tmod_eq_emod_of_nonneg hu]; rfl
  rw [e]
  exact IntWalk.wrap64_in _ ⟨by omega, by omega⟩
theorem low_any (x n : Int) (w : World) (h : 1 ≤ n) (h2 : n ≤ 9223372036854775807) :
    Calls Try.prog 18 #[.int .i64 x, .int .i64 n] w fun e w' => e = .returned (.int .i64 (lowV x n)) ∧ w = w' := by
  rw [← low_eq x h h2]
  go_enter Try.func18, Try.ntmps18
  go_wp2_with fail
  go_ret
  exact ⟨rfl, rfl⟩
end Go.Proofs.Ytlfenakabedmfaa
