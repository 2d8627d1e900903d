/- The walks of package vaddr: Split, Page, Base, Index, Join, each at every argument of its types. -/
import Derived.Test.YtlfenakabedmfaaWord
namespace Go.Proofs.Ytlfenakabedmfaa
open Go.RowKit

theorem mayF {a n : Int} (h1 : 0 ≤ a) (h2 : a ≤ 63) (h3 : 1 ≤ n) (h4 : n ≤ 64) (h5 : a + n ≤ 64) : MayF a n := ⟨h1, h2, h3, h4, h5⟩

/-! vaddr.Split -/
def splitA (x : Int) : Value := .agg #[.int .i64 (x / 4096), .int .i64 (x / 512 % 8), .int .i64 (x / 64 % 8), .int .i64 (x % 64)]
theorem fld12 (x : Int) : fldV x 12 3 = x / 4096 % 8 := rfl
theorem fld9 (x : Int) : fldV x 9 3 = x / 512 % 8 := rfl
theorem fld6 (x : Int) : fldV x 6 3 = x / 64 % 8 := rfl
theorem fld0 (x : Int) : fldV x 0 6 = x % 64 := by simp [fldV]
set_option maxHeartbeats 400000 in
theorem split_yes (x : Int) (w : World) (h : 0 ≤ x) (h2 : x < 32768) :
    Calls Try.prog 81 #[.int .u64 x] w fun e w' => e = .returned (.tuple #[splitA x, .int .i64 0]) ∧ Below w.heap.size w w' := by
  have h64 : x < 18446744073709551616 := by omega
  go_enter Try.func81, Try.ntmps81
  go_wp2_with fail
  refine wp_loop_rounds 4 ?_
  rw [rounds_succ]
  go_wp2_with fail
  refine (field_yes x 12 3 _ h h64 (mayF (by omega) (by omega) (by omega) (by omega) (by omega))).mono ?_
  rintro e w' ⟨rfl, rfl⟩
  rw [fld12]
  go_wp2_with fail
  rw [rounds_succ]
  go_wp2_with fail
  refine (field_yes x 9 3 _ h h64 (mayF (by omega) (by omega) (by omega) (by omega) (by omega))).mono ?_
  rintro e w' ⟨rfl, rfl⟩
  rw [fld9]
  go_wp2_with fail
  rw [rounds_succ]
  go_wp2_with fail
  refine (field_yes x 6 3 _ h h64 (mayF (by omega) (by omega) (by omega) (by omega) (by omega))).mono ?_
  rintro e w' ⟨rfl, rfl⟩
  rw [fld6]
  go_wp2_with fail
  rw [rounds_succ]
  go_wp2_with fail
  refine (field_yes x 0 6 _ h h64 (mayF (by omega) (by omega) (by omega) (by omega) (by omega))).mono ?_
  rintro e w' ⟨rfl, rfl⟩
  rw [fld0]
  go_wp2_with fail
  go_returns
  refine ⟨?_, by go_grown⟩
  unfold splitA
  rw [show x / 4096 % 8 = x / 4096 by omega]
theorem split_no (x : Int) (w : World) (h : 32768 ≤ x) :
    Calls Try.prog 81 #[.int .u64 x] w fun e w' => e = .returned (.tuple #[.agg #[.int .i64 0, .int .i64 0, .int .i64 0, .int .i64 0], .int .i64 3]) ∧ Below w.heap.size w w' := by
  go_enter Try.func81, Try.ntmps81
  go_wp2_with fail
  go_returns
  exact ⟨rfl, by go_grown⟩
theorem page_yes (x : Int) (w : World) (h : 0 ≤ x) (h2 : x < 32768) :
    Calls Try.prog 82 #[.int .u64 x] w fun e w' => e = .returned (.tuple #[.int .i64 (x / 64), .int .i64 0]) ∧ w = w' := by
  go_enter Try.func82, Try.ntmps82
  go_wp2_with fail
  go_ret2
  exact ⟨rfl, rfl⟩
theorem page_no (x : Int) (w : World) (h : 32768 ≤ x) :
    Calls Try.prog 82 #[.int .u64 x] w fun e w' => e = .returned (.tuple #[.int .i64 0, .int .i64 3]) ∧ w = w' := by
  go_enter Try.func82, Try.ntmps82
  go_wp2_with fail
  go_ret2
  exact ⟨rfl, rfl⟩

/-! Base, Index, Join: what each answers, at every argument -/
def baseV (p : Int) : Int := if 0 ≤ p ∧ p < 512 then p * 64 else 0
def baseE (p : Int) : Int := if 0 ≤ p ∧ p < 512 then 0 else 3
def idxV (p l : Int) : Int := if 0 ≤ p ∧ p < 512 then (if l = 1 then p / 64 else if l = 2 then p / 8 % 8 else if l = 3 then p % 8 else -1) else -1
def partsOk (a b c o : Int) : Prop := (0 ≤ a ∧ a < 8) ∧ (0 ≤ b ∧ b < 8) ∧ (0 ≤ c ∧ c < 8) ∧ (0 ≤ o ∧ o < 64)
instance (a b c o : Int) : Decidable (partsOk a b c o) := by unfold partsOk; exact inferInstance
def joinV (a b c o : Int) : Int := if partsOk a b c o then a * 4096 + b * 512 + c * 64 + o else 0
def joinE (a b c o : Int) : Int := if partsOk a b c o then 0 else 3
theorem idx_out (p l : Int) (w : World) (h : p < 0 ∨ 512 ≤ p ∨ l < 1 ∨ 3 < l) :
    Calls Try.prog 91 #[.int .i64 p, .int .i64 l] w fun e w' => e = .returned (.int .i64 (-1)) ∧ w = w' := by
  by_cases h1 : p < 0
  · clear h
    go_enter Try.func91, Try.ntmps91
    go_wp2_with fail
    go_ret
    exact ⟨rfl, rfl⟩
  · by_cases h2 : 512 ≤ p
    · clear h
      go_enter Try.func91, Try.ntmps91
      go_wp2_with fail
      go_ret
      exact ⟨rfl, rfl⟩
    · by_cases h3 : l < 1
      · clear h
        go_enter Try.func91, Try.ntmps91
        go_wp2_with fail
        go_ret
        exact ⟨rfl, rfl⟩
      · have h4 : 3 < l := by omega
        clear h
        go_enter Try.func91, Try.ntmps91
        go_wp2_with fail
        go_ret
        exact ⟨rfl, rfl⟩
theorem ret_int {k : IntKind} {a b : Int} (h : a = b) : Ending.returned (.int k a) = .returned (.int k b) := by rw [h]
theorem idx_1 (p : Int) (w : World) (h0 : 0 ≤ p) (h1 : p < 512) :
    Calls Try.prog 91 #[.int .i64 p, .int .i64 1] w fun e w' => e = .returned (.int .i64 (p / 64)) ∧ w = w' := by
  go_enter Try.func91, Try.ntmps91
  go_wp2_with fail
  refine wp_loop_rounds 3 ?_
  rw [rounds_succ]
  go_wp2_with fail
  rw [rounds_succ]
  go_wp2_with fail
  rw [rounds_succ]
  go_wp2_with fail
  go_ret
  exact ⟨ret_int (by omega), rfl⟩
theorem idx_2 (p : Int) (w : World) (h0 : 0 ≤ p) (h1 : p < 512) :
    Calls Try.prog 91 #[.int .i64 p, .int .i64 2] w fun e w' => e = .returned (.int .i64 (p / 8 % 8)) ∧ w = w' := by
  go_enter Try.func91, Try.ntmps91
  go_wp2_with fail
  refine wp_loop_rounds 2 ?_
  rw [rounds_succ]
  go_wp2_with fail
  rw [rounds_succ]
  go_wp2_with fail
  go_ret
  exact ⟨ret_int (by omega), rfl⟩
theorem idx_3 (p : Int) (w : World) (h0 : 0 ≤ p) (h1 : p < 512) :
    Calls Try.prog 91 #[.int .i64 p, .int .i64 3] w fun e w' => e = .returned (.int .i64 (p % 8)) ∧ w = w' := by
  go_enter Try.func91, Try.ntmps91
  go_wp2_with fail
  refine wp_loop_rounds 1 ?_
  rw [rounds_succ]
  go_wp2_with fail
  go_ret
  exact ⟨ret_int (by omega), rfl⟩
theorem idx_any (p l : Int) (w : World) :
    Calls Try.prog 91 #[.int .i64 p, .int .i64 l] w fun e w' => e = .returned (.int .i64 (idxV p l)) ∧ w = w' := by
  unfold idxV
  by_cases h : p < 0 ∨ 512 ≤ p ∨ l < 1 ∨ 3 < l
  · by_cases hp : 0 ≤ p ∧ p < 512
    · rw [if_pos hp, if_neg (by omega), if_neg (by omega), if_neg (by omega)]
      exact idx_out p l w h
    · rw [if_neg hp]
      exact idx_out p l w h
  · rw [if_pos (by omega)]
    by_cases h1 : l = 1
    · subst h1
      rw [if_pos rfl]
      exact idx_1 p w (by omega) (by omega)
    · by_cases h2 : l = 2
      · subst h2
        rw [if_neg (by omega), if_pos rfl]
        exact idx_2 p w (by omega) (by omega)
      · obtain rfl : l = 3 := by omega
        rw [if_neg (by omega), if_neg (by omega), if_pos rfl]
        exact idx_3 p w (by omega) (by omega)
theorem or_low {x o : Int} (h0 : 0 ≤ x) (h1 : x < 18446744073709551552) (h2 : x % 64 = 0) (h3 : 0 ≤ o ∧ o < 64) : bits .or .u64 x o = x + o := by
  rw [u64_or x o h0 (by omega) h3.1 (by omega)]
  rw [nat_join 6 x.toNat o.toNat (by simp; omega) (by simp; omega)]
  omega
end Go.Proofs.Ytlfenakabedmfaa
