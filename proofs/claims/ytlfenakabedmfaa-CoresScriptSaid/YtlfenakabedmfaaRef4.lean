/- The walks of the reference of chapter 4. -/
import Derived.Test.YtlfenakabedmfaaVaddr
namespace Go.Proofs.Ytlfenakabedmfaa
open Go.RowKit

theorem rsplit_yes (x : Int) (w : World) (h : 0 ≤ x) (h2 : x < 32768) :
    Calls Try.prog 87 #[.int .u64 x] w fun e w' => e = .returned (.tuple #[splitA x, .int .i64 0]) ∧ Below w.heap.size w w' := by
  go_enter Try.func87, Try.ntmps87
  go_wp2_with fail
  go_returns
  exact ⟨rfl, by go_grown⟩
theorem rsplit_no (x : Int) (w : World) (h : 32768 ≤ x) :
    Calls Try.prog 87 #[.int .u64 x] w fun e w' => e = .returned (.tuple #[.agg #[.int .i64 0, .int .i64 0, .int .i64 0, .int .i64 0], .int .i64 3]) ∧ Below w.heap.size w w' := by
  go_enter Try.func87, Try.ntmps87
  go_wp2_with fail
  go_returns
  exact ⟨rfl, by go_grown⟩
theorem small_any (x n : Int) (w : World) :
    Calls Try.prog 106 #[.int .i64 x, .int .i64 n] w fun e w' => e = .returned (.bool (decide (0 ≤ x ∧ x < n))) ∧ w = w' := by
  by_cases h1 : 0 ≤ x
  · by_cases h2 : x < n
    · rw [decide_eq_true (show 0 ≤ x ∧ x < n from ⟨h1, h2⟩)]
      go_enter Try.func106, Try.ntmps106
      go_wp2_with fail
      go_ret
      exact ⟨rfl, rfl⟩
    · rw [decide_eq_false (show ¬ (0 ≤ x ∧ x < n) from fun h => h2 h.2)]
      go_enter Try.func106, Try.ntmps106
      go_wp2_with fail
      go_ret
      exact ⟨rfl, rfl⟩
  · rw [decide_eq_false (show ¬ (0 ≤ x ∧ x < n) from fun h => h1 h.1)]
    go_enter Try.func106, Try.ntmps106
    go_wp2_with fail
    go_ret
    exact ⟨rfl, rfl⟩
theorem small_t {x n : Int} (h : 0 ≤ x ∧ x < n) (w : World) : Calls Try.prog 106 #[.int .i64 x, .int .i64 n] w fun e w' => e = .returned (.bool true) ∧ w = w' := by
  rw [← decide_eq_true h]; exact small_any x n w
theorem small_f {x n : Int} (h : ¬ (0 ≤ x ∧ x < n)) (w : World) : Calls Try.prog 106 #[.int .i64 x, .int .i64 n] w fun e w' => e = .returned (.bool false) ∧ w = w' := by
  rw [← decide_eq_false h]; exact small_any x n w
theorem ridx_any (p l : Int) (w : World) :
    Calls Try.prog 102 #[.int .i64 p, .int .i64 l] w fun e w' => e = .returned (.int .i64 (idxV p l)) ∧ w = w' := by
  unfold idxV
  by_cases h : 0 ≤ p ∧ p < 512
  · rw [if_pos h]
    have H := hide h
    obtain ⟨h0, h1⟩ := h
    by_cases l1 : l = 1
    · subst l1
      rw [if_pos rfl]
      go_enter Try.func102, Try.ntmps102
      go_wp2_with (go_at_call 106; refine (small_t H.out _).mono ?_; rintro e w' ⟨rfl, rfl⟩)
      go_ret
      exact ⟨rfl, rfl⟩
    by_cases l2 : l = 2
    · subst l2
      rw [if_neg (by omega), if_pos rfl]
      go_enter Try.func102, Try.ntmps102
      go_wp2_with (go_at_call 106; refine (small_t H.out _).mono ?_; rintro e w' ⟨rfl, rfl⟩)
      go_ret
      exact ⟨rfl, rfl⟩
    by_cases l3 : l = 3
    · subst l3
      rw [if_neg (by omega), if_neg (by omega), if_pos rfl]
      go_enter Try.func102, Try.ntmps102
      go_wp2_with (go_at_call 106; refine (small_t H.out _).mono ?_; rintro e w' ⟨rfl, rfl⟩)
      go_ret
      exact ⟨rfl, rfl⟩
    · rw [if_neg l1, if_neg l2, if_neg l3]
      go_enter Try.func102, Try.ntmps102
      go_wp2_with (go_at_call 106; refine (small_t H.out _).mono ?_; rintro e w' ⟨rfl, rfl⟩)
      go_ret
      exact ⟨rfl, rfl⟩
  · rw [if_neg h]
    have H := hide h
    clear h
    go_enter Try.func102, Try.ntmps102
    go_wp2_with (go_at_call 106; refine (small_f H.out _).mono ?_; rintro e w' ⟨rfl, rfl⟩)
    go_ret
    exact ⟨rfl, rfl⟩
end Go.Proofs.Ytlfenakabedmfaa
