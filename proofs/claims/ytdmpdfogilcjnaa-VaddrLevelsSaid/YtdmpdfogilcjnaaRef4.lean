/- The walks of the reference of chapter 4. -/
import Derived.Test.YtdmpdfogilcjnaaVaddr
namespace Go.Proofs.Ytdmpdfogilcjnaa
open Go.RowKit

theorem rsplit_yes (x : Int) (w : World) (h : 0 ≤ x) (h2 : x < 32768) :
    Calls Try.prog 16 #[.int .u64 x] w fun e w' => e = .returned (.tuple #[splitA x, .int .i64 0]) ∧ Below w.heap.size w w' := by
  go_enter Try.func16, Try.ntmps16
  go_wp2_with fail
  go_returns
  exact ⟨rfl, by go_grown⟩
theorem rsplit_no (x : Int) (w : World) (h : 32768 ≤ x) :
    Calls Try.prog 16 #[.int .u64 x] w fun e w' => e = .returned (.tuple #[.agg #[.int .i64 0, .int .i64 0, .int .i64 0, .int .i64 0], .int .i64 3]) ∧ Below w.heap.size w w' := by
  go_enter Try.func16, Try.ntmps16
  go_wp2_with fail
  go_returns
  exact ⟨rfl, by go_grown⟩
theorem rpage_yes (x : Int) (w : World) (h : 0 ≤ x) (h2 : x < 32768) :
    Calls Try.prog 18 #[.int .u64 x] w fun e w' => e = .returned (.tuple #[.int .i64 (x / 64), .int .i64 0]) ∧ w = w' := by
  go_enter Try.func18, Try.ntmps18
  go_wp2_with fail
  go_ret2
  exact ⟨rfl, rfl⟩
theorem rpage_no (x : Int) (w : World) (h : 32768 ≤ x) :
    Calls Try.prog 18 #[.int .u64 x] w fun e w' => e = .returned (.tuple #[.int .i64 0, .int .i64 3]) ∧ w = w' := by
  go_enter Try.func18, Try.ntmps18
  go_wp2_with fail
  go_ret2
  exact ⟨rfl, rfl⟩
theorem small_any (x n : Int) (w : World) :
    Calls Try.prog 50 #[.int .i64 x, .int .i64 n] w fun e w' => e = .returned (.bool (decide (0 ≤ x ∧ x < n))) ∧ w = w' := by
  by_cases h1 : 0 ≤ x
  · by_cases h2 : x < n
    · rw [decide_eq_true (show 0 ≤ x ∧ x < n from ⟨h1, h2⟩)]
      go_enter Try.func50, Try.ntmps50
      go_wp2_with fail
      go_ret
      exact ⟨rfl, rfl⟩
    · rw [decide_eq_false (show ¬ (0 ≤ x ∧ x < n) from fun h => h2 h.2)]
      go_enter Try.func50, Try.ntmps50
      go_wp2_with fail
      go_ret
      exact ⟨rfl, rfl⟩
  · rw [decide_eq_false (show ¬ (0 ≤ x ∧ x < n) from fun h => h1 h.1)]
    go_enter Try.func50, Try.ntmps50
    go_wp2_with fail
    go_ret
    exact ⟨rfl, rfl⟩
theorem small_t {x n : Int} (h : 0 ≤ x ∧ x < n) (w : World) : Calls Try.prog 50 #[.int .i64 x, .int .i64 n] w fun e w' => e = .returned (.bool true) ∧ w = w' := by
  rw [← decide_eq_true h]; exact small_any x n w
theorem small_f {x n : Int} (h : ¬ (0 ≤ x ∧ x < n)) (w : World) : Calls Try.prog 50 #[.int .i64 x, .int .i64 n] w fun e w' => e = .returned (.bool false) ∧ w = w' := by
  rw [← decide_eq_false h]; exact small_any x n w
theorem rbase_any (p : Int) (w : World) :
    Calls Try.prog 42 #[.int .i64 p] w fun e w' => e = .returned (.tuple #[.int .u64 (baseV p), .int .i64 (baseE p)]) ∧ w = w' := by
  unfold baseV baseE
  by_cases h : 0 ≤ p ∧ p < 512
  · rw [if_pos h, if_pos h]
    have H := hide h
    obtain ⟨h0, h1⟩ := h
    go_enter Try.func42, Try.ntmps42
    go_wp2_with (go_at_call 50; refine (small_t H.out _).mono ?_; rintro e w' ⟨rfl, rfl⟩)
    go_ret2
    exact ⟨rfl, rfl⟩
  · rw [if_neg h, if_neg h]
    have H := hide h
    clear h
    go_enter Try.func42, Try.ntmps42
    go_wp2_with (go_at_call 50; refine (small_f H.out _).mono ?_; rintro e w' ⟨rfl, rfl⟩)
    go_ret2
    exact ⟨rfl, rfl⟩
theorem ridx_any (p l : Int) (w : World) :
    Calls Try.prog 43 #[.int .i64 p, .int .i64 l] w fun e w' => e = .returned (.int .i64 (idxV p l)) ∧ w = w' := by
  unfold idxV
  by_cases h : 0 ≤ p ∧ p < 512
  · rw [if_pos h]
    have H := hide h
    obtain ⟨h0, h1⟩ := h
    by_cases l1 : l = 1
    · subst l1
      rw [if_pos rfl]
      go_enter Try.func43, Try.ntmps43
      go_wp2_with (go_at_call 50; refine (small_t H.out _).mono ?_; rintro e w' ⟨rfl, rfl⟩)
      go_ret
      exact ⟨rfl, rfl⟩
    by_cases l2 : l = 2
    · subst l2
      rw [if_neg (by omega), if_pos rfl]
      go_enter Try.func43, Try.ntmps43
      go_wp2_with (go_at_call 50; refine (small_t H.out _).mono ?_; rintro e w' ⟨rfl, rfl⟩)
      go_ret
      exact ⟨rfl, rfl⟩
    by_cases l3 : l = 3
    · subst l3
      rw [if_neg (by omega), if_neg (by omega), if_pos rfl]
      go_enter Try.func43, Try.ntmps43
      go_wp2_with (go_at_call 50; refine (small_t H.out _).mono ?_; rintro e w' ⟨rfl, rfl⟩)
      go_ret
      exact ⟨rfl, rfl⟩
    · rw [if_neg l1, if_neg l2, if_neg l3]
      go_enter Try.func43, Try.ntmps43
      go_wp2_with (go_at_call 50; refine (small_t H.out _).mono ?_; rintro e w' ⟨rfl, rfl⟩)
      go_ret
      exact ⟨rfl, rfl⟩
  · rw [if_neg h]
    have H := hide h
    clear h
    go_enter Try.func43, Try.ntmps43
    go_wp2_with (go_at_call 50; refine (small_f H.out _).mono ?_; rintro e w' ⟨rfl, rfl⟩)
    go_ret
    exact ⟨rfl, rfl⟩
theorem rjoin_any (a b c o : Int) (w : World) :
    Calls Try.prog 41 #[.agg #[.int .i64 a, .int .i64 b, .int .i64 c, .int .i64 o]] w fun e w' => e = .returned (.tuple #[.int .u64 (joinV a b c o), .int .i64 (joinE a b c o)]) ∧ Below w.heap.size w w' := by
  unfold joinV joinE
  by_cases h : partsOk a b c o
  · rw [if_pos h, if_pos h]
    obtain ⟨ha, hb, hc, ho⟩ := h
    have HA := hide ha
    have HB := hide hb
    have HC := hide hc
    have HO := hide ho
    obtain ⟨a0, a1⟩ := ha
    obtain ⟨b0, b1⟩ := hb
    obtain ⟨c0, c1⟩ := hc
    obtain ⟨o0, o1⟩ := ho
    go_enter Try.func41, Try.ntmps41
    go_wp2_with fail
    refine (small_t HA.out _).mono ?_
    rintro e w' ⟨rfl, rfl⟩
    go_wp2_with fail
    refine (small_t HB.out _).mono ?_
    rintro e w' ⟨rfl, rfl⟩
    go_wp2_with fail
    refine (small_t HC.out _).mono ?_
    rintro e w' ⟨rfl, rfl⟩
    go_wp2_with fail
    refine (small_t HO.out _).mono ?_
    rintro e w' ⟨rfl, rfl⟩
    go_wp2_with fail
    go_ret2
    exact ⟨rfl, by go_grown⟩
  · rw [if_neg h, if_neg h]
    unfold partsOk at h
    by_cases ha : 0 ≤ a ∧ a < 8
    · have HA := hide ha
      by_cases hb : 0 ≤ b ∧ b < 8
      · have HB := hide hb
        by_cases hc : 0 ≤ c ∧ c < 8
        · have HC := hide hc
          have HO := hide (fun ho => h ⟨ha, hb, hc, ho⟩)
          clear h ha hb hc
          go_enter Try.func41, Try.ntmps41
          go_wp2_with fail
          refine (small_t HA.out _).mono ?_
          rintro e w' ⟨rfl, rfl⟩
          go_wp2_with fail
          refine (small_t HB.out _).mono ?_
          rintro e w' ⟨rfl, rfl⟩
          go_wp2_with fail
          refine (small_t HC.out _).mono ?_
          rintro e w' ⟨rfl, rfl⟩
          go_wp2_with fail
          refine (small_f HO.out _).mono ?_
          rintro e w' ⟨rfl, rfl⟩
          go_wp2_with fail
          go_ret2
          exact ⟨rfl, by go_grown⟩
        · have HC := hide hc
          clear h ha hb hc
          go_enter Try.func41, Try.ntmps41
          go_wp2_with fail
          refine (small_t HA.out _).mono ?_
          rintro e w' ⟨rfl, rfl⟩
          go_wp2_with fail
          refine (small_t HB.out _).mono ?_
          rintro e w' ⟨rfl, rfl⟩
          go_wp2_with fail
          refine (small_f HC.out _).mono ?_
          rintro e w' ⟨rfl, rfl⟩
          go_wp2_with fail
          go_ret2
          exact ⟨rfl, by go_grown⟩
      · have HB := hide hb
        clear h ha hb
        go_enter Try.func41, Try.ntmps41
        go_wp2_with fail
        refine (small_t HA.out _).mono ?_
        rintro e w' ⟨rfl, rfl⟩
        go_wp2_with fail
        refine (small_f HB.out _).mono ?_
        rintro e w' ⟨rfl, rfl⟩
        go_wp2_with fail
        go_ret2
        exact ⟨rfl, by go_grown⟩
    · have HA := hide ha
      clear h ha
      go_enter Try.func41, Try.ntmps41
      go_wp2_with fail
      refine (small_f HA.out _).mono ?_
      rintro e w' ⟨rfl, rfl⟩
      go_wp2_with fail
      go_ret2
      exact ⟨rfl, by go_grown⟩
end Go.Proofs.Ytdmpdfogilcjnaa
