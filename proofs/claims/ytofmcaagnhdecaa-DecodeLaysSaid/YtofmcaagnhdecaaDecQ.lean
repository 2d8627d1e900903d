/- Orders and calls compared. -/
import Derived.Test.YtofmcaagnhdecaaDecA
import Derived.ChangeKeysEq
namespace Go.Proofs.Ytofmcaagnhdecaa
open Go.RowKit
theorem eq3 (a0 a1 a2 b0 b1 b2 : Int) (w : World) : (Op.equalIn 9999 26 (.agg #[.int .i64 a0, .int .i64 a1, .int .i64 a2]) (.agg #[.int .i64 b0, .int .i64 b1, .int .i64 b2])).run Try.prog w = .ok (a0 == b0 && (a1 == b1 && a2 == b2)) w := by
  obtain ⟨i', hi'⟩ : ∃ i, Try.prog.info? 3 = some i := ⟨_, rfl⟩
  rw [show (9999 : Nat) = 9998 + 1 from rfl, run_equalIn_array w 9998 _ _ Try.underlying26 hi', cells_int]
  simp [Op.eqItems, go_sem]
  by_cases h0 : a0 = b0 <;> by_cases h1 : a1 = b1 <;> by_cases h2 : a2 = b2 <;> simp [h0, h1, h2]
theorem eq4 (a0 a1 a2 a3 b0 b1 b2 b3 : Int) (w : World) : (Op.equalIn 9999 27 (.agg #[.int .u64 a0, .int .u64 a1, .int .u64 a2, .int .u64 a3]) (.agg #[.int .u64 b0, .int .u64 b1, .int .u64 b2, .int .u64 b3])).run Try.prog w = .ok (a0 == b0 && (a1 == b1 && (a2 == b2 && a3 == b3))) w := by
  obtain ⟨i', hi'⟩ : ∃ i, Try.prog.info? 22 = some i := ⟨_, rfl⟩
  rw [show (9999 : Nat) = 9998 + 1 from rfl, run_equalIn_array w 9998 _ _ Try.underlying27 hi', cells_u64]
  simp [Op.eqItems, go_sem]
  by_cases h0 : a0 = b0 <;> by_cases h1 : a1 = b1 <;> by_cases h2 : a2 = b2 <;> by_cases h3 : a3 = b3 <;> simp [h0, h1, h2, h3]
def ordB (m m' : Nat → Int) : Bool := m 0 == m' 0 && (m 1 == m' 1 && (m 2 == m' 2 && (m 3 == m' 3 && ((m 4 == m' 4 && (m 5 == m' 5 && m 6 == m' 6)) && (m 7 == m' 7 && (m 8 == m' 8 && (m 9 == m' 9 && (m 10 == m' 10 && m 11 == m' 11))))))))
theorem ord_eqA (m m' : Nat → Int) (w : World) : (Op.equalIn 10000 29 (.agg (ordA m)) (.agg (ordA m'))).run Try.prog w = .ok (ordB m m') w := by
  unfold ordA ordB
  have q3 := eq3 (m 4) (m 5) (m 6) (m' 4) (m' 5) (m' 6)
  have q4 := eq4 (m 8) (m 9) (m 10) (m 11) (m' 8) (m' 9) (m' 10) (m' 11)
  generalize (m 4 == m' 4 && (m 5 == m' 5 && m 6 == m' 6)) = b3 at *
  generalize (m 8 == m' 8 && (m 9 == m' 9 && (m 10 == m' 10 && m 11 == m' 11))) = b4 at *
  go_simp
  generalize m 0 = a0
  generalize m' 0 = c0
  generalize m 1 = a1
  generalize m' 1 = c1
  generalize m 2 = a2
  generalize m' 2 = c2
  generalize m 3 = a3
  generalize m' 3 = c3
  generalize m 7 = a7
  generalize m' 7 = c7
  clear q3 q4
  cases b3 <;> cases b4 <;> (repeat' split) <;> simp_all
theorem eq6 (a0 a1 a2 a3 a4 a5 b0 b1 b2 b3 b4 b5 : Int) (w : World) : (Op.equalIn 9999 23 (.agg #[.int .u64 a0, .int .u64 a1, .int .u64 a2, .int .u64 a3, .int .u64 a4, .int .u64 a5]) (.agg #[.int .u64 b0, .int .u64 b1, .int .u64 b2, .int .u64 b3, .int .u64 b4, .int .u64 b5])).run Try.prog w = .ok (a0 == b0 && (a1 == b1 && (a2 == b2 && (a3 == b3 && (a4 == b4 && a5 == b5))))) w := by
  obtain ⟨i', hi'⟩ : ∃ i, Try.prog.info? 22 = some i := ⟨_, rfl⟩
  rw [show (9999 : Nat) = 9998 + 1 from rfl, run_equalIn_array w 9998 _ _ Try.underlying23 hi', cells_u64]
  simp [Op.eqItems, go_sem]
  (repeat' split) <;> simp_all
def callB (o : Int) (x : Nat → Int) (o' : Int) (x' : Nat → Int) : Bool := o == o' && (x 0 == x' 0 && (x 1 == x' 1 && (x 2 == x' 2 && (x 3 == x' 3 && (x 4 == x' 4 && x 5 == x' 5)))))
theorem call_eqA (o : Int) (x : Nat → Int) (o' : Int) (x' : Nat → Int) (w : World) : (Op.equalIn 10000 25 (.agg (callA o x)) (.agg (callA o' x'))).run Try.prog w = .ok (callB o x o' x') w := by
  unfold callA callB
  have q6 := eq6 (x 0) (x 1) (x 2) (x 3) (x 4) (x 5) (x' 0) (x' 1) (x' 2) (x' 3) (x' 4) (x' 5)
  generalize (x 0 == x' 0 && (x 1 == x' 1 && (x 2 == x' 2 && (x 3 == x' 3 && (x 4 == x' 4 && x 5 == x' 5))))) = b6 at *
  go_simp
  clear q6
  cases b6 <;> (repeat' split) <;> simp_all
theorem ordB_true (m m' : Nat → Int) : ordB m m' = true ↔ ∀ j, j < 12 → m j = m' j := by
  unfold ordB
  simp only [Bool.and_eq_true, beq_iff_eq]
  constructor
  · rintro ⟨h0, h1, h2, h3, ⟨h4, h5, h6⟩, h7, h8, h9, h10, h11⟩ j hj
    have : j = 0 ∨ j = 1 ∨ j = 2 ∨ j = 3 ∨ j = 4 ∨ j = 5 ∨ j = 6 ∨ j = 7 ∨ j = 8 ∨ j = 9 ∨ j = 10 ∨ j = 11 := by omega
    rcases this with rfl | rfl | rfl | rfl | rfl | rfl | rfl | rfl | rfl | rfl | rfl | rfl <;> assumption
  · intro h
    exact ⟨h 0 (by decide), h 1 (by decide), h 2 (by decide), h 3 (by decide), ⟨h 4 (by decide), h 5 (by decide), h 6 (by decide)⟩, h 7 (by decide), h 8 (by decide), h 9 (by decide), h 10 (by decide), h 11 (by decide)⟩
theorem callB_true (o : Int) (x : Nat → Int) (o' : Int) (x' : Nat → Int) : callB o x o' x' = true ↔ o = o' ∧ ∀ j, j < 6 → x j = x' j := by
  unfold callB
  simp only [Bool.and_eq_true, beq_iff_eq]
  constructor
  · rintro ⟨h, h0, h1, h2, h3, h4, h5⟩
    refine ⟨h, fun j hj => ?_⟩
    have : j = 0 ∨ j = 1 ∨ j = 2 ∨ j = 3 ∨ j = 4 ∨ j = 5 := by omega
    rcases this with rfl | rfl | rfl | rfl | rfl | rfl <;> assumption
  · rintro ⟨h, hj⟩
    exact ⟨h, hj 0 (by decide), hj 1 (by decide), hj 2 (by decide), hj 3 (by decide), hj 4 (by decide), hj 5 (by decide)⟩
end Go.Proofs.Ytofmcaagnhdecaa
