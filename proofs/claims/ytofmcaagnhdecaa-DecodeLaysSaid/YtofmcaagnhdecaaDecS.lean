/- What decoding and encoding say, in plain Lean. -/
import Derived.Test.YtofmcaagnhdecaaDecC
import Derived.Test.YtofmcaagnhdecaaFrames
namespace Go.Proofs.Ytofmcaagnhdecaa
open Go.RowKit Go.Shelf

/-- An order's cells, and a call's. -/
def ordA (m : Nat → Int) : Array Value := #[.int .i64 (m 0), .int .i64 (m 1), .int .i64 (m 2), .int .i64 (m 3), .int .i64 (m 4), .int .i64 (m 5), .int .i64 (m 6), .int .u64 (m 7), .int .u64 (m 8), .int .u64 (m 9), .int .u64 (m 10), .int .u64 (m 11)]
def callA (op : Int) (x : Nat → Int) : Array Value := #[.int .u64 op, .int .u64 (x 0), .int .u64 (x 1), .int .u64 (x 2), .int .u64 (x 3), .int .u64 (x 4), .int .u64 (x 5)]
def inr (f : Int × Int × Nat) (x : Int) : Bool := decide (f.1 ≤ x) && decide (x ≤ f.2.1)
/-- The order's cells (and, at 12, the count) behind the first k words: a word out of range goes nowhere. -/
def mTo (fs : List (Int × Int × Nat)) (x : Nat → Int) : Nat → Nat → Int
  | 0 => fun _ => 0
  | k + 1 => match fs[k]? with
    | some f => if inr f (x k) then fun j => if j = f.2.2 then x k else mTo fs x k j else mTo fs x k
    | none => mTo fs x k
def rangeBad (fs : List (Int × Int × Nat)) (x : Nat → Int) : Nat → Bool
  | 0 => false
  | k + 1 => rangeBad fs x k || (match fs[k]? with | some f => !inr f (x k) | none => false)
def tailBad (n : Nat) (x : Nat → Int) : Nat → Bool
  | 0 => false
  | k + 1 => tailBad n x k || (decide (n ≤ k) && decide (x k ≠ 0))
def objB (k s : Int) : Bool := decide (k ≤ 15) && decide (s ≤ 64) && decide (0 < framesV k s)
def finM (op : Int) (m : Nat → Int) : Nat → Int := fun j => if j = 0 then op else if j = 6 then m 6 + 16 * m 12 else m j
/-- A call's order, and the error's number. -/
def decV (op : Int) (x : Nat → Int) : (Nat → Int) × Int :=
  match formL op with
  | none => (fun _ => 0, 2)
  | some fs => if op = 1 ∧ objB (x 1) (x 2) = false then (fun _ => 0, 2) else if tailBad fs.length x 6 then (fun _ => 0, 2) else if rangeBad fs x 6 then (fun _ => 0, 3) else (finM op (mTo fs x 6), 0)
def U64 (x : Nat → Int) : Prop := ∀ i, 0 ≤ x i ∧ x i < 18446744073709551616

/-- What each form of a list is like. -/
def okF (f : Int × Int × Nat) : Bool := decide (0 ≤ f.1) && decide (f.1 ≤ 1) && decide (f.2.1 < 18446744073709551616) && (isW f.2.2 || decide (f.2.1 ≤ 4096)) && decide (1 ≤ f.2.2) && decide (f.2.2 ≤ 12)
-- ELIM
theorem formL_elim {P : Int → List (Int × Int × Nat) → Prop} (h1 : P 1 [(0, 4095, 1), (0, 15, 4), (0, 64, 5), (0, 4095, 2), (0, 15, 6), (1, 4, 12)]) (h2 : P 2 [(0, 4095, 1), (0, 4095, 2), (0, 7, 4)]) (h3 : P 3 [(0, 4095, 1), (0, 4095, 2), (0, 7, 4), (0, 18446744073709551615, 7)]) (h4 : P 4 [(0, 4095, 1), (0, 4095, 2)]) (h5 : P 5 [(0, 4095, 1), (0, 4095, 2)]) (h6 : P 6 [(0, 4095, 1)]) (h7 : P 7 [(0, 4095, 1), (1, 64, 4)]) (h8 : P 8 [(0, 4095, 1), (0, 4095, 2), (0, 18446744073709551615, 7)]) (h9 : P 9 [(0, 4095, 1)]) (h10 : P 10 [(0, 4095, 1), (0, 4095, 2), (0, 18446744073709551615, 7), (0, 7, 4)]) (h11 : P 11 [(0, 4095, 1)]) (h12 : P 12 [(0, 4095, 1), (0, 4095, 2)]) (h13 : P 13 [(0, 4095, 1), (0, 4095, 2)]) (h14 : P 14 [(0, 4095, 1), (0, 4096, 4), (0, 18446744073709551615, 8), (0, 18446744073709551615, 9), (0, 18446744073709551615, 10), (0, 18446744073709551615, 11)]) (h15 : P 15 [(0, 4095, 1), (0, 4096, 4), (0, 18446744073709551615, 8), (0, 18446744073709551615, 9), (0, 18446744073709551615, 10), (0, 18446744073709551615, 11)]) (h16 : P 16 [(0, 4095, 1), (0, 4096, 4)]) (h17 : P 17 [(0, 18446744073709551615, 8), (0, 18446744073709551615, 9), (0, 18446744073709551615, 10), (0, 18446744073709551615, 11)]) (h18 : P 18 []) (h19 : P 19 [(0, 4095, 1), (0, 2, 4), (0, 4095, 2)]) (h20 : P 20 [(0, 4095, 1), (0, 2, 4)]) (h21 : P 21 [(0, 4095, 1)]) (h22 : P 22 [(0, 4095, 1)]) (h23 : P 23 [(0, 4095, 1), (0, 7, 4)]) {op : Int} {fs : List (Int × Int × Nat)} (h : formL op = some fs) : P op fs := by
  unfold formL at h
  by_cases e1 : op = 1
  · rw [if_pos e1] at h; injection h with h; subst e1 h; exact h1
  rw [if_neg e1] at h
  by_cases e2 : op = 2
  · rw [if_pos e2] at h; injection h with h; subst e2 h; exact h2
  rw [if_neg e2] at h
  by_cases e3 : op = 3
  · rw [if_pos e3] at h; injection h with h; subst e3 h; exact h3
  rw [if_neg e3] at h
  by_cases e4 : op = 4
  · rw [if_pos e4] at h; injection h with h; subst e4 h; exact h4
  rw [if_neg e4] at h
  by_cases e5 : op = 5
  · rw [if_pos e5] at h; injection h with h; subst e5 h; exact h5
  rw [if_neg e5] at h
  by_cases e6 : op = 6
  · rw [if_pos e6] at h; injection h with h; subst e6 h; exact h6
  rw [if_neg e6] at h
  by_cases e7 : op = 7
  · rw [if_pos e7] at h; injection h with h; subst e7 h; exact h7
  rw [if_neg e7] at h
  by_cases e8 : op = 8
  · rw [if_pos e8] at h; injection h with h; subst e8 h; exact h8
  rw [if_neg e8] at h
  by_cases e9 : op = 9
  · rw [if_pos e9] at h; injection h with h; subst e9 h; exact h9
  rw [if_neg e9] at h
  by_cases e10 : op = 10
  · rw [if_pos e10] at h; injection h with h; subst e10 h; exact h10
  rw [if_neg e10] at h
  by_cases e11 : op = 11
  · rw [if_pos e11] at h; injection h with h; subst e11 h; exact h11
  rw [if_neg e11] at h
  by_cases e12 : op = 12
  · rw [if_pos e12] at h; injection h with h; subst e12 h; exact h12
  rw [if_neg e12] at h
  by_cases e13 : op = 13
  · rw [if_pos e13] at h; injection h with h; subst e13 h; exact h13
  rw [if_neg e13] at h
  by_cases e14 : op = 14
  · rw [if_pos e14] at h; injection h with h; subst e14 h; exact h14
  rw [if_neg e14] at h
  by_cases e15 : op = 15
  · rw [if_pos e15] at h; injection h with h; subst e15 h; exact h15
  rw [if_neg e15] at h
  by_cases e16 : op = 16
  · rw [if_pos e16] at h; injection h with h; subst e16 h; exact h16
  rw [if_neg e16] at h
  by_cases e17 : op = 17
  · rw [if_pos e17] at h; injection h with h; subst e17 h; exact h17
  rw [if_neg e17] at h
  by_cases e18 : op = 18
  · rw [if_pos e18] at h; injection h with h; subst e18 h; exact h18
  rw [if_neg e18] at h
  by_cases e19 : op = 19
  · rw [if_pos e19] at h; injection h with h; subst e19 h; exact h19
  rw [if_neg e19] at h
  by_cases e20 : op = 20
  · rw [if_pos e20] at h; injection h with h; subst e20 h; exact h20
  rw [if_neg e20] at h
  by_cases e21 : op = 21
  · rw [if_pos e21] at h; injection h with h; subst e21 h; exact h21
  rw [if_neg e21] at h
  by_cases e22 : op = 22
  · rw [if_pos e22] at h; injection h with h; subst e22 h; exact h22
  rw [if_neg e22] at h
  by_cases e23 : op = 23
  · rw [if_pos e23] at h; injection h with h; subst e23 h; exact h23
  rw [if_neg e23] at h
  cases h
-- ELIM END
theorem formL_ok {op : Int} {fs : List (Int × Int × Nat)} (h : formL op = some fs) : fs.length ≤ 6 ∧ fs.all okF = true ∧ 1 ≤ op ∧ op ≤ 23 := by
  refine formL_elim (P := fun op fs => fs.length ≤ 6 ∧ fs.all okF = true ∧ 1 ≤ op ∧ op ≤ 23) (by decide) (by decide) (by decide) (by decide) (by decide) (by decide) (by decide) (by decide) (by decide) (by decide) (by decide) (by decide) (by decide) (by decide) (by decide) (by decide) (by decide) (by decide) (by decide) (by decide) (by decide) (by decide) (by decide) h
theorem okF_w {f : Int × Int × Nat} (h : okF f = true) : 0 ≤ f.1 ∧ f.1 < 18446744073709551616 ∧ f.2.1 < 18446744073709551616 ∧ (isW f.2.2 = true ∨ f.2.1 ≤ 4096) ∧ 1 ≤ f.2.2 ∧ f.2.2 ≤ 12 := by
  unfold okF at h
  simp only [Bool.and_eq_true, Bool.or_eq_true, decide_eq_true_eq] at h
  obtain ⟨⟨⟨⟨⟨h1, h2⟩, h3⟩, h4⟩, h5⟩, h6⟩ := h
  exact ⟨h1, by omega, h3, h4, h5, h6⟩
/-- The cells of the k-th form. -/
theorem fcells_get (g gc : Nat) : ∀ (fs : List (Int × Int × Nat)) (k i : Nat) (f : Int × Int × Nat), fs[k]? = some f → i < 4 → (fs.flatMap (fcell g gc))[k * 4 + i]? = (fcell g gc f)[i]?
  | [], _, _, _, h, _ => by simp at h
  | f0 :: fs, 0, i, f, h, hi => by
    simp at h
    subst h
    rw [List.flatMap_cons, Nat.zero_mul, Nat.zero_add, List.getElem?_append_left (by simpa [fcell] using hi)]
  | f0 :: fs, k + 1, i, f, h, hi => by
    rw [List.flatMap_cons, List.getElem?_append_right (by simp [fcell]; omega)]
    rw [show (k + 1) * 4 + i - (fcell g gc f0).length = k * 4 + i by simp [fcell]; omega]
    exact fcells_get g gc fs k i f (by simpa using h) hi
theorem fcells_len (g gc : Nat) (fs : List (Int × Int × Nat)) : (fs.flatMap (fcell g gc)).length = fs.length * 4 := by
  induction fs with
  | nil => rfl
  | cons f fs ih => rw [List.flatMap_cons, List.length_append, ih]; simp [fcell]; omega
end Go.Proofs.Ytofmcaagnhdecaa
