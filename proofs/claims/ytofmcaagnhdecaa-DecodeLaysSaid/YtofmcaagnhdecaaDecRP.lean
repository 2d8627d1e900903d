/- The letters of the reference and the forms: plain facts. -/
import Derived.Test.YtofmcaagnhdecaaDecR
import Derived.Laws.Strings
namespace Go.Proofs.Ytofmcaagnhdecaa
open Go.RowKit Go.Shelf

/-- Which letter goes with which form. -/
def pairB (op : Int) (k : Nat) (l : Int) (f : Int × Int × Nat) : Bool :=
  if l = 97 then decide (f.1 = 0) && decide (f.2.1 = 4095) else
  if l = 103 then decide (f.1 = 0) && decide (f.2.1 = 4096) else
  if l = 109 then decide (f.1 = 0) && decide (f.2.1 = 7) else
  if l = 112 then decide (f.1 = 0) && decide (f.2.1 = 7) else
  if l = 98 then decide (f.1 = 1) && decide (f.2.1 = 64) else
  if l = 115 then decide (f.1 = 0) && decide (f.2.1 = 2) else
  if l = 105 then decide (f.1 = 0) && decide (f.2.1 = 15) else
  if l = 99 then decide (f.1 = 1) && decide (f.2.1 = 4) else
  if l = 119 then decide (f.1 = 0) && decide (f.2.1 = 18446744073709551615) else
  if l = 107 then decide (f.1 = 0) && decide (f.2.1 = 15) && decide (op = 1) && decide (k = 1) else
  if l = 122 then decide (f.1 = 0) && decide (f.2.1 = 64) && decide (op = 1) && decide (k = 2) else false
theorem pair_fit {op : Int} {k : Nat} {l : Int} {f : Int × Int × Nat} {x : Int} (h : pairB op k l f = true) (hx : 0 ≤ x ∧ x < 18446744073709551616) (h1 : op = 1 → k = 1 → x ≤ 15) (h2 : op = 1 → k = 2 → x ≤ 64) : fitL l x = inr f x := by
  obtain ⟨lo, hi, t⟩ := f
  unfold pairB at h
  unfold fitL inr
  dsimp only at h ⊢
  by_cases e1 : l = 97
  · rw [if_pos e1] at h ⊢
    simp only [Bool.and_eq_true, decide_eq_true_eq] at h
    obtain ⟨rfl, rfl⟩ := h
    rw [decide_eq_true hx.1, Bool.true_and]
    exact decide_eq_decide.2 (by omega)
  rw [if_neg e1] at h ⊢
  by_cases e2 : l = 103
  · rw [if_pos e2] at h ⊢
    simp only [Bool.and_eq_true, decide_eq_true_eq] at h
    obtain ⟨rfl, rfl⟩ := h
    rw [decide_eq_true hx.1, Bool.true_and]
  rw [if_neg e2] at h ⊢
  by_cases e3 : l = 109
  · rw [if_pos e3] at h ⊢
    simp only [Bool.and_eq_true, decide_eq_true_eq] at h
    obtain ⟨rfl, rfl⟩ := h
    rw [decide_eq_true hx.1, Bool.true_and]
  rw [if_neg e3] at h ⊢
  by_cases e4 : l = 112
  · rw [if_pos e4] at h ⊢
    simp only [Bool.and_eq_true, decide_eq_true_eq] at h
    obtain ⟨rfl, rfl⟩ := h
    rw [decide_eq_true hx.1, Bool.true_and]
  rw [if_neg e4] at h ⊢
  by_cases e5 : l = 98
  · rw [if_pos e5] at h ⊢
    simp only [Bool.and_eq_true, decide_eq_true_eq] at h
    obtain ⟨rfl, rfl⟩ := h
    rfl
  rw [if_neg e5] at h ⊢
  by_cases e6 : l = 115
  · rw [if_pos e6] at h ⊢
    simp only [Bool.and_eq_true, decide_eq_true_eq] at h
    obtain ⟨rfl, rfl⟩ := h
    rw [decide_eq_true hx.1, Bool.true_and]
    exact decide_eq_decide.2 (by omega)
  rw [if_neg e6] at h ⊢
  by_cases e7 : l = 105
  · rw [if_pos e7] at h ⊢
    simp only [Bool.and_eq_true, decide_eq_true_eq] at h
    obtain ⟨rfl, rfl⟩ := h
    rw [decide_eq_true hx.1, Bool.true_and]
  rw [if_neg e7] at h ⊢
  by_cases e8 : l = 99
  · rw [if_pos e8] at h ⊢
    simp only [Bool.and_eq_true, decide_eq_true_eq] at h
    obtain ⟨rfl, rfl⟩ := h
    rfl
  rw [if_neg e8] at h ⊢
  symm
  by_cases e9 : l = 119
  · rw [if_pos e9] at h
    simp only [Bool.and_eq_true, decide_eq_true_eq] at h
    obtain ⟨rfl, rfl⟩ := h
    simp only [Bool.and_eq_true, decide_eq_true_eq]
    omega
  rw [if_neg e9] at h
  by_cases e10 : l = 107
  · rw [if_pos e10] at h
    simp only [Bool.and_eq_true, decide_eq_true_eq] at h
    obtain ⟨⟨⟨rfl, rfl⟩, ho⟩, hk⟩ := h
    have := h1 ho hk
    simp only [Bool.and_eq_true, decide_eq_true_eq]
    omega
  rw [if_neg e10] at h
  by_cases e11 : l = 122
  · rw [if_pos e11] at h
    simp only [Bool.and_eq_true, decide_eq_true_eq] at h
    obtain ⟨⟨⟨rfl, rfl⟩, ho⟩, hk⟩ := h
    have := h2 ho hk
    simp only [Bool.and_eq_true, decide_eq_true_eq]
    omega
  rw [if_neg e11] at h
  exact absurd h (by decide)
def letterB (op : Int) (fs : List (Int × Int × Nat)) : Bool :=
  decide ((formSB op).data.size = fs.length) && !((formSB op).data.toList == [63]) && (List.range fs.length).all fun k => pairB op k (((formSB op).data.toList.getD k 0).toNat : Int) (fs.getD k (0, 0, 0))
theorem letters_ok {op : Int} {fs : List (Int × Int × Nat)} (h : formL op = some fs) : letterB op fs = true := by
  refine formL_elim (P := fun op fs => letterB op fs = true) (by decide +kernel) (by decide +kernel) (by decide +kernel) (by decide +kernel) (by decide +kernel) (by decide +kernel) (by decide +kernel) (by decide +kernel) (by decide +kernel) (by decide +kernel) (by decide +kernel) (by decide +kernel) (by decide +kernel) (by decide +kernel) (by decide +kernel) (by decide +kernel) (by decide +kernel) (by decide +kernel) (by decide +kernel) (by decide +kernel) (by decide +kernel) (by decide +kernel) (by decide +kernel) h
/-- What the walks need of the text of letters. -/
structure Letters (op : Int) (fs : List (Int × Int × Nat)) (s : ByteArray) : Prop where
  size : s.size = fs.length
  some_ : (s.toList == [63]) = false
  at_ : ∀ (k : Nat) (f : Int × Int × Nat), fs[k]? = some f → ∃ L : Int, (∀ w, (Instr.index 9 (.string s) (.int .i64 (k : Int))).run Try.prog w = .ok (.int .u8 L) w) ∧ pairB op k L f = true
theorem letters_of {op : Int} {fs : List (Int × Int × Nat)} (h : formL op = some fs) : Letters op fs (formSB op) := by
  have hl := letters_ok h
  unfold letterB at hl
  rw [Bool.and_eq_true, Bool.and_eq_true, decide_eq_true_iff] at hl
  obtain ⟨⟨h1, h2⟩, h3⟩ := hl
  generalize formSB op = s at *
  refine ⟨h1, ?_, fun k f hf => ?_⟩
  · rw [ByteArray.toList_eq]
    simpa using h2
  · have hk := (List.getElem?_eq_some_iff.1 hf).1
    have hks : k < s.size := (show s.size = fs.length from h1) ▸ hk
    refine ⟨((s[k]'hks).toNat : Int), fun w => ?_, ?_⟩
    · rw [run_index_string w 9 s .i64 k (by kernel_rfl), dif_pos (by omega)]
      rfl
    · have h4 := List.all_eq_true.1 h3 k (List.mem_range.2 hk)
      have e1 : fs.getD k (0, 0, 0) = f := by rw [List.getD_eq_getElem?_getD, hf]; rfl
      have e2 : s.data.toList.getD k 0 = s[k]'hks := by
        rw [List.getD_eq_getElem?_getD, Array.getElem?_toList, Array.getElem?_eq_getElem (show k < s.data.size from hks)]; rfl
      rw [e1, e2] at h4
      exact h4
theorem formSB_none {op : Int} (h : formL op = none) : formSB op = ⟨#[63]⟩ := by
  unfold formL at h
  unfold formSB
  by_cases e1 : op = 1
  · rw [if_pos e1] at h; cases h
  rw [if_neg e1] at h ⊢
  by_cases e2 : op = 2
  · rw [if_pos e2] at h; cases h
  rw [if_neg e2] at h ⊢
  by_cases e3 : op = 3
  · rw [if_pos e3] at h; cases h
  rw [if_neg e3] at h ⊢
  by_cases e4 : op = 4
  · rw [if_pos e4] at h; cases h
  rw [if_neg e4] at h ⊢
  by_cases e5 : op = 5
  · rw [if_pos e5] at h; cases h
  rw [if_neg e5] at h ⊢
  by_cases e6 : op = 6
  · rw [if_pos e6] at h; cases h
  rw [if_neg e6] at h ⊢
  by_cases e7 : op = 7
  · rw [if_pos e7] at h; cases h
  rw [if_neg e7] at h ⊢
  by_cases e8 : op = 8
  · rw [if_pos e8] at h; cases h
  rw [if_neg e8] at h ⊢
  by_cases e9 : op = 9
  · rw [if_pos e9] at h; cases h
  rw [if_neg e9] at h ⊢
  by_cases e10 : op = 10
  · rw [if_pos e10] at h; cases h
  rw [if_neg e10] at h ⊢
  by_cases e11 : op = 11
  · rw [if_pos e11] at h; cases h
  rw [if_neg e11] at h ⊢
  by_cases e12 : op = 12
  · rw [if_pos e12] at h; cases h
  rw [if_neg e12] at h ⊢
  by_cases e13 : op = 13
  · rw [if_pos e13] at h; cases h
  rw [if_neg e13] at h ⊢
  by_cases e14 : op = 14
  · rw [if_pos e14] at h; cases h
  rw [if_neg e14] at h ⊢
  by_cases e15 : op = 15
  · rw [if_pos e15] at h; cases h
  rw [if_neg e15] at h ⊢
  by_cases e16 : op = 16
  · rw [if_pos e16] at h; cases h
  rw [if_neg e16] at h ⊢
  by_cases e17 : op = 17
  · rw [if_pos e17] at h; cases h
  rw [if_neg e17] at h ⊢
  by_cases e18 : op = 18
  · rw [if_pos e18] at h; cases h
  rw [if_neg e18] at h ⊢
  by_cases e19 : op = 19
  · rw [if_pos e19] at h; cases h
  rw [if_neg e19] at h ⊢
  by_cases e20 : op = 20
  · rw [if_pos e20] at h; cases h
  rw [if_neg e20] at h ⊢
  by_cases e21 : op = 21
  · rw [if_pos e21] at h; cases h
  rw [if_neg e21] at h ⊢
  by_cases e22 : op = 22
  · rw [if_pos e22] at h; cases h
  rw [if_neg e22] at h ⊢
  by_cases e23 : op = 23
  · rw [if_pos e23] at h; cases h
  rw [if_neg e23] at h ⊢
theorem tailBad_lo {n k : Nat} {x : Nat → Int} (h : k ≤ n) : tailBad n x k = false := by
  induction k with
  | zero => rfl
  | succ k ih => exact tailBad_in (ih (by omega)) (.inl (by omega))
theorem rangeBad_hi {fs : List (Int × Int × Nat)} {x : Nat → Int} {k : Nat} (h : rangeBad fs x fs.length = false) (hk : fs.length ≤ k) : rangeBad fs x k = false := by
  induction k with
  | zero => rw [show fs.length = 0 by omega] at h; exact h
  | succ k ih =>
    by_cases e : fs.length = k + 1
    · rw [← e]; exact h
    · rw [rangeBad_in (fun f hf => by have := (List.getElem?_eq_some_iff.1 hf).1; omega)]
      exact ih (by omega)
theorem rangeBad_le {fs : List (Int × Int × Nat)} {x : Nat → Int} {k j : Nat} (h : rangeBad fs x k = true) (hj : k ≤ j) : rangeBad fs x j = true := by
  induction j with
  | zero => rw [show k = 0 by omega] at h; exact h
  | succ j ih =>
    by_cases e : k = j + 1
    · rw [← e]; exact h
    · unfold rangeBad
      rw [ih (by omega), Bool.true_or]
/-- The object's check as the reference makes it. -/
theorem objB_bad {k s : Int} (hk : 0 ≤ k) (hs : 0 ≤ s) : objB k s = false ↔ (100 < k ∨ 100 < s ∨ framesV k s = 0) := by
  unfold objB framesV
  rw [Bool.and_eq_false_iff, Bool.and_eq_false_iff]
  simp only [decide_eq_false_iff_not]
  by_cases h1 : k = 1
  · subst h1
    simp only [if_pos]
    by_cases h : 1 ≤ s ∧ s ≤ 64
    · rw [if_pos h]; omega
    · rw [if_neg h]; omega
  rw [if_neg h1]
  by_cases h2 : k = 2
  · subst h2
    simp only [if_pos]
    by_cases h : s = 1 ∨ s = 2
    · rw [if_pos h]; omega
    rw [if_neg h]
    by_cases h : s = 3
    · rw [if_pos h]; omega
    rw [if_neg h]
    by_cases h : s = 4
    · rw [if_pos h]; omega
    rw [if_neg h]
    omega
  rw [if_neg h2]
  by_cases h3 : 3 ≤ k ∧ k ≤ 9 ∧ k ≠ 7
  · rw [if_pos h3]
    by_cases h : s = 0
    · rw [if_pos h]; omega
    · rw [if_neg h]; omega
  · rw [if_neg h3]; omega
theorem objB_good {k s : Int} (h : objB k s = true) : k ≤ 15 ∧ s ≤ 64 := by
  unfold objB at h
  simp only [Bool.and_eq_true, decide_eq_true_eq] at h
  exact h.1
end Go.Proofs.Ytofmcaagnhdecaa
