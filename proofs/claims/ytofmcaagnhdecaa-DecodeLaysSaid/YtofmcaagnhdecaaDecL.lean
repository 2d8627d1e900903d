/- What is decoded tells the words: plain Lean. -/
import Derived.Test.YtofmcaagnhdecaaDecE
namespace Go.Proofs.Ytofmcaagnhdecaa
open Go.RowKit

theorem rangeBad_pred {fs : List (Int × Int × Nat)} {x : Nat → Int} {k : Nat} (h : rangeBad fs x (k + 1) = false) : rangeBad fs x k = false ∧ ∀ f, fs[k]? = some f → inr f (x k) = true := by
  unfold rangeBad at h
  rw [Bool.or_eq_false_iff] at h
  refine ⟨h.1, fun f hf => ?_⟩
  have := h.2
  simp only [hf] at this
  simpa using this
theorem tailBad_pred {n : Nat} {x : Nat → Int} {k : Nat} (h : tailBad n x (k + 1) = false) : tailBad n x k = false ∧ (n ≤ k → x k = 0) := by
  unfold tailBad at h
  rw [Bool.or_eq_false_iff] at h
  refine ⟨h.1, fun hn => ?_⟩
  have := h.2
  rw [decide_eq_true hn, Bool.true_and] at this
  simpa using this
theorem tailBad_all {n : Nat} {x : Nat → Int} {k : Nat} (h : tailBad n x k = false) : ∀ i, n ≤ i → i < k → x i = 0 := by
  induction k with
  | zero => intro i _ hi; omega
  | succ k ih =>
    intro i hn hi
    obtain ⟨h1, h2⟩ := tailBad_pred h
    by_cases e : i = k
    · subst e; exact h2 hn
    · exact ih h1 i hn (by omega)
theorem rangeBad_all {fs : List (Int × Int × Nat)} {x : Nat → Int} {k : Nat} (h : rangeBad fs x k = false) : ∀ i f, fs[i]? = some f → i < k → inr f (x i) = true := by
  induction k with
  | zero => intro i _ _ hi; omega
  | succ k ih =>
    intro i f hf hi
    obtain ⟨h1, h2⟩ := rangeBad_pred h
    by_cases e : i = k
    · subst e; exact h2 f hf
    · exact ih h1 i f hf (by omega)
theorem mTo_get {fs : List (Int × Int × Nat)} {x : Nat → Int} (hnd : (fs.map (·.2.2)).Nodup) {k i : Nat} {f : Int × Int × Nat} (hr : rangeBad fs x k = false) (hi : fs[i]? = some f) (hik : i < k) : mTo fs x k f.2.2 = x i := by
  induction k with
  | zero => omega
  | succ k ih =>
    obtain ⟨h1, h2⟩ := rangeBad_pred hr
    cases hk : fs[k]? with
    | none =>
      have h3 := (List.getElem?_eq_some_iff.1 hi).1
      have h4 := List.getElem?_eq_none_iff.1 hk
      rw [mTo_out (fun f' hf => by rw [hk] at hf; cases hf)]
      exact ih h1 (by omega)
    | some f' =>
      rw [mTo_in hk (h2 f' hk)]
      show (if f.2.2 = f'.2.2 then x k else mTo fs x k f.2.2) = x i
      by_cases e : i = k
      · subst e
        rw [hk] at hi
        cases hi
        rw [if_pos rfl]
      · have hne : f.2.2 ≠ f'.2.2 := by
          intro h
          have hg : (fs.map (·.2.2))[i]? = (fs.map (·.2.2))[k]? := by rw [List.getElem?_map, List.getElem?_map, hi, hk]; exact congrArg some h
          exact e ((List.getElem?_inj (by rw [List.length_map]; exact (List.getElem?_eq_some_iff.1 hi).1) hnd).1 hg)
        rw [if_neg hne]
        exact ih h1 (by omega)
theorem mTo_zero {fs : List (Int × Int × Nat)} {x : Nat → Int} {j : Nat} (k : Nat) (h : ∀ f ∈ fs, f.2.2 ≠ j) : mTo fs x k j = 0 := by
  induction k with
  | zero => rfl
  | succ k ih =>
    cases hk : fs[k]? with
    | none => rw [mTo_out (fun f' hf => by rw [hk] at hf; cases hf)]; exact ih
    | some f' =>
      by_cases hr : inr f' (x k) = true
      · rw [mTo_in hk hr]
        show (if j = f'.2.2 then x k else mTo fs x k j) = 0
        rw [if_neg (fun e => h f' (List.mem_of_getElem? hk) e.symm)]
        exact ih
      · rw [mTo_out (fun f hf => by rw [hk] at hf; cases hf; simpa using hr)]; exact ih
def shapeB (op : Int) (fs : List (Int × Int × Nat)) : Bool := decide ((fs.map (·.2.2)).Nodup) && (if op = 1 then decide (fs[4]? = some (0, 15, 6)) && decide (fs[5]? = some (1, 4, 12)) else fs.all fun f => decide (f.2.2 ≠ 6) && decide (f.2.2 ≠ 12))
theorem formL_shape {op : Int} {fs : List (Int × Int × Nat)} (h : formL op = some fs) : shapeB op fs = true := by
  refine formL_elim (P := fun op fs => shapeB op fs = true) (by decide +kernel) (by decide +kernel) (by decide +kernel) (by decide +kernel) (by decide +kernel) (by decide +kernel) (by decide +kernel) (by decide +kernel) (by decide +kernel) (by decide +kernel) (by decide +kernel) (by decide +kernel) (by decide +kernel) (by decide +kernel) (by decide +kernel) (by decide +kernel) (by decide +kernel) (by decide +kernel) (by decide +kernel) (by decide +kernel) (by decide +kernel) (by decide +kernel) (by decide +kernel)  h
theorem decV_ok {op : Int} {x : Nat → Int} (h : (decV op x).2 = 0) : ∃ fs, formL op = some fs ∧ tailBad fs.length x 6 = false ∧ rangeBad fs x 6 = false ∧ decV op x = (finM op (mTo fs x 6), 0) := by
  unfold decV at h ⊢
  cases hf : formL op with
  | none => simp only [hf] at h; exact absurd h (by decide)
  | some fs =>
    simp only [hf] at h ⊢
    by_cases h1 : op = 1 ∧ objB (x 1) (x 2) = false
    · rw [if_pos h1] at h; exact absurd h (by decide)
    · rw [if_neg h1] at h ⊢
      by_cases h2 : tailBad fs.length x 6 = true
      · rw [if_pos h2] at h; exact absurd h (by decide)
      · rw [if_neg h2] at h ⊢
        by_cases h3 : rangeBad fs x 6 = true
        · rw [if_pos h3] at h; exact absurd h (by decide)
        · rw [if_neg h3]
          exact ⟨fs, rfl, by simpa using h2, by simpa using h3, rfl⟩
theorem decV_bad {op : Int} {x : Nat → Int} (h : (decV op x).2 ≠ 0) : (decV op x).1 = fun _ => 0 := by
  unfold decV at h ⊢
  cases hf : formL op with
  | none => rfl
  | some fs =>
    simp only [hf] at h ⊢
    by_cases h1 : op = 1 ∧ objB (x 1) (x 2) = false
    · rw [if_pos h1]
    · rw [if_neg h1] at h ⊢
      by_cases h2 : tailBad fs.length x 6 = true
      · rw [if_pos h2]
      · rw [if_neg h2] at h ⊢
        by_cases h3 : rangeBad fs x 6 = true
        · rw [if_pos h3]
        · rw [if_neg h3] at h
          exact absurd rfl h
theorem finM_at {op : Int} {m : Nat → Int} {j : Nat} (h0 : j ≠ 0) (h6 : j ≠ 6) : finM op m j = m j := by
  unfold finM
  rw [if_neg h0, if_neg h6]
theorem ordA_inj {m m' : Nat → Int} (h : ordA m = ordA m') (j : Nat) (hj : j < 12) : m j = m' j := by
  unfold ordA at h
  simp only [Array.mk.injEq, List.cons.injEq, Value.int.injEq, true_and, and_true] at h
  obtain ⟨h0, h1, h2, h3, h4, h5, h6, h7, h8, h9, h10, h11⟩ := h
  have : j = 0 ∨ j = 1 ∨ j = 2 ∨ j = 3 ∨ j = 4 ∨ j = 5 ∨ j = 6 ∨ j = 7 ∨ j = 8 ∨ j = 9 ∨ j = 10 ∨ j = 11 := by omega
  rcases this with rfl | rfl | rfl | rfl | rfl | rfl | rfl | rfl | rfl | rfl | rfl | rfl <;> assumption
theorem ordA_congr {m m' : Nat → Int} (h : ∀ j, j < 12 → m j = m' j) : ordA m = ordA m' := by
  unfold ordA
  rw [h 0 (by decide), h 1 (by decide), h 2 (by decide), h 3 (by decide), h 4 (by decide), h 5 (by decide), h 6 (by decide), h 7 (by decide), h 8 (by decide), h 9 (by decide), h 10 (by decide), h 11 (by decide)]
/-- Words that are decoded the same are the same. -/
theorem decV_inj {op : Int} {x y : Nat → Int} (hx : (decV op x).2 = 0) (hy : (decV op y).2 = 0) (h : ordA (decV op x).1 = ordA (decV op y).1) (i : Nat) (hi : i < 6) : x i = y i := by
  obtain ⟨fs, hf, tx, rx, ex⟩ := decV_ok hx
  obtain ⟨fs', hf', ty, ry, ey⟩ := decV_ok hy
  rw [hf] at hf'
  cases hf'
  have hsh := formL_shape hf
  obtain ⟨hlen, hok, _, _⟩ := formL_ok hf
  unfold shapeB at hsh
  rw [Bool.and_eq_true, decide_eq_true_iff] at hsh
  obtain ⟨hnd, hsh⟩ := hsh
  by_cases hin : i < fs.length
  · obtain ⟨f, hfi⟩ : ∃ f, fs[i]? = some f := ⟨_, List.getElem?_eq_getElem hin⟩
    rw [← mTo_get hnd rx hfi hi, ← mTo_get hnd ry hfi hi]
    have hfo := okF_w (List.all_eq_true.1 hok _ (List.mem_of_getElem? hfi))
    rw [ex, ey] at h
    have hj := ordA_inj h
    by_cases h1 : op = 1
    · rw [if_pos h1, Bool.and_eq_true, decide_eq_true_iff, decide_eq_true_iff] at hsh
      have e6 := hj 6 (by decide)
      have rx4 := rangeBad_all rx 4 _ hsh.1 (by decide)
      have ry4 := rangeBad_all ry 4 _ hsh.1 (by decide)
      have gx := mTo_get hnd rx hsh.1 (by decide)
      have gy := mTo_get hnd ry hsh.1 (by decide)
      unfold inr at rx4 ry4
      simp only [Bool.and_eq_true, decide_eq_true_eq] at rx4 ry4
      have e6' : mTo fs x 6 6 + 16 * mTo fs x 6 12 = mTo fs y 6 6 + 16 * mTo fs y 6 12 := e6
      simp only at gx gy
      by_cases e : f.2.2 = 6
      · rw [e]; omega
      · by_cases e' : f.2.2 = 12
        · rw [e']; omega
        · have h' : finM op (mTo fs x 6) f.2.2 = finM op (mTo fs y 6) f.2.2 := hj f.2.2 (by omega)
          rwa [finM_at (by omega) e, finM_at (by omega) e] at h'
    · rw [if_neg h1] at hsh
      have := List.all_eq_true.1 hsh _ (List.mem_of_getElem? hfi)
      rw [Bool.and_eq_true, decide_eq_true_iff, decide_eq_true_iff] at this
      have h' : finM op (mTo fs x 6) f.2.2 = finM op (mTo fs y 6) f.2.2 := hj f.2.2 (by omega)
      rwa [finM_at (by omega) this.1, finM_at (by omega) this.1] at h'
  · rw [tailBad_all tx i (by omega) hi, tailBad_all ty i (by omega) hi]
/-- The words above the sixth do not matter. -/
theorem decV_congr {op : Int} {x y : Nat → Int} (h : ∀ i, i < 6 → x i = y i) : decV op x = decV op y := by
  have hm : ∀ fs : List (Int × Int × Nat), ∀ k, k ≤ 6 → mTo fs x k = mTo fs y k ∧ rangeBad fs x k = rangeBad fs y k ∧ tailBad fs.length x k = tailBad fs.length y k := by
    intro fs k
    induction k with
    | zero => exact fun _ => ⟨rfl, rfl, rfl⟩
    | succ k ih =>
      intro hk
      obtain ⟨h1, h2, h3⟩ := ih (by omega)
      have hxk := h k (by omega)
      refine ⟨?_, ?_, ?_⟩
      · unfold mTo; rw [h1, hxk]
      · unfold rangeBad; rw [h2, hxk]
      · unfold tailBad; rw [h3, hxk]
  unfold decV
  cases formL op with
  | none => rfl
  | some fs =>
    obtain ⟨h1, h2, h3⟩ := hm fs 6 (Nat.le_refl _)
    simp only [h1, h2, h3, h 1 (by decide), h 2 (by decide)]
end Go.Proofs.Ytofmcaagnhdecaa
