/- What is decoded is encoded so: plain Lean. -/
import Derived.Test.YtofmcaagnhdecaaDecN
namespace Go.Proofs.Ytofmcaagnhdecaa
open Go.RowKit

theorem ordB_self' (m : Nat → Int) : ordB m m = true := (ordB_true m m).2 fun _ _ => rfl
theorem mTo_u {fs : List (Int × Int × Nat)} {x : Nat → Int} (hx : U64 x) (k j : Nat) : 0 ≤ mTo fs x k j ∧ mTo fs x k j < 18446744073709551616 := by
  induction k with
  | zero => exact ⟨Int.le_refl _, by show (0 : Int) < 18446744073709551616; decide⟩
  | succ k ih =>
    cases hk : fs[k]? with
    | none => rw [mTo_out (fun f hf => by rw [hk] at hf; cases hf)]; exact ih
    | some f =>
      by_cases hr : inr f (x k) = true
      · rw [mTo_in hk hr]
        show 0 ≤ (if j = f.2.2 then x k else mTo fs x k j) ∧ (if j = f.2.2 then x k else mTo fs x k j) < 18446744073709551616
        by_cases e : j = f.2.2
        · rw [if_pos e]; exact hx k
        · rw [if_neg e]; exact ih
      · rw [mTo_out (fun f' hf => by rw [hk] at hf; cases hf; simpa using hr)]; exact ih
theorem enc_dec {op : Int} {x : Nat → Int} (hx : U64 x) (h : (decV op x).2 = 0) : (∀ j, j < 6 → encX (decV op x).1 j = x j) ∧ encV (decV op x).1 = ((op, encX (decV op x).1), 0) := by
  obtain ⟨fs, hf, tx, rx, ex⟩ := decV_ok h
  have hsh := formL_shape hf
  obtain ⟨hlen, hok, ho1, ho2⟩ := formL_ok hf
  unfold shapeB at hsh
  rw [Bool.and_eq_true, decide_eq_true_iff] at hsh
  obtain ⟨hnd, hsh⟩ := hsh
  obtain ⟨m, hm⟩ : ∃ m, (decV op x).1 = m := ⟨_, rfl⟩
  have hmf : m = finM op (mTo fs x 6) := by rw [← hm, ex]
  rw [hm]
  have m0 : m 0 = op := by rw [hmf]; rfl
  have m6 : m 6 = mTo fs x 6 6 + 16 * mTo fs x 6 12 := by rw [hmf]; rfl
  have mt : ∀ t, t ≠ 0 → t ≠ 6 → m t = mTo fs x 6 t := fun t h0 h6 => by rw [hmf]; exact finM_at h0 h6
  have hG : formG op = fs := by unfold formG; rw [hf]; rfl
  have hb6 := mTo_le hok (x := x) 6 6 (.inl (Nat.le_refl _))
  have hb12 := mTo_le hok (x := x) 6 12 (.inr rfl)
  have hX : ∀ j, j < 6 → encX m j = x j := by
    intro j hj
    rw [encX_G, m0, hG]
    cases hjf : fs[j]? with
    | none => exact (tailBad_all tx j (List.getElem?_eq_none_iff.1 hjf) hj).symm
    | some f =>
      show getM (encM m) f.2.2 = x j
      have hfo := okF_w (List.all_eq_true.1 hok _ (List.mem_of_getElem? hjf))
      have hg := mTo_get hnd rx hjf hj
      have hE : encM m f.2.2 = x j := by
        unfold encM
        by_cases h1 : op = 1
        · rw [if_pos h1, Bool.and_eq_true, decide_eq_true_iff, decide_eq_true_iff] at hsh
          rw [m0, if_pos h1]
          show (if f.2.2 = 6 then m 6 % 16 else if f.2.2 = 12 then m 6 / 16 else m f.2.2) = x j
          have r4 := rangeBad_all rx 4 _ hsh.1 (by decide)
          have g4 := mTo_get hnd rx hsh.1 (by decide)
          unfold inr at r4
          simp only [Bool.and_eq_true, decide_eq_true_eq] at r4 g4
          by_cases e : f.2.2 = 6
          · rw [if_pos e, ← hg, e]; omega
          · rw [if_neg e]
            by_cases e' : f.2.2 = 12
            · rw [if_pos e', ← hg, e']; omega
            · rw [if_neg e', mt _ (by omega) e]; exact hg
        · rw [if_neg h1] at hsh
          have hs := List.all_eq_true.1 hsh _ (List.mem_of_getElem? hjf)
          rw [Bool.and_eq_true, decide_eq_true_iff, decide_eq_true_iff] at hs
          rw [m0, if_neg h1]
          show (if f.2.2 = 12 then 0 else m f.2.2) = x j
          rw [if_neg hs.2, mt _ (by omega) hs.1]
          exact hg
      unfold getM
      rw [hE]
      split
      · rfl
      · exact IntWalk.u64_in _ (by have := hx j; omega)
  refine ⟨hX, ?_⟩
  have hc : decV op (encX m) = decV op x := decV_congr hX
  unfold encV
  rw [if_neg (by omega), m0, hc, if_pos ⟨h, by rw [hm]; exact ordB_self' m⟩]
/-- What is encoded is decoded so. -/
theorem dec_enc28 {m : Nat → Int} (h : (encV m).2 = 0) : 0 ≤ m 0 ∧ (encV m).1 = (m 0, encX m) ∧ (decV (m 0) (encX m)).2 = 0 ∧ ordB (decV (m 0) (encX m)).1 m = true := by
  unfold encV at h ⊢
  by_cases h1 : m 0 < 0 ∨ m 6 < 0
  · rw [if_pos h1] at h; exact absurd h (by decide)
  · rw [if_neg h1] at h ⊢
    by_cases h2 : (decV (m 0) (encX m)).2 = 0 ∧ ordB (decV (m 0) (encX m)).1 m = true
    · rw [if_pos h2]; exact ⟨by omega, rfl, h2.1, h2.2⟩
    · rw [if_neg h2] at h; exact absurd h (by decide)
theorem enc_bad {m : Nat → Int} (h : (encV m).2 ≠ 0) : (encV m).1 = (0, fun _ => 0) := by
  unfold encV at h ⊢
  by_cases h1 : m 0 < 0 ∨ m 6 < 0
  · rw [if_pos h1]
  · rw [if_neg h1] at h ⊢
    by_cases h2 : (decV (m 0) (encX m)).2 = 0 ∧ ordB (decV (m 0) (encX m)).1 m = true
    · rw [if_pos h2] at h; exact absurd rfl h
    · rw [if_neg h2]
/-- An order that was decoded fits its kinds. -/
theorem decV_bd {op : Int} {x : Nat → Int} (hx : U64 x) : OrdB (decV op x).1 := by
  by_cases h : (decV op x).2 = 0
  · obtain ⟨fs, hf, tx, rx, ex⟩ := decV_ok h
    obtain ⟨hlen, hok, ho1, ho2⟩ := formL_ok hf
    rw [ex]
    have hb6 := mTo_le hok (x := x) 6 6 (.inl (Nat.le_refl _))
    have hb12 := mTo_le hok (x := x) 6 12 (.inr rfl)
    intro i
    refine ⟨fun hi => ?_, fun hi => ?_⟩
    · show -9223372036854775808 ≤ finM op (mTo fs x 6) i ∧ finM op (mTo fs x 6) i ≤ 9223372036854775807
      unfold finM
      by_cases e0 : i = 0
      · rw [if_pos e0]; omega
      · rw [if_neg e0]
        by_cases e6 : i = 6
        · rw [if_pos e6]; omega
        · rw [if_neg e6]
          have := mTo_le hok (x := x) 6 i (.inl hi)
          omega
    · show 0 ≤ finM op (mTo fs x 6) i ∧ finM op (mTo fs x 6) i < 18446744073709551616
      rw [finM_at (by omega) (by omega)]
      exact mTo_u hx 6 i
  · rw [decV_bad h]
    exact fun i => ⟨fun _ => ⟨by show (-9223372036854775808 : Int) ≤ 0; decide, by show (0 : Int) ≤ 9223372036854775807; decide⟩, fun _ => ⟨Int.le_refl _, by show (0 : Int) < 18446744073709551616; decide⟩⟩
end Go.Proofs.Ytofmcaagnhdecaa
