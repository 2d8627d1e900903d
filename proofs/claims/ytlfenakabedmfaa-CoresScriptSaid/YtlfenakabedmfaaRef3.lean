/- The walks of the reference of chapter 3: May, Word, Encode, Decode. -/
import Derived.Test.YtlfenakabedmfaaPte2
namespace Go.Proofs.Ytlfenakabedmfaa
open Go.RowKit

set_option maxHeartbeats 1000000 in
theorem rmay3_off (l r s : Bool) (f : Int) (w : World) :
    Calls Try.prog 103 #[.agg #[.bool false, .bool l, .bool r, .bool s, .int .i64 f]] w fun e w' => e = .returned (.bool (mayB false l r s f)) ∧ Below w.heap.size w w' := by
  by_cases hf : f = 0
  · subst hf
    cases l <;> cases r <;> cases s
    all_goals
      go_enter Try.func103, Try.ntmps103
      go_wp2
      go_ret
      exact ⟨rfl, by go_grown⟩
  · have e : mayB false l r s f = false := by simp [mayB, hf]
    have t : (f == 0) = false := beq_eq_false_iff_ne.2 hf
    rw [e]
    clear e hf
    cases l <;> cases r <;> cases s
    all_goals
      go_enter Try.func103, Try.ntmps103
      go_wp2
      go_ret
      exact ⟨rfl, by go_grown⟩
set_option maxHeartbeats 1000000 in
theorem rmay3_on (l r s : Bool) (f : Int) (w : World) :
    Calls Try.prog 103 #[.agg #[.bool true, .bool l, .bool r, .bool s, .int .i64 f]] w fun e w' => e = .returned (.bool (mayB true l r s f)) ∧ Below w.heap.size w w' := by
  by_cases h0 : f < 0
  · have e : mayB true l r s f = false := by simp [mayB]; omega
    rw [e]
    clear e
    go_enter Try.func103, Try.ntmps103
    go_wp2
    go_ret
    exact ⟨rfl, by go_grown⟩
  by_cases h1 : 64 ≤ f
  · have e : mayB true l r s f = false := by simp [mayB]; omega
    rw [e]
    clear e
    go_enter Try.func103, Try.ntmps103
    go_wp2
    go_ret
    exact ⟨rfl, by go_grown⟩
  · have h2 : 0 ≤ f := by omega
    have h3 : f < 64 := by omega
    have e : mayB true l r s f = (l == (r || s)) := by simp [mayB, h2, h3]
    rw [e]
    clear e h0 h1
    cases l <;> cases r <;> cases s
    all_goals
      go_enter Try.func103, Try.ntmps103
      go_wp2
      go_ret
      exact ⟨rfl, by go_grown⟩
theorem rmay3_any (v l r s : Bool) (f : Int) (w : World) :
    Calls Try.prog 103 #[.agg #[.bool v, .bool l, .bool r, .bool s, .int .i64 f]] w fun e w' => e = .returned (.bool (mayB v l r s f)) ∧ Below w.heap.size w w' := by
  cases v
  · exact rmay3_off l r s f w
  · exact rmay3_on l r s f w
theorem word3_any (v l r s : Bool) (f : Int) (w : World) (h : mayB v l r s f = true) :
    Calls Try.prog 104 #[.agg #[.bool v, .bool l, .bool r, .bool s, .int .i64 f]] w fun e w' => e = .returned (.int .u64 (entV v l r s f)) ∧ Below w.heap.size w w' := by
  cases v
  · have h2 : l = false ∧ r = false ∧ s = false ∧ f = 0 := by simpa [mayB, and_assoc] using h
    obtain ⟨rfl, rfl, rfl, rfl⟩ := h2
    go_enter Try.func104, Try.ntmps104
    go_wp2
    go_ret
    exact ⟨rfl, by go_grown⟩
  · have h2 : (0 ≤ f ∧ f < 64) ∧ l = (r || s) := by simpa [mayB] using h
    obtain ⟨⟨h0, h1⟩, rfl⟩ := h2
    clear h
    cases r <;> cases s
    all_goals
      go_enter Try.func104, Try.ntmps104
      go_wp2
      go_ret
      exact ⟨by unfold entV; congr 2; simp; omega, by go_grown⟩
/-! Decode -/
theorem dec_zero : decOk 0 = true := by decide +kernel
theorem bit1 (x : Int) : bitB x 1 = (x / 2 % 2 == 1) := rfl
theorem bit2 (x : Int) : bitB x 2 = (x / 4 % 2 == 1) := rfl
theorem bit3 (x : Int) : bitB x 3 = (x / 8 % 2 == 1) := rfl
/-- What the reference asks of a word that is not 0. -/
theorem dec_ref {x : Int} (hx : x ≠ 0) : decOk x = (mayB true (bitB x 1) (bitB x 2) (bitB x 3) (x / 256 % 64) && entV true (bitB x 1) (bitB x 2) (bitB x 3) (x / 256 % 64) == x) := by
  unfold decOk
  cases h0 : bitB x 0 with
  | true =>
    have : entOf x = entV true (bitB x 1) (bitB x 2) (bitB x 3) (x / 256 % 64) := by unfold entOf; rw [h0]
    rw [this, Bool.and_comm]
  | false =>
    have e1 : entV true (bitB x 1) (bitB x 2) (bitB x 3) (x / 256 % 64) = entOf x + 1 := by
      unfold entOf entV
      rw [h0]
      simp only [if_true, Bool.false_eq_true, if_false]
      omega
    have hp : x % 2 = 0 := by
      unfold bitB at h0
      rw [beq_eq_false_iff_ne] at h0
      simp only [Int.pow_zero, Int.ediv_one] at h0
      omega
    have e2 : entOf x % 2 = x % 2 := by rw [entOf_eq]; omega
    have t : (entV true (bitB x 1) (bitB x 2) (bitB x 3) (x / 256 % 64) == x) = false := by
      rw [beq_eq_false_iff_ne, e1]; omega
    rw [t, Bool.and_false]
    cases h1 : mayB false (bitB x 1) (bitB x 2) (bitB x 3) (x / 256 % 64) with
    | false => rw [Bool.and_false]
    | true =>
      rw [Bool.and_true, beq_eq_false_iff_ne]
      have h2 : bitB x 1 = false ∧ bitB x 2 = false ∧ bitB x 3 = false ∧ x / 256 % 64 = 0 := by simpa [mayB, and_assoc] using h1
      obtain ⟨a, b, c, d⟩ := h2
      intro he
      unfold entOf entV at he
      rw [h0, a, b, c, d] at he
      simp at he
      exact hx he.symm
theorem rdec_zero (w : World) :
    Calls Try.prog 97 #[.int .u64 0] w fun e w' => e = .returned (.tuple #[decA 0, .int .i64 (decE 0)]) ∧ Below w.heap.size w w' := by
  have e : decA 0 = .agg #[.bool false, .bool false, .bool false, .bool false, .int .i64 0] := by unfold decA; rw [dec_zero]; rfl
  have e2 : decE 0 = 0 := by unfold decE; rw [dec_zero]; rfl
  rw [e, e2]
  clear e e2
  go_enter Try.func97, Try.ntmps97
  go_wp2
  go_returns
  exact ⟨rfl, by go_grown⟩
theorem rdec_facts {x : Int} (x0 : 0 < x) : ∀ l r s f, (x / 2 % 2 == 1) = l → (x / 4 % 2 == 1) = r → (x / 8 % 2 == 1) = s → x / 256 % 64 = f →
    (mayB true l r s f = true → entV true l r s f = x → decA x = .agg #[.bool true, .bool l, .bool r, .bool s, .int .i64 f] ∧ decE x = 0) ∧
    (mayB true l r s f = false ∨ entV true l r s f ≠ x → decA x = .agg #[.bool false, .bool false, .bool false, .bool false, .int .i64 0] ∧ decE x = 5) := by
  rintro l r s f rfl rfl rfl rfl
  have hd := dec_ref (x := x) (by omega)
  rw [← bit1, ← bit2, ← bit3]
  constructor
  · intro hm he
    rw [hm, beq_iff_eq.2 he, Bool.and_true] at hd
    have h0 : bitB x 0 = true := by
      cases h0 : bitB x 0 with
      | true => rfl
      | false =>
        exfalso
        have e1 : entV true (bitB x 1) (bitB x 2) (bitB x 3) (x / 256 % 64) = entOf x + 1 := by
          unfold entOf entV
          rw [h0]
          simp only [if_true, Bool.false_eq_true, if_false]
          omega
        have e2 : entOf x % 2 = x % 2 := by rw [entOf_eq]; omega
        omega
    unfold decA decE
    rw [hd, h0]
    exact ⟨rfl, rfl⟩
  · intro h
    have : decOk x = false := by
      rw [hd]
      rcases h with h | h
      · rw [h, Bool.false_and]
      · rw [beq_eq_false_iff_ne.2 h, Bool.and_false]
    unfold decA decE
    rw [this]
    exact ⟨rfl, rfl⟩
set_option maxHeartbeats 1000000 in
theorem rdec_pos (x : Int) (x0 : 0 < x) (x1 : x < 18446744073709551616) (w : World) :
    Calls Try.prog 97 #[.int .u64 x] w fun e w' => e = .returned (.tuple #[decA x, .int .i64 (decE x)]) ∧ Below w.heap.size w w' := by
  have fb0 : 0 ≤ x / 256 % 64 := Int.emod_nonneg _ (by omega)
  have fb1 : x / 256 % 64 < 64 := Int.emod_lt_of_pos _ (by omega)
  have HF := hide (rdec_facts x0)
  go_enter Try.func97, Try.ntmps97
  go_wp2_with fail
  have HG := hide (HF.out _ _ _ _ rfl rfl rfl rfl)
  clear HF
  generalize (x / 2 % 2 == 1) = l at HG ⊢
  generalize (x / 4 % 2 == 1) = r at HG ⊢
  generalize (x / 8 % 2 == 1) = s at HG ⊢
  generalize x / 256 % 64 = f at fb0 fb1 HG ⊢
  have hr0 : Blk ((w.alloc (.cells #[.bool false, .bool false, .bool false, .bool false, .int .i64 0] 50)).alloc (.cells #[.bool true, .bool l, .bool r, .bool s, .int .i64 f] 50)) w.heap.size 50 #[.bool false, .bool false, .bool false, .bool false, .int .i64 0] := (Blk.new w _ _).alloc _
  have he0 : Blk ((w.alloc (.cells #[.bool false, .bool false, .bool false, .bool false, .int .i64 0] 50)).alloc (.cells #[.bool true, .bool l, .bool r, .bool s, .int .i64 f] 50)) (w.heap.size + 1) 50 #[.bool true, .bool l, .bool r, .bool s, .int .i64 f] := by
    have := Blk.new (w.alloc (.cells #[.bool false, .bool false, .bool false, .bool false, .int .i64 0] 50)) 50 #[.bool true, .bool l, .bool r, .bool s, .int .i64 f]
    rwa [World.size_alloc] at this
  have hB0 : Below w.heap.size w ((w.alloc (.cells #[.bool false, .bool false, .bool false, .bool false, .int .i64 0] 50)).alloc (.cells #[.bool true, .bool l, .bool r, .bool s, .int .i64 f] 50)) := ((Below.refl _ w).alloc (Nat.le_refl _) _).alloc (by simp) _
  have hz0 : w.heap.size + 1 < ((w.alloc (.cells #[.bool false, .bool false, .bool false, .bool false, .int .i64 0] 50)).alloc (.cells #[.bool true, .bool l, .bool r, .bool s, .int .i64 f] 50)).heap.size := by simp
  generalize (w.alloc (.cells #[.bool false, .bool false, .bool false, .bool false, .int .i64 0] 50)).alloc (.cells #[.bool true, .bool l, .bool r, .bool s, .int .i64 f] 50) = W0 at hr0 he0 hB0 hz0 ⊢
  refine (rmay3_any true l r s f _).mono ?_
  rintro e w1 ⟨rfl, hb1⟩
  have hr1 := hr0.below hb1 (by omega)
  have he1 := he0.below hb1 hz0
  have hB1 := hB0.trans (hb1.mono (by omega))
  have hz1 := Nat.lt_of_lt_of_le hz0 hb1.size
  clear hr0 he0 hB0 hz0 hb1
  obtain ⟨c0, c1, c2, c3, c4⟩ := he1.c5
  cases hm : mayB true l r s f with
  | false =>
    obtain ⟨a1, a2⟩ := HG.out.2 (.inl hm)
    have A1 := hide a1
    have A2 := hide a2
    clear a1 a2 hm HG he1
    have HRR := hide hr1
    have HBB := hide hB1
    obtain ⟨r0, r1, r2, r3, r4⟩ := hr1.c5
    have q0 := hr1.frozen 0
    have q1 := hr1.frozen 1
    have q2 := hr1.frozen 2
    have q3 := hr1.frozen 3
    have q4 := hr1.frozen 4
    clear hr1 hB1
    go_wp2_with fail
    have hR5 := ((((HRR.out.set_ 0 (.bool false)).set_ 1 (.bool false)).set_ 2 (.bool false)).set_ 3 (.bool false)).set_ 4 (.int .i64 0)
    exact bodyPost_ret (results_cell_tmp rfl _ _ w.heap.size 50 #[.bool false, .bool false, .bool false, .bool false, .int .i64 0] (0, 0) _ rfl hR5 Try.underlying50 rfl (by kernel_rfl)) rfl ⟨by rw [A1.out, A2.out]; rfl, ((((HBB.out.setCell (p := ⟨w.heap.size, 0, none⟩) (Nat.le_refl _) _).setCell (p := ⟨w.heap.size, 1, none⟩) (Nat.le_refl _) _).setCell (p := ⟨w.heap.size, 2, none⟩) (Nat.le_refl _) _).setCell (p := ⟨w.heap.size, 3, none⟩) (Nat.le_refl _) _).setCell (p := ⟨w.heap.size, 4, none⟩) (Nat.le_refl _) _⟩
  | true =>
    have HM := hide hm
    have HR1 := hide hr1
    have HE1 := hide he1
    have HB1 := hide hB1
    clear hm hr1 he1 hB1
    go_wp2_with fail
    refine (word3_any true l r s f _ HM.out).mono ?_
    rintro e w2 ⟨rfl, hb2⟩
    have hr2 := HR1.out.below hb2 (by omega)
    have hB2 := HB1.out.trans (hb2.mono (by omega))
    have he2 := HE1.out.below hb2 hz1
    obtain ⟨d0, d1, d2, d3, d4⟩ := he2.c5
    clear hb2 HR1 HE1 HB1 he2 c0 c1 c2 c3 c4
    by_cases he : entV true l r s f = x
    · obtain ⟨a1, a2⟩ := HG.out.1 HM.out he
      have A1 := hide a1
      have A2 := hide a2
      have t : (entV true l r s f != x) = false := by rw [he]; simp
      clear a1 a2 HG he HM
      have HRR := hide hr2
      have HBB := hide hB2
      obtain ⟨r0, r1, r2, r3, r4⟩ := hr2.c5
      have q0 := hr2.frozen 0
      have q1 := hr2.frozen 1
      have q2 := hr2.frozen 2
      have q3 := hr2.frozen 3
      have q4 := hr2.frozen 4
      clear hr2 hB2
      go_wp2_with fail
      have hR5 := ((((HRR.out.set_ 0 (.bool true)).set_ 1 (.bool l)).set_ 2 (.bool r)).set_ 3 (.bool s)).set_ 4 (.int .i64 f)
      exact bodyPost_ret (results_cell_tmp rfl _ _ w.heap.size 50 #[.bool true, .bool l, .bool r, .bool s, .int .i64 f] (0, 0) _ rfl hR5 Try.underlying50 rfl (by kernel_rfl)) rfl ⟨by rw [A1.out, A2.out]; rfl, ((((HBB.out.setCell (p := ⟨w.heap.size, 0, none⟩) (Nat.le_refl _) _).setCell (p := ⟨w.heap.size, 1, none⟩) (Nat.le_refl _) _).setCell (p := ⟨w.heap.size, 2, none⟩) (Nat.le_refl _) _).setCell (p := ⟨w.heap.size, 3, none⟩) (Nat.le_refl _) _).setCell (p := ⟨w.heap.size, 4, none⟩) (Nat.le_refl _) _⟩
    · obtain ⟨a1, a2⟩ := HG.out.2 (.inr he)
      have A1 := hide a1
      have A2 := hide a2
      have t : (entV true l r s f != x) = true := bne_iff_ne.2 he
      clear a1 a2 HG he HM d0 d1 d2 d3 d4
      have HRR := hide hr2
      have HBB := hide hB2
      obtain ⟨r0, r1, r2, r3, r4⟩ := hr2.c5
      have q0 := hr2.frozen 0
      have q1 := hr2.frozen 1
      have q2 := hr2.frozen 2
      have q3 := hr2.frozen 3
      have q4 := hr2.frozen 4
      clear hr2 hB2
      go_wp2_with fail
      have hR5 := ((((HRR.out.set_ 0 (.bool false)).set_ 1 (.bool false)).set_ 2 (.bool false)).set_ 3 (.bool false)).set_ 4 (.int .i64 0)
      exact bodyPost_ret (results_cell_tmp rfl _ _ w.heap.size 50 #[.bool false, .bool false, .bool false, .bool false, .int .i64 0] (0, 0) _ rfl hR5 Try.underlying50 rfl (by kernel_rfl)) rfl ⟨by rw [A1.out, A2.out]; rfl, ((((HBB.out.setCell (p := ⟨w.heap.size, 0, none⟩) (Nat.le_refl _) _).setCell (p := ⟨w.heap.size, 1, none⟩) (Nat.le_refl _) _).setCell (p := ⟨w.heap.size, 2, none⟩) (Nat.le_refl _) _).setCell (p := ⟨w.heap.size, 3, none⟩) (Nat.le_refl _) _).setCell (p := ⟨w.heap.size, 4, none⟩) (Nat.le_refl _) _⟩
theorem rdec_any (x : Int) (x0 : 0 ≤ x) (x1 : x < 18446744073709551616) (w : World) :
    Calls Try.prog 97 #[.int .u64 x] w fun e w' => e = .returned (.tuple #[decA x, .int .i64 (decE x)]) ∧ Below w.heap.size w w' := by
  by_cases h : x = 0
  · subst h; exact rdec_zero w
  · exact rdec_pos x (by omega) x1 w
end Go.Proofs.Ytlfenakabedmfaa
