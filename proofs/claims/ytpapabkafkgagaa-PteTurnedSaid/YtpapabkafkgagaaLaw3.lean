/- The walks of the statements of chapter 3: each returns true. -/
import Derived.Test.YtpapabkafkgagaaRef3
import Derived.Test.YtpapabkafkgagaaLaw0
import Derived.Deep.RegionHeld3
namespace Go.Proofs.Ytpapabkafkgagaa
open Go.RowKit

/-! What was laid is read again. -/
theorem bit_val (x : Int) : bitB x 0 = (x % 2 == 1) := by unfold bitB; simp
theorem dec_enc {v l r s : Bool} {f : Int} (h : mayB v l r s f = true) : decA (entV v l r s f) = .agg #[.bool v, .bool l, .bool r, .bool s, .int .i64 f] ∧ decE (entV v l r s f) = 0 ∧ 0 ≤ entV v l r s f ∧ entV v l r s f < 16384 := by
  cases v
  · have h2 : l = false ∧ r = false ∧ s = false ∧ f = 0 := by simpa [mayB, and_assoc] using h
    obtain ⟨rfl, rfl, rfl, rfl⟩ := h2
    exact ⟨rfl, rfl, by decide, by decide⟩
  · have h2 : (0 ≤ f ∧ f < 64) ∧ l = (r || s) := by simpa [mayB] using h
    obtain ⟨⟨h0, h1⟩, rfl⟩ := h2
    obtain ⟨x, hx⟩ : ∃ x, entV true (r || s) r s f = x := ⟨_, rfl⟩
    rw [hx]
    have hb : bitB x 0 = true ∧ bitB x 1 = (r || s) ∧ bitB x 2 = r ∧ bitB x 3 = s ∧ x / 256 % 64 = f ∧ 0 ≤ x ∧ x < 16384 := by
      rw [bit_val, bit1, bit2, bit3]
      cases r <;> cases s <;> simp [entV] at hx <;> simp <;> omega
    obtain ⟨b0, b1, b2, b3, b4, b5, b6⟩ := hb
    have hd : decOk x = true := by
      unfold decOk entOf
      rw [b0, b1, b2, b3, b4, hx, h, beq_self_eq_true]; rfl
    unfold decA decE
    rw [hd, b0, b1, b2, b3, b4]
    exact ⟨rfl, rfl, b5, b6⟩
/-- What is read is an entry's five cells; if the word is an entry's, it may be, and its word is that word. -/
theorem decA_form (x : Int) : ∃ v l r s f, decA x = .agg #[.bool v, .bool l, .bool r, .bool s, .int .i64 f] ∧ ((decE x = 0 ∧ mayB v l r s f = true ∧ entV v l r s f = x) ∨ decE x = 5) := by
  cases h : decOk x with
  | true =>
    refine ⟨_, _, _, _, _, by unfold decA; rw [h]; rfl, .inl ⟨by unfold decE; rw [h]; rfl, ?_, ?_⟩⟩
    · unfold decOk at h
      exact (Bool.and_eq_true_iff.1 h).2
    · unfold decOk at h
      exact eq_of_beq (Bool.and_eq_true_iff.1 h).1
  | false => exact ⟨_, _, _, _, _, by unfold decA; rw [h]; rfl, .inr (by unfold decE; rw [h]; rfl)⟩
theorem awake3 (w : World) : Calls Try.prog 16 #[] w fun e w' => e = .returned (.bool true) ∧ Below w.heap.size w w' := by
  have e1 : encV true true true false 5 = 1287 := by decide +kernel
  have e2 : encE true true true false 5 = 0 := by decide +kernel
  have e3 : decE 3 = 5 := by decide +kernel
  have e4 : decA 3 = .agg #[.bool false, .bool false, .bool false, .bool false, .int .i64 0] := rfl
  have E1 := hide e1
  have E2 := hide e2
  have E3 := hide e3
  have E4 := hide e4
  clear e1 e2 e3 e4
  go_enter Try.func16, Try.ntmps16
  go_wp2_with fail
  refine (enc_any true true true false 5 _).mono ?_
  rintro e w1 ⟨rfl, hb1⟩
  rw [E1.out, E2.out]
  go_wp2_with fail
  refine (dec_any 3 (by omega) (by omega) _).mono ?_
  rintro e w2 ⟨rfl, hb2⟩
  rw [E3.out, E4.out]
  go_wp2_with fail
  go_ret
  exact ⟨rfl, (hb1.trans (hb2.mono hb1.size)).alloc (Nat.le_trans hb1.size hb2.size) _⟩
set_option maxHeartbeats 1000000 in
theorem law_PteLays (v l r s : Bool) (f : Int) (_ : (Lit.int .i64 f).wf = true) (w : World) :
    Calls Try.prog 3 #[.agg #[.bool v, .bool l, .bool r, .bool s, .int .i64 f]] w fun e w' => e = .returned (.bool true) ∧ Below w.heap.size w w' := by
  obtain ⟨a, ha⟩ : ∃ a, encV v l r s f = a := ⟨_, rfl⟩
  obtain ⟨b, hb⟩ : ∃ b, encE v l r s f = b := ⟨_, rfl⟩
  obtain ⟨m, hm⟩ : ∃ m, mayB v l r s f = m := ⟨_, rfl⟩
  have HA := hide ha
  have HB := hide hb
  have HM := hide hm
  clear ha hb hm
  go_enter Try.func3, Try.ntmps3
  go_wp2_with fail
  have hk := Blk.new w 23 #[.bool v, .bool l, .bool r, .bool s, .int .i64 f]
  have hB := (Below.refl w.heap.size w).alloc (Nat.le_refl _) (.cells #[.bool v, .bool l, .bool r, .bool s, .int .i64 f] 23)
  have hz : w.heap.size < (w.alloc (.cells #[.bool v, .bool l, .bool r, .bool s, .int .i64 f] 23)).heap.size := by simp
  generalize w.alloc (.cells #[.bool v, .bool l, .bool r, .bool s, .int .i64 f] 23) = W at hk hB hz ⊢
  refine (enc_any v l r s f _).mono ?_
  rintro e w1 ⟨rfl, hb1⟩
  rw [HA.out, HB.out]
  have hk1 := hk.below hb1 hz
  have hz1 := Nat.lt_of_lt_of_le hz hb1.size
  have hB1 := hB.trans (hb1.mono (by omega))
  clear hk hz hB hb1
  obtain ⟨c0, c1, c2, c3, c4⟩ := hk1.c5
  go_wp2_with fail
  refine (renc_any v l r s f _).mono ?_
  rintro e w2 ⟨rfl, hb2⟩
  rw [HA.out, HB.out]
  have hk2 := hk1.below hb2 hz1
  have hz2 := Nat.lt_of_lt_of_le hz1 hb2.size
  have hB2 := hB1.trans (hb2.mono (by omega))
  clear hk1 hz1 hB1 hb2 c0 c1 c2 c3 c4
  obtain ⟨c0, c1, c2, c3, c4⟩ := hk2.c5
  clear hk2
  obtain ⟨g, hg⟩ : ∃ g, w.heap.size = g := ⟨_, rfl⟩
  rw [hg] at hz2 c0 c1 c2 c3 c4 ⊢
  have HG := hide hg
  clear hg
  cases m
  all_goals
    go_wp2_with fail
    go_region_held3 (fun w' => Below w.heap.size w w' ∧ g < w'.heap.size ∧ w'.cell? ⟨g, 0, none⟩ = some (.bool v) ∧ w'.cell? ⟨g, 1, none⟩ = some (.bool l) ∧ w'.cell? ⟨g, 2, none⟩ = some (.bool r) ∧ w'.cell? ⟨g, 3, none⟩ = some (.bool s) ∧ w'.cell? ⟨g, 4, none⟩ = some (.int .i64 f))
      (first | exact ⟨hB2.drew, hz2, c0, c1, c2, c3, c4⟩ | exact keepS5 hbX (by assumption))
      (first
        | (go_at_call 13; refine (num_any _ _).mono ?_; rintro e w' ⟨rfl, rfl⟩)
        | (go_at_call 14; refine (pmay_any v l r s f _).mono ?_; rintro e w3 ⟨rfl, hbX⟩; rw [HM.out])
        | (go_at_call 15; refine (rmay3_any v l r s f _).mono ?_; rintro e w3 ⟨rfl, hbX⟩; rw [HM.out])
        | (go_at_call 16; refine (awake3 _).mono ?_; rintro e w3 ⟨rfl, hbX⟩))
    go_wp2
    go_ret
    rename_i hH
    exact ⟨rfl, hH.1⟩
set_option maxHeartbeats 1000000 in
theorem law_PteReads (x : Int) (hx : (Lit.int .u64 x).wf = true) (w : World) :
    Calls Try.prog 4 #[.int .u64 x] w fun e w' => e = .returned (.bool true) ∧ Below w.heap.size w w' := by
  obtain ⟨x0, x1⟩ := wfu hx
  clear hx
  obtain ⟨v, l, r, s, f, ha, _⟩ := decA_form x
  obtain ⟨b, hb⟩ : ∃ b, decE x = b := ⟨_, rfl⟩
  have HA := hide ha
  have HB := hide hb
  clear ha hb
  go_enter Try.func4, Try.ntmps4
  go_wp2_with fail
  refine (dec_any x x0 x1 _).mono ?_
  rintro e w1 ⟨rfl, hb1⟩
  rw [HA.out, HB.out]
  go_wp2_with fail
  refine (rdec_any x x0 x1 _).mono ?_
  rintro e w2 ⟨rfl, hb2⟩
  rw [HA.out, HB.out]
  obtain ⟨hz2, hk2⟩ := blk_after hb2
  obtain ⟨c0, c1, c2, c3, c4⟩ := hk2.c5
  have hB2 : Below w.heap.size w w2 := (hb1.alloc hb1.size _).trans (hb2.mono (by have := hb1.size; simp; omega))
  clear hb2 hk2
  go_wp2_with fail
  refine (num_any _ _).mono ?_
  rintro e w' ⟨rfl, rfl⟩
  go_wp2_with fail
  refine (awake3 _).mono ?_
  rintro e w5 ⟨rfl, hb5⟩
  go_wp2_with fail
  go_ret
  exact ⟨rfl, (hB2.alloc hB2.size _).trans (hb5.mono (by have := hB2.size; simp; omega))⟩

/-! PteTurned -/
theorem xor_bit {x : Int} {b : Nat} (x0 : 0 ≤ x) (x1 : x < 16384) (hx : ∀ j, bitB x j = true → okbit j) (hb : b < 64) (hn : ¬ okbit b) :
    ∃ y : Int, bits .xor .u64 x (IntKind.u64.wrap (2 ^ b)) = y ∧ 0 ≤ y ∧ y < 18446744073709551616 ∧ bitB y b = true := by
  obtain ⟨n, rfl⟩ := Int.eq_ofNat_of_zero_le x0
  have hp : (2 : Nat) ^ b < 2 ^ 64 := Nat.pow_lt_pow_right (by omega) hb
  have hp' := hp
  simp only [Nat.reducePow] at hp
  have e : IntKind.u64.wrap (2 ^ b) = ((2 ^ b : Nat) : Int) := by
    have : (2 : Int) ^ b = ((2 ^ b : Nat) : Int) := by rw [Int.natCast_pow]; rfl
    rw [IntKind.wrap_u64, this]
    exact Int.emod_eq_of_lt (Int.natCast_nonneg _) (Int.ofNat_lt.2 hp)
  rw [e, u64_xor_nat n (2 ^ b) (by omega) hp]
  have hlt : n ^^^ 2 ^ b < 2 ^ 64 := Nat.xor_lt_two_pow (by simp only [Nat.reducePow]; omega) hp'
  simp only [Nat.reducePow] at hlt
  refine ⟨_, rfl, by omega, by omega, ?_⟩
  rw [bitB_test, Nat.testBit_xor, Nat.testBit_two_pow_self]
  have : n.testBit b = false := by
    cases h : n.testBit b with
    | false => rfl
    | true => exact absurd (hx b (by rw [bitB_test]; exact h)) hn
  rw [this]
  rfl
theorem ent_bits {x : Int} (x0 : 0 ≤ x) (he : entOf x = x) (j : Nat) (hb : bitB x j = true) : okbit j :=
  Decidable.byContradiction fun hn => ent_bad x0 hb hn he
theorem ent_of_enc {v l r s : Bool} {f : Int} (h : mayB v l r s f = true) : entOf (entV v l r s f) = entV v l r s f := by
  obtain ⟨h1, h2, _, _⟩ := dec_enc h
  unfold decE at h2
  cases hd : decOk (entV v l r s f) with
  | true =>
    unfold decOk at hd
    exact eq_of_beq (Bool.and_eq_true_iff.1 hd).1
  | false => rw [hd] at h2; simp at h2
theorem dec_bad {y : Int} (y0 : 0 ≤ y) {b : Nat} (hb : bitB y b = true) (hn : ¬ okbit b) : decE y = 5 := by
  unfold decE decOk
  rw [beq_eq_false_iff_ne.2 (ent_bad y0 hb hn), Bool.false_and]
  rfl
set_option maxHeartbeats 1000000 in
theorem law_PteTurned (v l r s : Bool) (f q : Int) (_ : (Lit.int .i64 f).wf = true) (_ : (Lit.int .i64 q).wf = true) (w : World) :
    Calls Try.prog 6 #[.agg #[.bool v, .bool l, .bool r, .bool s, .int .i64 f], .int .i64 q] w fun e w' => e = .returned (.bool true) ∧ Below w.heap.size w w' := by
  cases hm : mayB v l r s f with
  | false =>
    have e1 : encE v l r s f = 5 := by unfold encE; rw [hm]; rfl
    have E1 := hide e1
    clear e1 hm
    go_enter Try.func6, Try.ntmps6
    go_wp2_with fail
    refine (enc_any v l r s f _).mono ?_
    rintro e w1 ⟨rfl, hb1⟩
    rw [E1.out]
    have hB1 := ((Below.refl w.heap.size w).alloc (Nat.le_refl _) (.cells #[.bool v, .bool l, .bool r, .bool s, .int .i64 f] 23)).trans (hb1.mono (by simp))
    go_wp2_with fail
    refine (awake3 _).mono ?_
    rintro e w5 ⟨rfl, hb5⟩
    go_wp2_with fail
    go_ret
    exact ⟨rfl, hB1.trans (hb5.mono hB1.size)⟩
  | true =>
    have e1 : encE v l r s f = 0 := by unfold encE; rw [hm]; rfl
    have e2 : encV v l r s f = entV v l r s f := by unfold encV; rw [hm]; rfl
    obtain ⟨_, _, x0, x1⟩ := dec_enc hm
    have hxb := ent_bits x0 (ent_of_enc hm)
    have E1 := hide e1
    have E2 := hide e2
    have HX := hide hxb
    clear e1 e2 hm hxb
    have hL := fun W => low_any q 54 W (by omega) (by omega)
    have bL := low_bd q (n := 54) (by omega)
    have HL := hide hL
    clear hL
    generalize lowV q 54 = b at bL HL
    generalize entV v l r s f = x at x0 x1 E2 HX
    obtain ⟨b0, b1⟩ := bL
    by_cases hb : b < 4
    all_goals
      have hc : ∃ c : Int, (if b < 4 then b + 4 else b + 10) = c ∧ 0 ≤ c ∧ c < 64 ∧ ¬ okbit c.toNat := by
        refine ⟨_, rfl, ?_, ?_, ?_⟩
        · split <;> omega
        · split <;> omega
        · unfold okbit; split <;> omega
      obtain ⟨c, hc1, hc2, hc3, hc4⟩ := hc
      obtain ⟨y, hy, y0, y1, hyb⟩ := xor_bit (b := c.toNat) x0 x1 HX.out (by omega) hc4
      have hd := dec_bad y0 hyb hc4
      obtain ⟨dv, dl, dr, ds, df, hda, _⟩ := decA_form y
      have HY := hide hy
      have HD := hide hd
      have HDA := hide hda
      clear hy hyb hd hda hc4
      first | rw [if_pos hb] at hc1 | rw [if_neg hb] at hc1
      have HC := hide hc1
      clear hc1
      go_enter Try.func6, Try.ntmps6
      go_wp2_with fail
      refine (enc_any v l r s f _).mono ?_
      rintro e w1 ⟨rfl, hb1⟩
      rw [E1.out, E2.out]
      have hB1 := ((Below.refl w.heap.size w).alloc (Nat.le_refl _) (.cells #[.bool v, .bool l, .bool r, .bool s, .int .i64 f] 23)).trans (hb1.mono (by simp))
      go_wp2_with fail
      refine (HL.out _).mono ?_
      rintro e w' ⟨rfl, rfl⟩
      go_wp2_with fail
      rw [HC.out, HY.out]
      refine (dec_any y y0 y1 _).mono ?_
      rintro e w2 ⟨rfl, hb2⟩
      rw [HD.out, HDA.out]
      have hB2 := hB1.trans (hb2.mono hB1.size)
      go_wp2_with fail
      refine (awake3 _).mono ?_
      rintro e w5 ⟨rfl, hb5⟩
      go_wp2_with fail
      go_ret
      exact ⟨rfl, (hB2.alloc hB2.size _).trans (hb5.mono (by have := hB2.size; simp; omega))⟩

/-! PteBack -/
set_option maxHeartbeats 1000000 in
theorem law_PteBack (v l r s : Bool) (f x : Int) (_ : (Lit.int .i64 f).wf = true) (hx : (Lit.int .u64 x).wf = true) (w : World) :
    Calls Try.prog 5 #[.agg #[.bool v, .bool l, .bool r, .bool s, .int .i64 f], .int .u64 x] w fun e w' => e = .returned (.bool true) ∧ Below w.heap.size w w' := by
  obtain ⟨x0, x1⟩ := wfu hx
  clear hx
  obtain ⟨zv, zl, zr, zs, zf, hz, hzc⟩ := decA_form x
  obtain ⟨a, ha⟩ : ∃ a, encV v l r s f = a := ⟨_, rfl⟩
  have hfact : 0 ≤ a ∧ a < 16384 ∧ ((mayB v l r s f = true ∧ encE v l r s f = 0 ∧ decA a = .agg #[.bool v, .bool l, .bool r, .bool s, .int .i64 f] ∧ decE a = 0) ∨ (mayB v l r s f = false ∧ encE v l r s f = 5 ∧ decA a = .agg #[.bool false, .bool false, .bool false, .bool false, .int .i64 0] ∧ decE a = 0)) := by
    cases hm : mayB v l r s f with
    | true =>
      obtain ⟨h1, h2, h3, h4⟩ := dec_enc hm
      have e2 : encV v l r s f = entV v l r s f := by unfold encV; rw [hm]; rfl
      rw [e2] at ha
      subst ha
      exact ⟨h3, h4, .inl ⟨rfl, by unfold encE; rw [hm]; rfl, h1, h2⟩⟩
    | false =>
      have e2 : encV v l r s f = 0 := by unfold encV; rw [hm]; rfl
      rw [e2] at ha
      subst ha
      exact ⟨by omega, by omega, .inr ⟨rfl, by unfold encE; rw [hm]; rfl, rfl, rfl⟩⟩
  obtain ⟨a0, a1, hcase⟩ := hfact
  have HA := hide ha
  have HZ := hide hz
  clear ha hz
  rcases hzc with ⟨hx0, hzm, hze⟩ | hx5
  · have HX := hide hx0
    have HZM := hide hzm
    have HZV := hide (show encV zv zl zr zs zf = x by unfold encV; rw [hzm]; exact hze)
    have HZE := hide (show encE zv zl zr zs zf = 0 by unfold encE; rw [hzm]; rfl)
    clear hx0 hzm hze
    rcases hcase with ⟨hm, he, hd, hde⟩ | ⟨hm, he, hd, hde⟩
    all_goals
      have HM := hide hm
      have HE := hide he
      have HD := hide hd
      have HDE := hide hde
      clear hm he hd hde
      go_enter Try.func5, Try.ntmps5
      go_wp2_with fail
      have hk := Blk.new w 23 #[.bool v, .bool l, .bool r, .bool s, .int .i64 f]
      have hB := (Below.refl w.heap.size w).alloc (Nat.le_refl _) (.cells #[.bool v, .bool l, .bool r, .bool s, .int .i64 f] 23)
      have hz : w.heap.size < (w.alloc (.cells #[.bool v, .bool l, .bool r, .bool s, .int .i64 f] 23)).heap.size := by simp
      generalize w.alloc (.cells #[.bool v, .bool l, .bool r, .bool s, .int .i64 f] 23) = W at hk hB hz ⊢
      refine (enc_any v l r s f _).mono ?_
      rintro e w1 ⟨rfl, hb1⟩
      rw [HA.out, HE.out]
      have hk1 := hk.below hb1 hz
      have hz1 := Nat.lt_of_lt_of_le hz hb1.size
      have hB1 := hB.trans (hb1.mono (by omega))
      clear hk hz hB hb1
      obtain ⟨c0, c1, c2, c3, c4⟩ := hk1.c5
      go_wp2_with fail
      refine (dec_any a a0 (by omega) _).mono ?_
      rintro e w2 ⟨rfl, hb2⟩
      rw [HD.out, HDE.out]
      have hk2 := hk1.below hb2 hz1
      have hz2 := Nat.lt_of_lt_of_le hz1 hb2.size
      have hB2 := hB1.trans (hb2.mono (by omega))
      clear hk1 hz1 hB1 hb2 c0 c1 c2 c3 c4
      obtain ⟨c0, c1, c2, c3, c4⟩ := hk2.c5
      have HK2 := hide hk2
      have HB2 := hide hB2
      clear hk2 hB2
      go_wp2_with fail
      refine (pmay_any v l r s f _).mono ?_
      rintro e w3 ⟨rfl, hb3⟩
      rw [HM.out]
      have hB3 := (HB2.out.alloc HB2.out.size _).trans (hb3.mono (by have := HB2.out.size; simp; omega))
      clear hb3 HK2 HB2 c0 c1 c2 c3 c4
      go_wp2_with fail
      refine (dec_any x x0 x1 _).mono ?_
      rintro e w4 ⟨rfl, hb4⟩
      rw [HZ.out, HX.out]
      have hB4 := hB3.trans (hb4.mono hB3.size)
      clear hb4 hB3
      go_wp2_with fail
      have hk5 := Blk.new w4 23 #[.bool zv, .bool zl, .bool zr, .bool zs, .int .i64 zf]
      have hz5 : w4.heap.size < (w4.alloc (.cells #[.bool zv, .bool zl, .bool zr, .bool zs, .int .i64 zf] 23)).heap.size := by simp
      have hB5 := hB4.alloc hB4.size (.cells #[.bool zv, .bool zl, .bool zr, .bool zs, .int .i64 zf] 23)
      generalize w4.alloc (.cells #[.bool zv, .bool zl, .bool zr, .bool zs, .int .i64 zf] 23) = W5 at hk5 hz5 hB5 ⊢
      refine (enc_any zv zl zr zs zf _).mono ?_
      rintro e w6 ⟨rfl, hb6⟩
      have hk6 := hk5.below hb6 hz5
      have hB6 := hB5.trans (hb6.mono hB5.size)
      clear hk5 hz5 hB5 hb6
      obtain ⟨c0, c1, c2, c3, c4⟩ := hk6.c5
      rw [HZE.out, HZV.out]
      go_wp2_with fail
      refine (pmay_any zv zl zr zs zf _).mono ?_
      rintro e w7 ⟨rfl, hb7⟩
      rw [HZM.out]
      have hB7 := hB6.trans (hb7.mono hB6.size)
      go_wp2_with fail
      refine (awake3 _).mono ?_
      rintro e w8 ⟨rfl, hb8⟩
      go_wp2_with fail
      go_ret
      exact ⟨rfl, hB7.trans (hb8.mono hB7.size)⟩
  · have HX := hide hx5
    clear hx5
    rcases hcase with ⟨hm, he, hd, hde⟩ | ⟨hm, he, hd, hde⟩
    all_goals
      have HM := hide hm
      have HE := hide he
      have HD := hide hd
      have HDE := hide hde
      clear hm he hd hde
      go_enter Try.func5, Try.ntmps5
      go_wp2_with fail
      have hk := Blk.new w 23 #[.bool v, .bool l, .bool r, .bool s, .int .i64 f]
      have hB := (Below.refl w.heap.size w).alloc (Nat.le_refl _) (.cells #[.bool v, .bool l, .bool r, .bool s, .int .i64 f] 23)
      have hz : w.heap.size < (w.alloc (.cells #[.bool v, .bool l, .bool r, .bool s, .int .i64 f] 23)).heap.size := by simp
      generalize w.alloc (.cells #[.bool v, .bool l, .bool r, .bool s, .int .i64 f] 23) = W at hk hB hz ⊢
      refine (enc_any v l r s f _).mono ?_
      rintro e w1 ⟨rfl, hb1⟩
      rw [HA.out, HE.out]
      have hk1 := hk.below hb1 hz
      have hz1 := Nat.lt_of_lt_of_le hz hb1.size
      have hB1 := hB.trans (hb1.mono (by omega))
      clear hk hz hB hb1
      obtain ⟨c0, c1, c2, c3, c4⟩ := hk1.c5
      go_wp2_with fail
      refine (dec_any a a0 (by omega) _).mono ?_
      rintro e w2 ⟨rfl, hb2⟩
      rw [HD.out, HDE.out]
      have hk2 := hk1.below hb2 hz1
      have hz2 := Nat.lt_of_lt_of_le hz1 hb2.size
      have hB2 := hB1.trans (hb2.mono (by omega))
      clear hk1 hz1 hB1 hb2 c0 c1 c2 c3 c4
      obtain ⟨c0, c1, c2, c3, c4⟩ := hk2.c5
      have HK2 := hide hk2
      have HB2 := hide hB2
      clear hk2 hB2
      go_wp2_with fail
      refine (pmay_any v l r s f _).mono ?_
      rintro e w3 ⟨rfl, hb3⟩
      rw [HM.out]
      have hB3 := (HB2.out.alloc HB2.out.size _).trans (hb3.mono (by have := HB2.out.size; simp; omega))
      clear hb3 HK2 HB2 c0 c1 c2 c3 c4
      go_wp2_with fail
      refine (dec_any x x0 x1 _).mono ?_
      rintro e w4 ⟨rfl, hb4⟩
      rw [HZ.out, HX.out]
      have hB4 := hB3.trans (hb4.mono hB3.size)
      clear hb4 hB3
      go_wp2_with fail
      have hk5 := Blk.new w4 23 #[.bool zv, .bool zl, .bool zr, .bool zs, .int .i64 zf]
      have hz5 : w4.heap.size < (w4.alloc (.cells #[.bool zv, .bool zl, .bool zr, .bool zs, .int .i64 zf] 23)).heap.size := by simp
      have hB5 := hB4.alloc hB4.size (.cells #[.bool zv, .bool zl, .bool zr, .bool zs, .int .i64 zf] 23)
      generalize w4.alloc (.cells #[.bool zv, .bool zl, .bool zr, .bool zs, .int .i64 zf] 23) = W5 at hk5 hz5 hB5 ⊢
      refine (enc_any zv zl zr zs zf _).mono ?_
      rintro e w6 ⟨rfl, hb6⟩
      have hk6 := hk5.below hb6 hz5
      have hB6 := hB5.trans (hb6.mono hB5.size)
      clear hk5 hz5 hB5 hb6
      obtain ⟨c0, c1, c2, c3, c4⟩ := hk6.c5
      go_wp2_with fail
      refine (awake3 _).mono ?_
      rintro e w8 ⟨rfl, hb8⟩
      go_wp2_with fail
      go_ret
      exact ⟨rfl, hB6.trans (hb8.mono hB6.size)⟩
end Go.Proofs.Ytpapabkafkgagaa
