/- The walks of the statements of chapter 1: each returns true. -/
import Derived.Test.YtdmpdfogilcjnaaRef1b
import Derived.Test.YtdmpdfogilcjnaaLaw0
namespace Go.Proofs.Ytdmpdfogilcjnaa
open Go.RowKit

theorem mayk {a n : Int} (h1 : 0 ≤ a) (h2 : a ≤ 63) (h3 : 1 ≤ n) (h4 : n ≤ 64) (h5 : a + n ≤ 64) : MayF a n := ⟨h1, h2, h3, h4, h5⟩
theorem awake1 (w : World) : Calls Try.prog 30 #[] w fun e w' => e = .returned (.bool true) ∧ Below w.heap.size w w' := by
  have e1 : fldV 43981 4 8 = 188 := by decide +kernel
  have e2 : putV 0 60 4 15 = 17293822569102704640 := by decide +kernel
  have e3 : onesV 3 = 7 := by decide +kernel
  go_enter Try.func30, Try.ntmps30
  go_wp2_with fail
  refine (field_yes 43981 4 8 _ (by omega) (by omega) (mayk (by omega) (by omega) (by omega) (by omega) (by omega))).mono ?_
  rintro e w' ⟨rfl, rfl⟩
  rw [e1]
  go_wp2_with fail
  refine (with_yes 0 60 4 15 _ (by omega) (by omega) (mayk (by omega) (by omega) (by omega) (by omega) (by omega)) (by omega) (by decide)).mono ?_
  rintro e w1 ⟨rfl, hb1⟩
  rw [e2]
  go_wp2_with fail
  refine (ones_any 3 _).mono ?_
  rintro e w' ⟨rfl, rfl⟩
  rw [e3]
  go_wp2_with fail
  go_ret
  exact ⟨rfl, hb1⟩
theorem law_WordFields (x a n : Int) (hx : (Lit.int .u64 x).wf = true) (_ : (Lit.int .i64 a).wf = true) (_ : (Lit.int .i64 n).wf = true) (w : World) :
    Calls Try.prog 7 #[.int .u64 x, .int .i64 a, .int .i64 n] w fun e w' => e = .returned (.bool true) ∧ Below w.heap.size w w' := by
  obtain ⟨x0, x1⟩ := wfu hx
  clear hx
  by_cases hm : MayF a n
  · have H := hide hm
    clear hm
    go_enter Try.func7, Try.ntmps7
    go_wp2_with fail
    refine (field_yes x a n _ x0 x1 H.out).mono ?_
    rintro e w' ⟨rfl, rfl⟩
    go_wp2_with fail
    refine (rfield_yes x a n _ x0 x1 H.out).mono ?_
    rintro e w1 ⟨rfl, hb1⟩
    go_wp2_with fail
    refine (num_any _ _).mono ?_
    rintro e w' ⟨rfl, rfl⟩
    go_wp2_with fail
    refine (awake1 _).mono ?_
    rintro e w3 ⟨rfl, hb3⟩
    go_wp2_with fail
    go_ret
    exact ⟨rfl, hb1.trans (hb3.mono hb1.size)⟩
  · have H := hide hm
    clear hm
    go_enter Try.func7, Try.ntmps7
    go_wp2_with fail
    refine (field_no x a n _ H.out).mono ?_
    rintro e w' ⟨rfl, rfl⟩
    go_wp2_with fail
    refine (rfield_no x a n _ H.out).mono ?_
    rintro e w' ⟨rfl, rfl⟩
    go_wp2_with fail
    refine (num_any _ _).mono ?_
    rintro e w' ⟨rfl, rfl⟩
    go_wp2_with fail
    refine (awake1 _).mono ?_
    rintro e w3 ⟨rfl, hb3⟩
    go_wp2_with fail
    go_ret
    exact ⟨rfl, hb3⟩
theorem law_WordPuts (x a n v : Int) (hx : (Lit.int .u64 x).wf = true) (_ : (Lit.int .i64 a).wf = true) (_ : (Lit.int .i64 n).wf = true) (hv : (Lit.int .u64 v).wf = true) (w : World) :
    Calls Try.prog 8 #[.int .u64 x, .int .i64 a, .int .i64 n, .int .u64 v] w fun e w' => e = .returned (.bool true) ∧ Below w.heap.size w w' := by
  obtain ⟨x0, x1⟩ := wfu hx
  obtain ⟨v0, v1⟩ := wfu hv
  clear hx hv
  by_cases hm : MayF a n
  · have H := hide hm
    clear hm
    by_cases hs : v < 2 ^ n.toNat
    · have HS := hide hs
      clear hs
      go_enter Try.func8, Try.ntmps8
      go_wp2_with fail
      refine (with_yes x a n v _ x0 x1 H.out v0 HS.out).mono ?_
      rintro e w1 ⟨rfl, hb1⟩
      go_wp2_with fail
      refine (rwith_yes x a n v _ x0 x1 H.out v0 HS.out).mono ?_
      rintro e w2 ⟨rfl, hb2⟩
      have hB2 := hb1.trans (hb2.mono hb1.size)
      go_wp2_with fail
      refine (num_any _ _).mono ?_
      rintro e w' ⟨rfl, rfl⟩
      go_wp2_with fail
      refine (awake1 _).mono ?_
      rintro e w3 ⟨rfl, hb3⟩
      go_wp2_with fail
      go_ret
      exact ⟨rfl, hB2.trans (hb3.mono hB2.size)⟩
    · have HS := hide (Int.not_lt.1 hs)
      clear hs
      go_enter Try.func8, Try.ntmps8
      go_wp2_with fail
      refine (with_big x a n v _ H.out v0 v1 HS.out).mono ?_
      rintro e w1 ⟨rfl, hb1⟩
      go_wp2_with fail
      refine (rwith_big x a n v _ H.out v0 v1 HS.out).mono ?_
      rintro e w2 ⟨rfl, hb2⟩
      have hB2 := hb1.trans (hb2.mono hb1.size)
      go_wp2_with fail
      refine (num_any _ _).mono ?_
      rintro e w' ⟨rfl, rfl⟩
      go_wp2_with fail
      refine (awake1 _).mono ?_
      rintro e w3 ⟨rfl, hb3⟩
      go_wp2_with fail
      go_ret
      exact ⟨rfl, hB2.trans (hb3.mono hB2.size)⟩
  · have H := hide hm
    clear hm
    go_enter Try.func8, Try.ntmps8
    go_wp2_with fail
    refine (with_no x a n v _ H.out).mono ?_
    rintro e w' ⟨rfl, rfl⟩
    go_wp2_with fail
    refine (rwith_no x a n v _ H.out).mono ?_
    rintro e w' ⟨rfl, rfl⟩
    go_wp2_with fail
    refine (num_any _ _).mono ?_
    rintro e w' ⟨rfl, rfl⟩
    go_wp2_with fail
    refine (awake1 _).mono ?_
    rintro e w3 ⟨rfl, hb3⟩
    go_wp2_with fail
    go_ret
    exact ⟨rfl, hb3⟩
theorem law_WordOnes (n v : Int) (_ : (Lit.int .i64 n).wf = true) (hv : (Lit.int .u64 v).wf = true) (w : World) :
    Calls Try.prog 9 #[.int .i64 n, .int .u64 v] w fun e w' => e = .returned (.bool true) ∧ Below w.heap.size w w' := by
  obtain ⟨v0, v1⟩ := wfu hv
  clear hv
  obtain ⟨fb, hfb⟩ : ∃ fb, decide (v < 2 ^ n.toNat) = fb := ⟨_, rfl⟩
  have HF := hide hfb
  clear hfb
  cases fb
  all_goals
    go_enter Try.func9, Try.ntmps9
    go_wp2_with fail
    refine (ones_any n _).mono ?_
    rintro e w' ⟨rfl, rfl⟩
    go_wp2_with fail
    refine (rones_any n _).mono ?_
    rintro e w' ⟨rfl, rfl⟩
    go_wp2_with fail
    refine (fits_any v n v0 v1 _).mono ?_
    rintro e w1 ⟨rfl, hb1⟩
    rw [HF.out]
    go_wp2_with fail
    refine (rfits_any v n v0 v1 _).mono ?_
    rintro e w2 ⟨rfl, hb2⟩
    rw [HF.out]
    have hB2 := hb1.trans (hb2.mono hb1.size)
    go_wp2_with fail
    refine (awake1 _).mono ?_
    rintro e w3 ⟨rfl, hb3⟩
    go_wp2_with fail
    go_ret
    exact ⟨rfl, hB2.trans (hb3.mono hB2.size)⟩

/-! What was put is taken out again; a field is its two parts. -/
theorem nat_andnot (x a n v : Nat) (hv : v < 2 ^ n) (han : a + n ≤ 64) :
    (2 ^ a * (2 ^ n * (x / 2 ^ (a + n)) + v) + x % 2 ^ a) &&& (2 ^ 64 - 1 - (2 ^ n - 1) * 2 ^ a) = x &&& (2 ^ 64 - 1 - (2 ^ n - 1) * 2 ^ a) := by
  have hlo : x % 2 ^ a < 2 ^ a := Nat.mod_lt _ (Nat.two_pow_pos _)
  have hm : (2 ^ n - 1) * 2 ^ a < 2 ^ 64 := by
    have h1 : (2 ^ n - 1) * 2 ^ a < 2 ^ n * 2 ^ a := Nat.mul_lt_mul_of_pos_right (Nat.sub_lt (Nat.two_pow_pos _) (by omega)) (Nat.two_pow_pos _)
    have h2 : 2 ^ n * 2 ^ a ≤ 2 ^ 64 := by rw [← Nat.pow_add]; exact Nat.pow_le_pow_right (by omega) (by omega)
    omega
  apply Nat.eq_of_testBit_eq
  intro i
  rw [Nat.testBit_and, Nat.testBit_and, Nat.testBit_two_pow_mul_add _ hlo, Nat.sub_sub, Nat.add_comm 1, Nat.testBit_two_pow_sub_succ hm, Nat.mul_comm (2 ^ n - 1), Nat.testBit_two_pow_mul, Nat.testBit_two_pow_sub_one]
  by_cases hi : i < a
  · have hai : ¬ a ≤ i := by omega
    simp [hai, hi, Nat.testBit_mod_two_pow]
  · have hai : a ≤ i := by omega
    rw [if_neg hi, Nat.testBit_two_pow_mul_add _ hv]
    by_cases hj : i - a < n
    · simp [hj, hai]
    · have e : i - a - n + (a + n) = i := by omega
      simp [hj, Nat.testBit_div_two_pow, e]
theorem andnot_put {x a n v : Int} (x0 : 0 ≤ x) (x1 : x < 18446744073709551616) (hm : MayF a n) (v0 : 0 ≤ v) (v1 : v < 2 ^ n.toNat) :
    bits .andNot .u64 (putV x a n v) (IntKind.u64.wrap (onesV n * 2 ^ a.toNat)) = bits .andNot .u64 x (IntKind.u64.wrap (onesV n * 2 ^ a.toNat)) := by
  have hpb := (or_put x0 x1 hm v0 v1).2
  obtain ⟨a0, a1, n0, n1, han⟩ := hm
  obtain ⟨x, rfl⟩ := Int.eq_ofNat_of_zero_le x0
  obtain ⟨v, rfl⟩ := Int.eq_ofNat_of_zero_le v0
  obtain ⟨a, rfl⟩ := Int.eq_ofNat_of_zero_le a0
  obtain ⟨n, rfl⟩ := Int.eq_ofNat_of_zero_le (show 0 ≤ n by omega)
  rw [ones_nat n0 n1]
  rw [put_nat] at hpb ⊢
  simp only [Int.toNat_natCast] at v1 ⊢
  have hv : v < 2 ^ n := by
    have : (v : Int) < ((2 ^ n : Nat) : Int) := by rw [Int.natCast_pow]; exact v1
    omega
  have hm : (2 ^ n - 1) * 2 ^ a < 2 ^ 64 := by
    have h1 : (2 ^ n - 1) * 2 ^ a < 2 ^ n * 2 ^ a := Nat.mul_lt_mul_of_pos_right (Nat.sub_lt (Nat.two_pow_pos _) (by omega)) (Nat.two_pow_pos _)
    have h2 : 2 ^ n * 2 ^ a ≤ 2 ^ 64 := by rw [← Nat.pow_add]; exact Nat.pow_le_pow_right (by omega) (by omega)
    omega
  have key := nat_andnot x a n v hv (by omega)
  generalize 2 ^ a * (2 ^ n * (x / 2 ^ (a + n)) + v) + x % 2 ^ a = p at hpb key ⊢
  have e1 : IntKind.u64.wrap (((2 ^ n - 1 : Nat) : Int) * 2 ^ a) = (((2 ^ n - 1) * 2 ^ a : Nat) : Int) := by
    rw [IntKind.wrap_u64]
    have : ((2 ^ n - 1 : Nat) : Int) * 2 ^ a = (((2 ^ n - 1) * 2 ^ a : Nat) : Int) := by push_cast; rfl
    rw [this]
    simp only [Nat.reducePow] at hm
    omega
  generalize (2 ^ n - 1) * 2 ^ a = m at hm key e1
  simp only [Nat.reducePow, Nat.reduceSub] at hm key
  rw [e1, u64_andNot_nat _ _ (by omega) hm, u64_andNot_nat _ _ (by omega) hm, key]
theorem fld_put {x a n v : Int} (x0 : 0 ≤ x) (hm : MayF a n) (v0 : 0 ≤ v) (v1 : v < 2 ^ n.toNat) : fldV (putV x a n v) a n = v := by
  obtain ⟨a0, a1, n0, n1, han⟩ := hm
  obtain ⟨x, rfl⟩ := Int.eq_ofNat_of_zero_le x0
  obtain ⟨v, rfl⟩ := Int.eq_ofNat_of_zero_le v0
  obtain ⟨a, rfl⟩ := Int.eq_ofNat_of_zero_le a0
  obtain ⟨n, rfl⟩ := Int.eq_ofNat_of_zero_le (show 0 ≤ n by omega)
  rw [put_nat]
  unfold fldV
  simp only [Int.toNat_natCast] at v1 ⊢
  have hv : v < 2 ^ n := by
    have : (v : Int) < ((2 ^ n : Nat) : Int) := by rw [Int.natCast_pow]; exact v1
    omega
  have hlo : x % 2 ^ a < 2 ^ a := Nat.mod_lt _ (Nat.two_pow_pos _)
  have e : (2 ^ a * (2 ^ n * (x / 2 ^ (a + n)) + v) + x % 2 ^ a) / 2 ^ a % 2 ^ n = v := by
    rw [Nat.mul_add_div (Nat.two_pow_pos _), Nat.div_eq_of_lt hlo, Nat.add_zero, Nat.mul_add_mod, Nat.mod_eq_of_lt hv]
  have c : (((2 ^ a * (2 ^ n * (x / 2 ^ (a + n)) + v) + x % 2 ^ a : Nat) : Int)) / 2 ^ a % 2 ^ n = (((2 ^ a * (2 ^ n * (x / 2 ^ (a + n)) + v) + x % 2 ^ a) / 2 ^ a % 2 ^ n : Nat) : Int) := by
    generalize 2 ^ a * (2 ^ n * (x / 2 ^ (a + n)) + v) + x % 2 ^ a = p
    push_cast
    rfl
  rw [c, e]
theorem fld_parts {x a n k : Int} (x0 : 0 ≤ x) (a0 : 0 ≤ a) (n0 : 1 ≤ n) (n1 : n ≤ 16) (k0 : 1 ≤ k) (k1 : k ≤ 16) :
    IntKind.u64.wrap (fldV x a n + IntKind.u64.wrap (fldV x (a + n) k * 2 ^ n.toNat)) = fldV x a (n + k) := by
  obtain ⟨x, rfl⟩ := Int.eq_ofNat_of_zero_le x0
  obtain ⟨a, rfl⟩ := Int.eq_ofNat_of_zero_le a0
  obtain ⟨n, rfl⟩ := Int.eq_ofNat_of_zero_le (show 0 ≤ n by omega)
  obtain ⟨k, rfl⟩ := Int.eq_ofNat_of_zero_le (show 0 ≤ k by omega)
  unfold fldV
  have t1 : ((a : Int) + (n : Int)).toNat = a + n := by omega
  have t2 : ((n : Int) + (k : Int)).toNat = n + k := by omega
  rw [t1, t2]
  simp only [Int.toNat_natCast]
  have c1 : (x : Int) / 2 ^ a % 2 ^ n = ((x / 2 ^ a % 2 ^ n : Nat) : Int) := by push_cast; rfl
  have c2 : (x : Int) / 2 ^ (a + n) % 2 ^ k * 2 ^ n = ((x / 2 ^ (a + n) % 2 ^ k * 2 ^ n : Nat) : Int) := by push_cast; rfl
  have c3 : (x : Int) / 2 ^ a % 2 ^ (n + k) = ((x / 2 ^ a % 2 ^ (n + k) : Nat) : Int) := by push_cast; rfl
  rw [c1, c2, c3]
  have h1 : x / 2 ^ a % 2 ^ n < 2 ^ n := Nat.mod_lt _ (Nat.two_pow_pos _)
  have h2 : x / 2 ^ (a + n) % 2 ^ k < 2 ^ k := Nat.mod_lt _ (Nat.two_pow_pos _)
  have h3 : 2 ^ n ≤ 2 ^ 16 := Nat.pow_le_pow_right (by omega) (by omega)
  have h4 : x / 2 ^ (a + n) % 2 ^ k * 2 ^ n < 2 ^ k * 2 ^ n := Nat.mul_lt_mul_of_pos_right h2 (Nat.two_pow_pos _)
  have h5 : 2 ^ k * 2 ^ n ≤ 2 ^ 32 := by rw [← Nat.pow_add]; exact Nat.pow_le_pow_right (by omega) (by omega)
  have key : x / 2 ^ a % 2 ^ n + x / 2 ^ (a + n) % 2 ^ k * 2 ^ n = x / 2 ^ a % 2 ^ (n + k) := by
    rw [Nat.pow_add 2 a n, ← Nat.div_div_eq_div_mul, Nat.pow_add 2 n k, Nat.mod_mul, Nat.mul_comm (2 ^ n)]
  generalize x / 2 ^ a % 2 ^ n = p at h1 key ⊢
  generalize x / 2 ^ (a + n) % 2 ^ k * 2 ^ n = q at h4 key ⊢
  simp only [Nat.reducePow] at h3 h5
  rw [IntKind.wrap_u64, IntKind.wrap_u64, ← key]
  omega
set_option maxHeartbeats 1000000 in
theorem law_WordBack (x a n v : Int) (hx : (Lit.int .u64 x).wf = true) (_ : (Lit.int .i64 a).wf = true) (_ : (Lit.int .i64 n).wf = true) (hv : (Lit.int .u64 v).wf = true) (w : World) :
    Calls Try.prog 10 #[.int .u64 x, .int .i64 a, .int .i64 n, .int .u64 v] w fun e w' => e = .returned (.bool true) ∧ Below w.heap.size w w' := by
  obtain ⟨x0, x1⟩ := wfu hx
  obtain ⟨v0, v1⟩ := wfu hv
  clear hx hv
  have hA := fun W => low_any a 64 W (by omega) (by omega)
  have hN := fun W => low_any n 64 W (by omega) (by omega)
  have bA := low_bd a (n := 64) (by omega)
  have bN := low_bd n (n := 64) (by omega)
  have HA := hide hA
  have HN := hide hN
  clear hA hN
  generalize lowV a 64 = p at bA HA
  generalize lowV n 64 = q at bN HN
  obtain ⟨p0, p1⟩ := bA
  obtain ⟨q0, q1⟩ := bN
  by_cases hl : 64 - p < 1 + q
  · go_enter Try.func10, Try.ntmps10
    go_wp2_with fail
    refine (HA.out _).mono ?_
    rintro e w' ⟨rfl, rfl⟩
    go_wp2_with fail
    refine (HN.out _).mono ?_
    rintro e w' ⟨rfl, rfl⟩
    go_wp2_with fail
    refine (awake1 _).mono ?_
    rintro e w3 ⟨rfl, hb3⟩
    go_wp2_with fail
    go_ret
    exact ⟨rfl, hb3⟩
  · have hm : MayF p (1 + q) := ⟨by omega, by omega, by omega, by omega, by omega⟩
    have hand := and_ones (n := 1 + q) v0 v1 (by omega) (by omega)
    have y0 : 0 ≤ v % 2 ^ (1 + q).toNat := Int.emod_nonneg _ (Int.ne_of_gt (Int.pow_pos (by omega)))
    have y1 : v % 2 ^ (1 + q).toNat < 2 ^ (1 + q).toNat := Int.emod_lt_of_pos _ (Int.pow_pos (by omega))
    have HAND := hide hand
    generalize v % 2 ^ (1 + q).toNat = y at y0 y1 HAND
    have y2 : y < 18446744073709551616 := Int.lt_of_lt_of_le y1 (pow_le64i (by omega))
    have HY := hide y1
    have HM := hide hm
    have HFP := hide (fld_put x0 hm y0 y1)
    have HAP := hide (andnot_put x0 x1 hm y0 y1)
    have hpb := (or_put x0 x1 hm y0 y1).2
    clear hand hm y1
    go_enter Try.func10, Try.ntmps10
    go_wp2_with fail
    refine (HA.out _).mono ?_
    rintro e w' ⟨rfl, rfl⟩
    go_wp2_with fail
    refine (HN.out _).mono ?_
    rintro e w' ⟨rfl, rfl⟩
    go_wp2_with fail
    refine (ones_any _ _).mono ?_
    rintro e w' ⟨rfl, rfl⟩
    go_wp2_with fail
    rw [HAND.out]
    refine (with_yes x p (1 + q) y _ x0 x1 HM.out y0 HY.out).mono ?_
    rintro e w1 ⟨rfl, hb1⟩
    go_wp2_with fail
    refine (field_yes (putV x p (1 + q) y) p (1 + q) _ hpb.1 hpb.2 HM.out).mono ?_
    rintro e w' ⟨rfl, rfl⟩
    rw [HFP.out]
    go_wp2_with fail
    refine (ones_any _ _).mono ?_
    rintro e w' ⟨rfl, rfl⟩
    have t : (bits .andNot .u64 (putV x p (1 + q) y) (IntKind.u64.wrap (onesV (1 + q) * 2 ^ p.toNat)) == bits .andNot .u64 x (IntKind.u64.wrap (onesV (1 + q) * 2 ^ p.toNat))) = true := by rw [HAP.out]; exact beq_self_eq_true _
    go_wp2_with fail
    refine (awake1 _).mono ?_
    rintro e w3 ⟨rfl, hb3⟩
    go_wp2_with fail
    go_ret
    exact ⟨rfl, hb1.trans (hb3.mono hb1.size)⟩
set_option maxHeartbeats 1000000 in
theorem law_WordParts (x a n k : Int) (hx : (Lit.int .u64 x).wf = true) (_ : (Lit.int .i64 a).wf = true) (_ : (Lit.int .i64 n).wf = true) (_ : (Lit.int .i64 k).wf = true) (w : World) :
    Calls Try.prog 11 #[.int .u64 x, .int .i64 a, .int .i64 n, .int .i64 k] w fun e w' => e = .returned (.bool true) ∧ Below w.heap.size w w' := by
  obtain ⟨x0, x1⟩ := wfu hx
  clear hx
  have hA := fun W => low_any a 32 W (by omega) (by omega)
  have hN := fun W => low_any n 16 W (by omega) (by omega)
  have hK := fun W => low_any k 16 W (by omega) (by omega)
  have bA := low_bd a (n := 32) (by omega)
  have bN := low_bd n (n := 16) (by omega)
  have bK := low_bd k (n := 16) (by omega)
  have HA := hide hA
  have HN := hide hN
  have HK := hide hK
  clear hA hN hK
  generalize lowV a 32 = p at bA HA
  generalize lowV n 16 = q at bN HN
  generalize lowV k 16 = r at bK HK
  obtain ⟨p0, p1⟩ := bA
  obtain ⟨q0, q1⟩ := bN
  obtain ⟨r0, r1⟩ := bK
  have HP := hide (fld_parts (x := x) (a := p) (n := 1 + q) (k := 1 + r) x0 p0 (by omega) (by omega) (by omega) (by omega))
  go_enter Try.func11, Try.ntmps11
  go_wp2_with fail
  refine (HA.out _).mono ?_
  rintro e w' ⟨rfl, rfl⟩
  go_wp2_with fail
  refine (HN.out _).mono ?_
  rintro e w' ⟨rfl, rfl⟩
  go_wp2_with fail
  refine (HK.out _).mono ?_
  rintro e w' ⟨rfl, rfl⟩
  go_wp2_with fail
  refine (field_yes x p (1 + q) _ x0 x1 (mayk (by omega) (by omega) (by omega) (by omega) (by omega))).mono ?_
  rintro e w' ⟨rfl, rfl⟩
  go_wp2_with fail
  refine (field_yes x (p + (1 + q)) (1 + r) _ x0 x1 (mayk (by omega) (by omega) (by omega) (by omega) (by omega))).mono ?_
  rintro e w' ⟨rfl, rfl⟩
  go_wp2_with fail
  refine (field_yes x p (1 + q + (1 + r)) _ x0 x1 (mayk (by omega) (by omega) (by omega) (by omega) (by omega))).mono ?_
  rintro e w' ⟨rfl, rfl⟩
  have t : (fldV x p (1 + q + (1 + r)) == IntKind.u64.wrap (fldV x p (1 + q) + IntKind.u64.wrap (fldV x (p + (1 + q)) (1 + r) * 2 ^ (1 + q).toNat))) = true := by rw [HP.out]; exact beq_self_eq_true _
  go_wp2_with fail
  refine (awake1 _).mono ?_
  rintro e w3 ⟨rfl, hb3⟩
  go_wp2_with fail
  go_ret
  exact ⟨rfl, hb3⟩
end Go.Proofs.Ytdmpdfogilcjnaa
