/- Plain laws of words of 64 bits: what a mask of ones takes out, what a field that is put in makes. Conditions: as stated at each. -/
import Derived.Test.YtlfenakabedmfaaBase
namespace Go.Proofs.Ytlfenakabedmfaa
open Go.RowKit

/-- A word whose lowest n bits are ones. -/
def onesV (n : Int) : Int := if n ≤ 0 then 0 else if 64 ≤ n then 18446744073709551615 else 2 ^ n.toNat - 1
/-- The field of n bits at a. -/
def fldV (x a n : Int) : Int := x / 2 ^ a.toNat % 2 ^ n.toNat
/-- x with v put into the field of n bits at a. -/
def putV (x a n v : Int) : Int := x - x / 2 ^ a.toNat % 2 ^ n.toNat * 2 ^ a.toNat + v * 2 ^ a.toNat
/-- May there be such a field? -/
def MayF (a n : Int) : Prop := 0 ≤ a ∧ a ≤ 63 ∧ 1 ≤ n ∧ n ≤ 64 ∧ a + n ≤ 64

theorem pow_le64 {k : Nat} (h : k ≤ 64) : 2 ^ k ≤ 18446744073709551616 := by
  have := Nat.pow_le_pow_right (n := 2) (by omega) h
  simpa using this
theorem ones_nat {n : Int} (h1 : 1 ≤ n) (h2 : n ≤ 64) : onesV n = ((2 ^ n.toNat - 1 : Nat) : Int) := by
  have hp : 0 < 2 ^ n.toNat := Nat.two_pow_pos _
  unfold onesV
  rw [if_neg (by omega)]
  split
  · have : n.toNat = 64 := by omega
    rw [this]; rfl
  · rw [Int.natCast_sub hp]; simp
theorem ones_bd (n : Int) : 0 ≤ onesV n ∧ onesV n < 18446744073709551616 := by
  by_cases h1 : n ≤ 0
  · unfold onesV; simp [h1]
  · by_cases h2 : 64 ≤ n
    · unfold onesV; simp [h1, h2]
    · rw [ones_nat (by omega) (by omega)]
      have := pow_le64 (k := n.toNat) (by omega)
      omega
theorem and_ones {x n : Int} (h0 : 0 ≤ x) (h1 : x < 18446744073709551616) (h2 : 1 ≤ n) (h3 : n ≤ 64) : bits .and .u64 x (onesV n) = x % 2 ^ n.toNat := by
  rw [u64_and x (onesV n) h0 h1 (ones_bd n).1 (ones_bd n).2, ones_nat h2 h3, Int.toNat_natCast, Nat.and_two_pow_sub_one_eq_mod]
  obtain ⟨k, rfl⟩ := Int.eq_ofNat_of_zero_le h0
  simp
theorem nat_put (x a n v : Nat) (hv : v < 2 ^ n) (_han : a + n ≤ 64) (hx : x < 2 ^ 64) :
    (x &&& (2 ^ 64 - 1 - (2 ^ n - 1) * 2 ^ a)) ||| v * 2 ^ a = 2 ^ a * (2 ^ n * (x / 2 ^ (a + n)) + v) + x % 2 ^ a := by
  have hlo : x % 2 ^ a < 2 ^ a := Nat.mod_lt _ (Nat.two_pow_pos _)
  have hm : (2 ^ n - 1) * 2 ^ a < 2 ^ 64 := by
    have h1 : (2 ^ n - 1) * 2 ^ a < 2 ^ n * 2 ^ a := Nat.mul_lt_mul_of_pos_right (Nat.sub_lt (Nat.two_pow_pos _) (by omega)) (Nat.two_pow_pos _)
    have h2 : 2 ^ n * 2 ^ a ≤ 2 ^ 64 := by rw [← Nat.pow_add]; exact Nat.pow_le_pow_right (by omega) (by omega)
    omega
  apply Nat.eq_of_testBit_eq
  intro i
  rw [Nat.testBit_two_pow_mul_add _ hlo, Nat.testBit_or, Nat.testBit_and, Nat.sub_sub, Nat.add_comm 1, Nat.testBit_two_pow_sub_succ hm, Nat.mul_comm, Nat.mul_comm v, Nat.testBit_two_pow_mul, Nat.testBit_two_pow_mul]
  rw [Nat.testBit_two_pow_sub_one]
  by_cases hi : i < a
  · rw [if_pos hi]
    have h64 : i < 64 := by omega
    have hai : ¬ a ≤ i := by omega
    simp [hai, hi, Nat.testBit_mod_two_pow, h64]
  · rw [if_neg hi, Nat.testBit_two_pow_mul_add _ hv]
    have hai : a ≤ i := by omega
    by_cases hj : i - a < n
    · simp [hj, hai]
    · have hx64 : 64 ≤ i → x.testBit i = false := fun h => Nat.testBit_lt_two_pow (Nat.lt_of_lt_of_le hx (Nat.pow_le_pow_right (by omega) h))
      have hvz : v.testBit (i - a) = false := Nat.testBit_lt_two_pow (Nat.lt_of_lt_of_le hv (Nat.pow_le_pow_right (by omega) (by omega)))
      have e : i - a - n + (a + n) = i := by omega
      simp [hj, Nat.testBit_div_two_pow, hvz, e]
      intro h
      apply Decidable.byContradiction
      intro hge
      rw [hx64 (by omega)] at h
      cases h
theorem or_put {x a n v : Int} (x0 : 0 ≤ x) (x1 : x < 18446744073709551616) (hm : MayF a n) (v0 : 0 ≤ v) (v1 : v < 2 ^ n.toNat) :
    bits .or .u64 (bits .andNot .u64 x (IntKind.u64.wrap (onesV n * 2 ^ a.toNat))) (IntKind.u64.wrap (v * 2 ^ a.toNat)) = putV x a n v ∧ 0 ≤ putV x a n v ∧ putV x a n v < 18446744073709551616 := by
  obtain ⟨a0, a1, n0, n1, han⟩ := hm
  obtain ⟨x, rfl⟩ := Int.eq_ofNat_of_zero_le x0
  obtain ⟨v, rfl⟩ := Int.eq_ofNat_of_zero_le v0
  rw [ones_nat n0 n1]
  unfold putV
  obtain ⟨a, rfl⟩ := Int.eq_ofNat_of_zero_le a0
  obtain ⟨n, rfl⟩ := Int.eq_ofNat_of_zero_le (show 0 ≤ n by omega)
  simp only [Int.toNat_natCast]
  have hv : v < 2 ^ n := by exact_mod_cast v1
  have hx : x < 2 ^ 64 := by simp; omega
  have key := nat_put x a n v hv (by omega) hx
  have hm : (2 ^ n - 1) * 2 ^ a < 2 ^ 64 := by
    have h1 : (2 ^ n - 1) * 2 ^ a < 2 ^ n * 2 ^ a := Nat.mul_lt_mul_of_pos_right (Nat.sub_lt (Nat.two_pow_pos _) (by omega)) (Nat.two_pow_pos _)
    have h2 : 2 ^ n * 2 ^ a ≤ 2 ^ 64 := by rw [← Nat.pow_add]; exact Nat.pow_le_pow_right (by omega) (by omega)
    omega
  have hva : v * 2 ^ a < 2 ^ 64 := by
    have h1 : v * 2 ^ a < 2 ^ n * 2 ^ a := Nat.mul_lt_mul_of_pos_right hv (Nat.two_pow_pos _)
    have h2 : 2 ^ n * 2 ^ a ≤ 2 ^ 64 := by rw [← Nat.pow_add]; exact Nat.pow_le_pow_right (by omega) (by omega)
    omega
  simp only [Nat.reducePow] at hm hva hx
  have e1 : IntKind.u64.wrap (((2 ^ n - 1 : Nat) : Int) * 2 ^ a) = (((2 ^ n - 1) * 2 ^ a : Nat) : Int) := by
    rw [IntKind.wrap_u64]
    have : ((2 ^ n - 1 : Nat) : Int) * 2 ^ a = (((2 ^ n - 1) * 2 ^ a : Nat) : Int) := by push_cast; rfl
    rw [this]; omega
  have e2 : IntKind.u64.wrap ((v : Int) * 2 ^ a) = ((v * 2 ^ a : Nat) : Int) := by
    rw [IntKind.wrap_u64]
    have : (v : Int) * 2 ^ a = ((v * 2 ^ a : Nat) : Int) := by push_cast; rfl
    rw [this]; omega
  have hsplit : x = 2 ^ a * (2 ^ n * (x / 2 ^ (a + n)) + x / 2 ^ a % 2 ^ n) + x % 2 ^ a := by
    have h1 := Nat.div_add_mod x (2 ^ a)
    have h2 := Nat.div_add_mod (x / 2 ^ a) (2 ^ n)
    rw [Nat.div_div_eq_div_mul, ← Nat.pow_add] at h2
    rw [h2]; omega
  have eput : (x : Int) - (x : Int) / 2 ^ a % 2 ^ n * 2 ^ a + (v : Int) * 2 ^ a = ((2 ^ a * (2 ^ n * (x / 2 ^ (a + n)) + v) + x % 2 ^ a : Nat) : Int) := by
    have c : (x : Int) / 2 ^ a % 2 ^ n * 2 ^ a = ((2 ^ a * (x / 2 ^ a % 2 ^ n) : Nat) : Int) := by push_cast; rw [Int.mul_comm]
    have c2 : (v : Int) * 2 ^ a = ((2 ^ a * v : Nat) : Int) := by push_cast; rw [Int.mul_comm]
    rw [c, c2]
    rw [Nat.mul_add] at hsplit ⊢
    omega
  have hlt : (x &&& (2 ^ 64 - 1 - (2 ^ n - 1) * 2 ^ a)) ||| v * 2 ^ a < 2 ^ 64 := Nat.or_lt_two_pow (Nat.and_lt_two_pow _ (by simp only [Nat.reducePow]; omega)) (by simp only [Nat.reducePow]; omega)
  rw [e1, e2, eput, u64_andNot_nat _ _ (by omega) hm]
  have e3 : (18446744073709551615 - (2 ^ n - 1) * 2 ^ a) = (2 ^ 64 - 1 - (2 ^ n - 1) * 2 ^ a) := by simp only [Nat.reducePow, Nat.reduceSub]
  rw [e3, u64_or_nat _ _ (Nat.lt_of_le_of_lt Nat.and_le_left (by omega)) hva, key]
  refine ⟨rfl, by omega, ?_⟩
  rw [← key]
  simp only [Nat.reducePow] at hlt
  simp only [Nat.reducePow]
  omega
theorem fld_bd {x a n : Int} (_x0 : 0 ≤ x) (_hm : MayF a n) : 0 ≤ fldV x a n ∧ fldV x a n < 2 ^ n.toNat := by
  have hp : (0 : Int) < 2 ^ n.toNat := Int.pow_pos (by omega)
  exact ⟨Int.emod_nonneg _ (by omega), Int.emod_lt_of_pos _ hp⟩
theorem pow_le64i {n : Int} (h : n ≤ 64) : (2 : Int) ^ n.toNat ≤ 18446744073709551616 := by
  have := pow_le64 (k := n.toNat) (by omega)
  have h2 := Int.ofNat_le.2 this
  rw [Int.natCast_pow] at h2
  exact h2
theorem fld_bd64 {x a n : Int} (x0 : 0 ≤ x) (hm : MayF a n) : 0 ≤ fldV x a n ∧ fldV x a n < 18446744073709551616 := by
  have h := fld_bd (x := x) x0 hm
  have := pow_le64i hm.2.2.2.1
  omega

end Go.Proofs.Ytlfenakabedmfaa
