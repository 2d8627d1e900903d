/- The walks of the reference of chapter 1: Field, With. -/
import Derived.Test.YtdmpdfogilcjnaaRef1
import Derived.Outline
namespace Go.Proofs.Ytdmpdfogilcjnaa
open Go.RowKit
attribute [local irreducible] bitsA bitsC mixA

/-! Field, With -/
theorem rfield_yes (x a n : Int) (w : World) (x0 : 0 ≤ x) (x1 : x < 18446744073709551616) (hm : MayF a n) :
    Calls Try.prog 29 #[.int .u64 x, .int .i64 a, .int .i64 n] w fun e w' => e = .returned (.tuple #[.int .u64 (fldV x a n), .int .i64 0]) ∧ Below w.heap.size w w' := by
  have H := hide hm
  clear hm
  go_enter Try.func29, Try.ntmps29
  go_wp2_with fail
  refine (wrong_no a n _ H.out).mono ?_
  rintro e w' ⟨rfl, rfl⟩
  go_wp2_with fail
  refine (rbits_any x x0 x1 _).mono ?_
  rintro e w1 ⟨rfl, hb1⟩
  go_wp2_with fail
  refine (number_any x a n H.out _).mono ?_
  rintro e w2 ⟨rfl, hb2⟩
  go_wp2_with fail
  go_ret2
  exact ⟨rfl, hb1.trans (hb2.mono hb1.size)⟩
theorem rfield_no (x a n : Int) (w : World) (hm : ¬ MayF a n) :
    Calls Try.prog 29 #[.int .u64 x, .int .i64 a, .int .i64 n] w fun e w' => e = .returned (.tuple #[.int .u64 0, .int .i64 2]) ∧ w = w' := by
  have H := hide hm
  clear hm
  go_enter Try.func29, Try.ntmps29
  go_wp2_with fail
  refine (wrong_yes a n _ H.out).mono ?_
  rintro e w' ⟨rfl, rfl⟩
  go_wp2_with fail
  go_ret2
  exact ⟨rfl, rfl⟩
theorem rwith_no (x a n v : Int) (w : World) (hm : ¬ MayF a n) :
    Calls Try.prog 32 #[.int .u64 x, .int .i64 a, .int .i64 n, .int .u64 v] w fun e w' => e = .returned (.tuple #[.int .u64 0, .int .i64 2]) ∧ w = w' := by
  have H := hide hm
  clear hm
  go_enter Try.func32, Try.ntmps32
  go_wp2_with fail
  refine (wrong_yes a n _ H.out).mono ?_
  rintro e w' ⟨rfl, rfl⟩
  go_wp2_with fail
  go_ret2
  exact ⟨rfl, rfl⟩
theorem rwith_big (x a n v : Int) (w : World) (hm : MayF a n) (v0 : 0 ≤ v) (v1 : v < 18446744073709551616) (hv : 2 ^ n.toNat ≤ v) :
    Calls Try.prog 32 #[.int .u64 x, .int .i64 a, .int .i64 n, .int .u64 v] w fun e w' => e = .returned (.tuple #[.int .u64 0, .int .i64 3]) ∧ Below w.heap.size w w' := by
  have H := hide hm
  have HV := hide hv
  clear hm hv
  go_enter Try.func32, Try.ntmps32
  go_wp2_with fail
  refine (wrong_no a n _ H.out).mono ?_
  rintro e w' ⟨rfl, rfl⟩
  go_wp2_with fail
  refine (rfits_any v n v0 v1 _).mono ?_
  rintro e w1 ⟨rfl, hb1⟩
  rw [decide_eq_false (Int.not_lt.2 HV.out)]
  go_wp2_with fail
  go_ret2
  exact ⟨rfl, hb1⟩
set_option maxRecDepth 100000 in
set_option maxHeartbeats 1000000 in
theorem rwith_yes (x a n v : Int) (w : World) (x0 : 0 ≤ x) (x1 : x < 18446744073709551616) (hm : MayF a n) (v0 : 0 ≤ v) (v1 : v < 2 ^ n.toNat) :
    Calls Try.prog 32 #[.int .u64 x, .int .i64 a, .int .i64 n, .int .u64 v] w fun e w' => e = .returned (.tuple #[.int .u64 (putV x a n v), .int .i64 0]) ∧ Below w.heap.size w w' := by
  have v2 : v < 18446744073709551616 := Int.lt_of_lt_of_le v1 (pow_le64i hm.2.2.2.1)
  have hpb := (or_put x0 x1 hm v0 v1).2
  have H := hide hm
  have HV := hide v1
  have hiX : (Try.prog.info? 65).map (·.size) = some (bitsA x).size := by rw [bitsA_size]; exact infoA
  have hiV : (Try.prog.info? 65).map (·.size) = some (bitsA v).size := by rw [bitsA_size]; exact infoA
  have z0 : (#[.int .i64 0, .int .i64 0, .int .i64 0, .int .i64 0, .int .i64 0, .int .i64 0, .int .i64 0, .int .i64 0, .int .i64 0, .int .i64 0, .int .i64 0, .int .i64 0, .int .i64 0, .int .i64 0, .int .i64 0, .int .i64 0, .int .i64 0, .int .i64 0, .int .i64 0, .int .i64 0, .int .i64 0, .int .i64 0, .int .i64 0, .int .i64 0, .int .i64 0, .int .i64 0, .int .i64 0, .int .i64 0, .int .i64 0, .int .i64 0, .int .i64 0, .int .i64 0, .int .i64 0, .int .i64 0, .int .i64 0, .int .i64 0, .int .i64 0, .int .i64 0, .int .i64 0, .int .i64 0, .int .i64 0, .int .i64 0, .int .i64 0, .int .i64 0, .int .i64 0, .int .i64 0, .int .i64 0, .int .i64 0, .int .i64 0, .int .i64 0, .int .i64 0, .int .i64 0, .int .i64 0, .int .i64 0, .int .i64 0, .int .i64 0, .int .i64 0, .int .i64 0, .int .i64 0, .int .i64 0, .int .i64 0, .int .i64 0, .int .i64 0, .int .i64 0] : Array Value) = bitsC x 0 := by kernel_rfl
  clear v1
  go_enter Try.func32, Try.ntmps32
  go_wp2_with fail
  refine (wrong_no a n _ H.out).mono ?_
  rintro e w' ⟨rfl, rfl⟩
  go_wp2_with fail
  refine (rfits_any v n v0 v2 _).mono ?_
  rintro e w1 ⟨rfl, hb1⟩
  rw [decide_eq_true HV.out]
  go_wp2_with fail
  refine (rbits_any x x0 x1 _).mono ?_
  rintro e w2 ⟨rfl, hb2⟩
  have hB2 := hb1.trans (hb2.mono hb1.size)
  clear hb1 hb2
  go_wp2_with fail
  refine (rbits_any v v0 v2 _).mono ?_
  rintro e w3 ⟨rfl, hb3⟩
  have hB3 := hB2.trans (hb3.mono hB2.size)
  clear hB2 hb3
  have e1 : ((w3.alloc (.cells (bitsC x 0) 65)).alloc (.cells (bitsC x 0) 65)).heap[w3.heap.size]? = some (.cells (bitsC x 0) 65 (0, 0)) := heap_alloc2_old w3 _ _
  have e2 : (((w3.alloc (.cells (bitsC x 0) 65)).alloc (.cells (bitsC x 0) 65)).setRow w3.heap.size (bitsA x)).heap[w3.heap.size + 1]? = some (.cells (bitsC x 0) 65 (0, 0)) :=
    (setRow_other _ _ _ _ (by omega)).trans (heap_alloc2_new w3 _ _)
  have E1 := hide e1
  have E2 := hide e2
  clear e1 e2
  have tok1 : True := trivial
  go_wp2_with (first
    | (have _t := tok1; refine wpList_store_row rfl 65 _ _ rfl w3.heap.size (bitsA x) rfl rfl 65 _ E1.out hiX ((bitsC_size x 0).trans (bitsA_size x).symm) (bits_one x) ?_; clear tok1)
    | (refine wpList_store_row rfl 65 _ _ rfl (w3.heap.size + 1) (bitsA v) rfl rfl 65 _ E2.out hiV ((bitsC_size x 0).trans (bitsA_size v).symm) (bits_one v) ?_))
  clear z0
  have hk : Blk ((((w3.alloc (.cells (bitsC x 0) 65)).alloc (.cells (bitsC x 0) 65)).setRow w3.heap.size (bitsA x)).setRow (w3.heap.size + 1) (bitsA v)) w3.heap.size 65 (mixA x v a.toNat 0) := by
    rw [mixA_zero]
    exact (setRow_other _ _ _ _ (by omega)).trans (setRow_heap _ _ _ _ _ _ E1.out)
  have hv : Blk ((((w3.alloc (.cells (bitsC x 0) 65)).alloc (.cells (bitsC x 0) 65)).setRow w3.heap.size (bitsA x)).setRow (w3.heap.size + 1) (bitsA v)) (w3.heap.size + 1) 65 (bitsA v) := setRow_heap _ _ _ _ _ _ E2.out
  have hB : Below w.heap.size w ((((w3.alloc (.cells (bitsC x 0) 65)).alloc (.cells (bitsC x 0) 65)).setRow w3.heap.size (bitsA x)).setRow (w3.heap.size + 1) (bitsA v)) :=
    below_setRow (below_setRow ((hB3.alloc hB3.size _).alloc (by have := hB3.size; simp; omega) _) hB3.size _) (by have := hB3.size; omega) _
  have hz : w.heap.size ≤ w3.heap.size := hB3.size
  clear E1 E2 hB3
  generalize (((w3.alloc (.cells (bitsC x 0) 65)).alloc (.cells (bitsC x 0) 65)).setRow w3.heap.size (bitsA x)).setRow (w3.heap.size + 1) (bitsA v) = W at hk hv hB ⊢
  obtain ⟨g, hg⟩ : ∃ g, w3.heap.size = g := ⟨_, rfl⟩
  rw [hg] at hk hv hz ⊢
  clear hg hiV
  obtain ⟨a0, a1, n0, n1, han⟩ := id H.out
  obtain ⟨a, rfl⟩ := Int.eq_ofNat_of_zero_le a0
  obtain ⟨n, rfl⟩ := Int.eq_ofNat_of_zero_le (show 0 ≤ n by omega)
  simp only [Int.toNat_natCast] at hk HV
  go_loopw [12] (fun i wr => ∃ k : Nat, k ≤ n ∧ i = .int .i64 k ∧ Blk wr g 65 (mixA x v a k) ∧ Blk wr (g + 1) 65 (bitsA v) ∧ Below w.heap.size w wr) (fun i _ => n - (intOf i).toNat)
  case atStart => exact ⟨0, by omega, rfl, hk, hv, hB⟩
  case round =>
    obtain ⟨k, hk1, rfl, hk, hv, hB⟩ := hrel
    have HK := hide hk
    have HVV := hide hv
    have HBB := hide hB
    by_cases hlt : k < n
    · have c1 : wr.cell? ⟨g + 1, k, none⟩ = some (.int .i64 (v / 2 ^ k % 2)) := (hv.cell k).trans (bitsA_get (by omega))
      obtain ⟨u, hu⟩ := mixA_get (x := x) (v := v) (a := a) (k := k) (j := a + k) (by omega)
      have c2 : wr.cell? ⟨g, a + k, none⟩ = some u := (hk.cell (a + k)).trans hu
      have f2 := hk.frozen (a + k)
      clear hk hv hu hB
      go_wp2
      go_roundw
      case rel => exact ⟨k + 1, by omega, by go_num, by rw [← mixA_set]; exact HK.out.set_ (a + k) _, HVV.out.far (by simp) _, HBB.out.setCell (by simp; omega) _⟩
      case measure => simp [intOf]; omega
    · obtain rfl : k = n := by omega
      have hm := mixA_all (a := a) x0 v0 HV.out
      rw [hm] at HK
      have hkk : Blk wr g 65 (bitsA (putV x a k v)) := HK.out
      have hp : fldV (putV x a k v) 0 64 = putV x a k v := by
        have e1 : fldV (putV x a k v) 0 64 = putV x a k v % 18446744073709551616 := by simp [fldV]
        rw [e1]
        exact Int.emod_eq_of_lt hpb.1 hpb.2
      have HP := hide hp
      have hm64 : MayF 0 64 := ⟨by omega, by omega, by omega, by omega, by omega⟩
      have HM := hide hm64
      clear hk hv hB hm hp hm64 hpb
      have hiP : (Try.prog.info? 65).map (·.size) = some (bitsA (putV x a k v)).size := by rw [bitsA_size]; exact infoA
      go_wp2_with (refine wpList_load_row rfl 65 _ rfl g rfl 65 _ _ _ hkk Try.underlying65 rfl hiP ?_)
      refine (number_any (putV x a k v) 0 64 HM.out _).mono ?_
      rintro e w9 ⟨rfl, hb9⟩
      rw [HP.out]
      go_wp2_with fail
      go_ret2
      exact ⟨rfl, HBB.out.trans (hb9.mono HBB.out.size)⟩
end Go.Proofs.Ytdmpdfogilcjnaa
