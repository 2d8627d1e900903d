/- The walk of awake (chapter 28), and plain lemmas of its statements. -/
import Derived.Test.YtofmcaagnhdecaaDecA
import Derived.Test.YtofmcaagnhdecaaDecL
import Derived.Test.YtofmcaagnhdecaaDecQ
import Derived.Test.YtofmcaagnhdecaaLaw0
import Derived.Deep.RegionHeld3
namespace Go.Proofs.Ytofmcaagnhdecaa
open Go.RowKit
def xw (a b c : Int) : Nat → Int := fun i => match i with | 0 => a | 1 => b | 2 => c | _ => 0
theorem xw_u {a b c : Int} (ha : 0 ≤ a ∧ a < 18446744073709551616) (hb : 0 ≤ b ∧ b < 18446744073709551616) (hc : 0 ≤ c ∧ c < 18446744073709551616) : U64 (xw a b c) := fun i => by
  match i with
  | 0 => exact ha
  | 1 => exact hb
  | 2 => exact hc
  | _ + 3 => exact ⟨Int.le_refl _, by show (0 : Int) < 18446744073709551616; decide⟩
theorem aw1 : ordA (decV 2 (xw 3 9 1)).1 = #[.int .i64 2, .int .i64 3, .int .i64 9, .int .i64 0, .int .i64 1, .int .i64 0, .int .i64 0, .int .u64 0, .int .u64 0, .int .u64 0, .int .u64 0, .int .u64 0] := by kernel_rfl
theorem aw2 : (decV 2 (xw 3 9 1)).2 = 0 := by kernel_rfl
theorem aw3 : (decV 2 (xw 3 4096 1)).2 = 3 := by kernel_rfl
theorem aw4 : ordA (decV 2 (xw 3 4096 1)).1 = #[.int .i64 0, .int .i64 0, .int .i64 0, .int .i64 0, .int .i64 0, .int .i64 0, .int .i64 0, .int .u64 0, .int .u64 0, .int .u64 0, .int .u64 0, .int .u64 0] := by kernel_rfl
theorem awake28 (w : World) : Calls Try.prog 10 #[] w fun e w' => e = .returned (.bool true) ∧ Below w.heap.size w w' := by
  have E1 := hide aw1
  have E2 := hide aw2
  have E3 := hide aw3
  have E4 := hide aw4
  go_enter Try.func10, Try.ntmps10
  go_wp2_with fail
  refine (decode_any 2 (xw 3 9 1) _ (xw_u (by decide) (by decide) (by decide))).mono ?_
  rintro e w1 ⟨rfl, hb1⟩
  rw [E1.out, E2.out]
  go_wp2_with fail
  refine (decode_any 2 (xw 3 4096 1) _ (xw_u (by decide) (by decide) (by decide))).mono ?_
  rintro e w2 ⟨rfl, hb2⟩
  rw [E3.out, E4.out]
  obtain ⟨hz, hk⟩ := blk_after hb2
  have hB : Below w.heap.size w w2 := (hb1.alloc hb1.size _).trans (hb2.mono (by simp; have := hb1.size; omega))
  have hz1 := hb1.size
  clear hb1 hb2 E1 E2 E3 E4
  generalize w1.heap.size = H1 at *
  obtain ⟨o0, o1, o2, o3, o4, o5, o6, o7, o8, o9, o10, o11⟩ := hk.c12
  have q3 := eq3 1 0 0 1 0 0
  have q4 := eq4 0 0 0 0 0 0 0 0
  go_wp2_with fail
  go_ret
  exact ⟨rfl, hB.alloc (by omega) _⟩
theorem blk_after' {w w2 : World} {g : Nat} {cs : Array Value} {t : TypeId} (hb : Below (w.alloc (.cells cs t)).heap.size (w.alloc (.cells cs t)) w2) (hg : g = w.heap.size := by rfl) : g < w2.heap.size ∧ Blk w2 g t cs := by
  subst hg
  exact blk_after hb
theorem ordA_def (m : Nat → Int) : ordA m = #[.int .i64 (m 0), .int .i64 (m 1), .int .i64 (m 2), .int .i64 (m 3), .int .i64 (m 4), .int .i64 (m 5), .int .i64 (m 6), .int .u64 (m 7), .int .u64 (m 8), .int .u64 (m 9), .int .u64 (m 10), .int .u64 (m 11)] := rfl
theorem y_u {x : Nat → Int} {v : Int} (hx : U64 x) (hv : 0 ≤ v ∧ v < 18446744073709551616) (k : Nat) : U64 (fun i => if i = k then v else x i) := fun i => by
  show 0 ≤ (if i = k then v else x i) ∧ (if i = k then v else x i) < 18446744073709551616
  split
  · exact hv
  · exact hx i
theorem y_same {op : Int} {x : Nat → Int} {v : Int} {k : Nat} (h : v = x k) : decV op (fun i => if i = k then v else x i) = decV op x := by
  refine decV_congr fun i _ => ?_
  show (if i = k then v else x i) = x i
  split
  · next e => rw [e]; exact h
  · rfl
theorem y_other {op : Int} {x : Nat → Int} {v : Int} {k : Nat} (hk : k < 6) (h : ¬ v = x k) (h1 : (decV op x).2 = 0) (h2 : (decV op (fun i => if i = k then v else x i)).2 = 0) : ordB (decV op (fun i => if i = k then v else x i)).1 (decV op x).1 = false := by
  cases hb : ordB (decV op (fun i => if i = k then v else x i)).1 (decV op x).1 with
  | false => rfl
  | true =>
    have := decV_inj h2 h1 (ordA_congr ((ordB_true _ _).1 hb)) k hk
    simp only [if_true] at this
    exact absurd this h
theorem ordB_self (m : Nat → Int) : ordB m m = true := (ordB_true m m).2 fun _ _ => rfl
end Go.Proofs.Ytofmcaagnhdecaa
