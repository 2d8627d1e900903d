/- The walks of package walk: bad, levels. -/
import Derived.Test.YtjnnimdgmcpjoaaWalk
import Derived.Test.YtjnnimdgmcpjoaaMarks
namespace Go.Proofs.Ytjnnimdgmcpjoaa
open Go.RowKit Go.Shelf
def badV (n : Nat) (root page level : Int) : Int := if root < 0 ∨ (n : Int) ≤ root ∨ page < 0 ∨ 512 ≤ page ∨ level < 1 ∨ 3 < level then 3 else 0
set_option maxHeartbeats 2000000 in
theorem bad_any (g gf n cp : Nat) (m : Nat → Int) (root page level : Int) (w : World) (hM : MemAt w g gf n cp m) :
    Calls Try.prog 77 #[.pointer (some ⟨g, 0, none⟩), .int .i64 root, .int .i64 page, .int .i64 level] w fun e w' => e = .returned (.int .i64 (badV n root page level)) ∧ w = w' := by
  unfold badV
  have hn := hM.le
  have HM := hide hM
  clear hM
  by_cases h1 : root < 0
  · rw [if_pos (by omega)]
    go_enter Try.func77, Try.ntmps77
    go_wp2_with fail
    go_ret
    exact ⟨rfl, rfl⟩
  by_cases h2 : (n : Int) ≤ root
  · rw [if_pos (by omega)]
    go_enter Try.func77, Try.ntmps77
    go_wp2_with fail
    refine (pframes_any _ _ _ _ _ _ HM.out).mono ?_
    rintro e w' ⟨rfl, rfl⟩
    go_wp2_with fail
    go_ret
    exact ⟨rfl, rfl⟩
  by_cases h3 : page < 0
  · rw [if_pos (by omega)]
    go_enter Try.func77, Try.ntmps77
    go_wp2_with fail
    refine (pframes_any _ _ _ _ _ _ HM.out).mono ?_
    rintro e w' ⟨rfl, rfl⟩
    go_wp2_with fail
    go_ret
    exact ⟨rfl, rfl⟩
  by_cases h4 : 512 ≤ page
  · rw [if_pos (by omega)]
    go_enter Try.func77, Try.ntmps77
    go_wp2_with fail
    refine (pframes_any _ _ _ _ _ _ HM.out).mono ?_
    rintro e w' ⟨rfl, rfl⟩
    go_wp2_with fail
    go_ret
    exact ⟨rfl, rfl⟩
  by_cases h5 : level < 1
  · rw [if_pos (by omega)]
    go_enter Try.func77, Try.ntmps77
    go_wp2_with fail
    refine (pframes_any _ _ _ _ _ _ HM.out).mono ?_
    rintro e w' ⟨rfl, rfl⟩
    go_wp2_with fail
    go_ret
    exact ⟨rfl, rfl⟩
  by_cases h6 : 3 < level
  · rw [if_pos (by omega)]
    go_enter Try.func77, Try.ntmps77
    go_wp2_with fail
    refine (pframes_any _ _ _ _ _ _ HM.out).mono ?_
    rintro e w' ⟨rfl, rfl⟩
    go_wp2_with fail
    go_ret
    exact ⟨rfl, rfl⟩
  rw [if_neg (by omega)]
  go_enter Try.func77, Try.ntmps77
  go_wp2_with fail
  refine (pframes_any _ _ _ _ _ _ HM.out).mono ?_
  rintro e w' ⟨rfl, rfl⟩
  go_wp2_with fail
  go_ret
  exact ⟨rfl, rfl⟩

theorem bad_nil (root page level : Int) (w : World) : Calls Try.prog 77 #[.pointer none, .int .i64 root, .int .i64 page, .int .i64 level] w fun e w' => e = .returned (.int .i64 1) ∧ w = w' := by
  go_enter Try.func77, Try.ntmps77
  go_wp2_with fail
  go_ret
  exact ⟨rfl, rfl⟩
/-! The levels of a page. -/
section
variable (n : Nat) (m : Nat → Int) (root page : Nat)
/-- The page's index on a level. -/
def ixN (p k : Nat) : Nat := if k = 1 then p / 64 else if k = 2 then p / 8 % 8 else p % 8
/-- The frame of a level's table: on level 1 the root, else the one that the entry above tells. -/
def frN : Nat → Nat
  | 0 => root
  | 1 => root
  | k + 2 => (m (8 * frN (k + 1) + ixN page (k + 1)) / 256 % 64).toNat
/-- The number of a level's word. -/
def wdN (k : Nat) : Nat := 8 * frN m root page k + ixN page k
def erN (k : Nat) : Int := entE n (m (wdN m root page k)) false
/-- What comes behind a level: level, address, code. -/
def restL : Nat → List (Nat × Int × Int)
  | 1 => if erN n m root page 1 = 0 then (2, 8 * (wdN m root page 2 : Int), 0) :: (if erN n m root page 2 = 0 then [(3, 8 * (wdN m root page 3 : Int), 0)] else [(3, 0, erN n m root page 2)]) else [(2, 0, erN n m root page 1)]
  | 2 => if erN n m root page 2 = 0 then [(3, 8 * (wdN m root page 3 : Int), 0)] else [(3, 0, erN n m root page 2)]
  | _ => []
def stepL : List (Nat × Int × Int) := (1, 8 * (wdN m root page 1 : Int), 0) :: restL n m root page 1
end
theorem restL_yes {n : Nat} {m : Nat → Int} {root page k : Nat} (hk : 1 ≤ k) (h2 : k ≤ 2) (h : erN n m root page k = 0) : restL n m root page k = (k + 1, 8 * (wdN m root page (k + 1) : Int), 0) :: restL n m root page (k + 1) := by
  have : k = 1 ∨ k = 2 := by omega
  rcases this with rfl | rfl
  · show (if _ then _ else _) = _
    rw [if_pos h]; rfl
  · show (if _ then _ else _) = _
    rw [if_pos h]; rfl
theorem restL_no {n : Nat} {m : Nat → Int} {root page k : Nat} (hk : 1 ≤ k) (h2 : k ≤ 2) (h : ¬ erN n m root page k = 0) : restL n m root page k = [(k + 1, 0, erN n m root page k)] := by
  have : k = 1 ∨ k = 2 := by omega
  rcases this with rfl | rfl
  · show (if _ then _ else _) = _
    rw [if_neg h]
  · show (if _ then _ else _) = _
    rw [if_neg h]
theorem ixN_lt {p : Nat} (k : Nat) (hp : p < 512) : ixN p k < 8 := by
  unfold ixN
  split
  · omega
  · split <;> omega
theorem idx_nat {p k : Nat} (hp : p < 512) (h1 : 1 ≤ k) (h3 : k ≤ 3) : idxV (p : Int) (k : Int) = (ixN p k : Int) := by
  have : k = 1 ∨ k = 2 ∨ k = 3 := by omega
  unfold idxV ixN
  rw [if_pos (by omega)]
  rcases this with rfl | rfl | rfl <;> simp
theorem entE_zero {n : Nat} {x : Int} {lf : Bool} (h : entE n x lf = 0) : decOk x = true ∧ bitB x 0 = true ∧ bitB x 1 = lf ∧ x / 256 % 64 < (n : Int) := by
  unfold entE at h
  by_cases h1 : decOk x = false
  · rw [if_pos h1] at h; exact absurd h (by decide)
  rw [if_neg h1] at h
  by_cases h2 : bitB x 0 = false
  · rw [if_pos h2] at h; exact absurd h (by decide)
  rw [if_neg h2] at h
  by_cases h3 : bitB x 1 ≠ lf ∨ (n : Int) ≤ x / 256 % 64
  · rw [if_pos h3] at h; exact absurd h (by decide)
  exact ⟨by simpa using h1, by simpa using h2, by by_cases e : bitB x 1 = lf; exact e; exact absurd (.inl e) h3, by omega⟩
theorem frN_succ {n : Nat} {m : Nat → Int} {root page k : Nat} (h1 : 1 ≤ k) (h : erN n m root page k = 0) : (frN m root page (k + 1) : Int) = m (wdN m root page k) / 256 % 64 ∧ frN m root page (k + 1) < n := by
  obtain ⟨j, rfl⟩ : ∃ j, k = j + 1 := ⟨k - 1, by omega⟩
  have he := (entE_zero h).2.2.2
  have e : frN m root page (j + 1 + 1) = (m (wdN m root page (j + 1)) / 256 % 64).toNat := rfl
  have h0 : 0 ≤ m (wdN m root page (j + 1)) / 256 % 64 := Int.emod_nonneg _ (by decide)
  rw [e]
  omega
theorem levels_any (p : Option Addr) (root page : Int) (w : World) :
    Calls Try.prog 78 #[.pointer p, .int .i64 root, .int .i64 page] w fun e w' => e = .returned (.func (.func 90) #[] #[.pointer (some ⟨w.heap.size + 1, 0, none⟩), .pointer (some ⟨w.heap.size + 1 + 1, 0, none⟩), .pointer (some ⟨w.heap.size, 0, none⟩)]) ∧
      w' = ((w.alloc (.cells #[.pointer p] 24)).alloc (.cells #[.int .i64 root] 3)).alloc (.cells #[.int .i64 page] 3) := by
  go_enter Try.func78, Try.ntmps78
  go_wp2_with fail
  go_ret
  exact ⟨rfl, rfl⟩
end Go.Proofs.Ytjnnimdgmcpjoaa
