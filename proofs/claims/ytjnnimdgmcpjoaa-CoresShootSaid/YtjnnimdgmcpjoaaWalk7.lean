/- The walks of package walk: Depth. -/
import Derived.Test.YtjnnimdgmcpjoaaWalk6
namespace Go.Proofs.Ytjnnimdgmcpjoaa
open Go.RowKit Go.Shelf
attribute [local go_sem] Oper.semAt_some

def okN (l : List (Nat × Int × Int)) (k : Nat) : Nat := ((l.take k).filter fun x => x.2.2 == 0).length
def depV (n : Nat) (m : Nat → Int) (root page : Int) : Int := if badV n root page 1 = 0 then (depF n m root.toNat page.toNat : Int) else 0
section
variable {n : Nat} {m : Nat → Int} {root page : Nat}
theorem ok_step {k : Nat} {x : Nat × Int × Int} (hx : (stepL n m root page)[k]? = some x) : okN (stepL n m root page) (k + 1) = okN (stepL n m root page) k + (if x.2.2 = 0 then 1 else 0) := by
  have hk := (List.getElem?_eq_some_iff.1 hx).1
  unfold okN
  rw [List.take_add_one, hx, List.filter_append, List.length_append]
  by_cases h : x.2.2 = 0
  · simp [h]
  · simp [h]
theorem ok_lev {k : Nat} {x : Nat × Int × Int} (hx : (stepL n m root page)[k]? = some x) : okN (stepL n m root page) k = k := by
  by_cases h1 : erN n m root page 1 = 0
  · by_cases h2 : erN n m root page 2 = 0
    · rw [step_yy h1 h2] at hx ⊢
      match k, hx with
      | 0, _ => rfl
      | 1, _ => rfl
      | 2, _ => rfl
    · rw [step_yn h1 h2] at hx ⊢
      match k, hx with
      | 0, _ => rfl
      | 1, _ => rfl
      | 2, _ => rfl
  · rw [step_n h1] at hx ⊢
    match k, hx with
    | 0, _ => rfl
    | 1, _ => rfl
theorem ok_all : okN (stepL n m root page) (stepL n m root page).length = depF n m root page := by
  unfold depF
  by_cases h1 : erN n m root page 1 = 0
  · rw [if_pos h1]
    by_cases h2 : erN n m root page 2 = 0
    · rw [if_pos h2, step_yy h1 h2]; rfl
    · rw [if_neg h2, step_yn h1 h2]
      simp [okN, h2]
  · rw [if_neg h1, step_n h1]
    simp [okN, h1]
end
structure DepI (w : World) (H : Nat) (n : Nat) (m : Nat → Int) (root page : Nat) (k : Nat) (W : World) : Prop where
  dep : Blk W H 3 #[.int .i64 (okN (stepL n m root page) k : Int)]
  below : Below H w W
  size : H + 4 ≤ W.heap.size
theorem walk_w4 {w : World} {t0 t1 t2 t3 : TypeId} (c0 c1 c2 c3 : Array Value) : Blk ((((w.alloc (.cells c0 t0)).alloc (.cells c1 t1)).alloc (.cells c2 t2)).alloc (.cells c3 t3)) w.heap.size t0 c0 ∧ Blk ((((w.alloc (.cells c0 t0)).alloc (.cells c1 t1)).alloc (.cells c2 t2)).alloc (.cells c3 t3)) (w.heap.size + 1) t1 c1 ∧
    Blk ((((w.alloc (.cells c0 t0)).alloc (.cells c1 t1)).alloc (.cells c2 t2)).alloc (.cells c3 t3)) (w.heap.size + 1 + 1) t2 c2 ∧ Blk ((((w.alloc (.cells c0 t0)).alloc (.cells c1 t1)).alloc (.cells c2 t2)).alloc (.cells c3 t3)) (w.heap.size + 1 + 1 + 1) t3 c3 ∧ Below w.heap.size w ((((w.alloc (.cells c0 t0)).alloc (.cells c1 t1)).alloc (.cells c2 t2)).alloc (.cells c3 t3)) ∧
    ((((w.alloc (.cells c0 t0)).alloc (.cells c1 t1)).alloc (.cells c2 t2)).alloc (.cells c3 t3)).heap.size = w.heap.size + 4 := by
  have b0 := (((Blk.new w t0 c0).alloc (.cells c1 t1)).alloc (.cells c2 t2)).alloc (.cells c3 t3)
  have b1 := ((Blk.new (w.alloc (.cells c0 t0)) t1 c1).alloc (.cells c2 t2)).alloc (.cells c3 t3)
  have b2 := (Blk.new ((w.alloc (.cells c0 t0)).alloc (.cells c1 t1)) t2 c2).alloc (.cells c3 t3)
  have b3 := Blk.new (((w.alloc (.cells c0 t0)).alloc (.cells c1 t1)).alloc (.cells c2 t2)) t3 c3
  have hb := ((((Below.refl _ w).alloc (Nat.le_refl _) (.cells c0 t0)).alloc (by simp) (.cells c1 t1)).alloc (by simp; omega) (.cells c2 t2)).alloc (by simp; omega) (.cells c3 t3)
  simp only [World.size_alloc] at b1 b2 b3
  exact ⟨b0, b1, b2, b3, hb, by simp⟩
end Go.Proofs.Ytjnnimdgmcpjoaa
