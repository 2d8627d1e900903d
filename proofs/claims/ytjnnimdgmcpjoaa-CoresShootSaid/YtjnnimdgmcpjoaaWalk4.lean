/- The walks of package walk: At. -/
import Derived.Test.YtjnnimdgmcpjoaaWalk3
import Derived.Test.YtjnnimdgmcpjoaaMarks
namespace Go.Proofs.Ytjnnimdgmcpjoaa
open Go.RowKit Go.Shelf
attribute [local go_sem] Oper.semAt_some

theorem wpIn_iter2 {F : Fence} {n : Nat} {P : Program} {α : Type} {g : Operand} {ps : Array Tmp} {assign body : Code} {Q : Exit → Act → World → Prop} {a : Act} {w : World}
    (hro : F.round = none) (h1 : 1 ≤ n) {gf : Nat} {lb : Array Value} (hg : a.eval g = .func (.func gf) #[] lb) (hFg : F.fn gf) (eg : ∀ args w, (callFunc gf args).run P w = .ok (.enter gf args) w)
    {encs : α → Array Value} {G : List α → α → World → Prop} {Kp : List α → α → World → World → Prop} {S : List α → World → Prop} (hseq : Iter F (n - 1) P gf lb encs G Kp S w)
    (hK : ∀ pre x A B C D, Skips w.heap.size A B → Kp pre x B C → Skips w.heap.size C D → Kp pre x A D)
    (hG : ∀ pre x A B, G pre x A → Skips w.heap.size A B → G pre x B) (hS : Stable w.heap.size S) (hps : ∀ x, (encs x).size = ps.size)
    (I : List α → World → Prop) (Ix : Code → List α → World → Prop) (hI : Stable w.heap.size I) (hIx : ∀ c, Stable w.heap.size (Ix c)) (h0 : I [] w) (a₁ : α → Nat → Act) (B : α → Nat → World → Prop) (hB : ∀ x s A C, B x s A → Skips w.heap.size A C → B x s C)
    (hassign : ∀ (l : Nat) (pre : List α) (x : α) (W : World) (K : Act → World → Prop), I pre W → (∀ s W', Ext W W' → w.heap.size ≤ s → B x s W' → K (a₁ x s) W') →
      assign.wpIn (F.inRound l) (n - 1 - 1) P (Exit.then K (fun _ _ _ => False)) { tmps := (ps.zip (encs x)).foldl (fun t (p, v) => t.setIfInBounds p v) a.tmps, defers := [] } W)
    (hbody : ∀ (l : Nat) (pre : List α) (x : α) (s : Nat) (W : World), w.heap.size ≤ l → (∃ r, W.heap[l]? = some (.loop r)) → I pre W → G pre x W → w.heap.size ≤ s → B x s W →
      body.wpIn (F.inRound l) (n - 1 - 1) P (roundEnds w.heap.size (Kp pre x) I Ix (pre ++ [x]) W) (a₁ x s) W)
    (hdone : ∀ (D : Nat) (xs : List α) (W : World), w.heap.size ≤ D → S xs W → I xs W → W.heap[D]? = some (.deferred (some [])) → Q .normal { a with defers := { target := .collected D, args := #[] } :: a.defers } W)
    (hstop : ∀ (D : Nat) (c : Code) (pre : List α) (W : World), w.heap.size ≤ D → Ix c pre W → W.heap[D]? = some (.deferred (some [])) → c.wpIn F n P Q { a with defers := { target := .collected D, args := #[] } :: a.defers } W) :
    (Code.rangeFunc g ps assign body).wpIn F n P Q a w :=
  wpIn_iter hro h1 hg hFg eg hseq hK hG hS hps I Ix hI hIx h0 (fun _ x a' W => ∃ s, w.heap.size ≤ s ∧ B x s W ∧ a' = a₁ x s) (fun _ x _ _ _ _ h hk => by obtain ⟨s, h1, h2, h3⟩ := h; exact ⟨s, h1, hB x s _ _ h2 hk, h3⟩)
    (fun l pre x W K hi _ hK => hassign l pre x W K hi (fun s W' he hs hb => hK _ _ he ⟨s, hs, hb, rfl⟩)) (fun l pre x a' W hl hr hi hg h => by obtain ⟨s, h1, h2, rfl⟩ := h; exact hbody l pre x s W hl hr hi hg h1 h2) hdone hstop

section
variable (n : Nat) (m : Nat → Int) (root page : Nat)
/-- A level's address, or why there is none. -/
def atF : Nat → Int × Int
  | 0 => (0, 0)
  | 1 => (8 * (wdN m root page 1 : Int), 0)
  | k + 2 => if (atF (k + 1)).2 = 0 then (if erN n m root page (k + 1) = 0 then (8 * (wdN m root page (k + 2) : Int), 0) else (0, erN n m root page (k + 1))) else atF (k + 1)
/-- The greatest level that there is. -/
def depF : Nat := if erN n m root page 1 = 0 then (if erN n m root page 2 = 0 then 3 else 2) else 1
end
section
variable {n : Nat} {m : Nat → Int} {root page level : Nat}
theorem step_yy (h1 : erN n m root page 1 = 0) (h2 : erN n m root page 2 = 0) : stepL n m root page = [(1, 8 * (wdN m root page 1 : Int), 0), (2, 8 * (wdN m root page 2 : Int), 0), (3, 8 * (wdN m root page 3 : Int), 0)] := by
  unfold stepL; rw [restL_yes (by decide) (by decide) h1, restL_yes (by decide) (by decide) h2]; rfl
theorem step_yn (h1 : erN n m root page 1 = 0) (h2 : ¬ erN n m root page 2 = 0) : stepL n m root page = [(1, 8 * (wdN m root page 1 : Int), 0), (2, 8 * (wdN m root page 2 : Int), 0), (3, 0, erN n m root page 2)] := by
  unfold stepL; rw [restL_yes (by decide) (by decide) h1, restL_no (by decide) (by decide) h2]
theorem step_n (h1 : ¬ erN n m root page 1 = 0) : stepL n m root page = [(1, 8 * (wdN m root page 1 : Int), 0), (2, 0, erN n m root page 1)] := by
  unfold stepL; rw [restL_no (by decide) (by decide) h1]
theorem atF_2 : atF n m root page 2 = if erN n m root page 1 = 0 then (8 * (wdN m root page 2 : Int), 0) else (0, erN n m root page 1) := rfl
theorem atF_3 : atF n m root page 3 = if erN n m root page 1 = 0 then (if erN n m root page 2 = 0 then (8 * (wdN m root page 3 : Int), 0) else (0, erN n m root page 2)) else (0, erN n m root page 1) := by
  show (if (atF n m root page 2).2 = 0 then _ else _) = _
  rw [atF_2]
  by_cases h : erN n m root page 1 = 0
  · simp only [if_pos h, if_true]
  · simp only [if_neg h]
theorem step_fst {i : Nat} {x : Nat × Int × Int} (hx : (stepL n m root page)[i]? = some x) : x.1 = i + 1 ∧ i < 3 := by
  by_cases h1 : erN n m root page 1 = 0
  · by_cases h2 : erN n m root page 2 = 0
    · rw [step_yy h1 h2] at hx
      match i, hx with
      | 0, hx => cases hx; exact ⟨rfl, by decide⟩
      | 1, hx => cases hx; exact ⟨rfl, by decide⟩
      | 2, hx => cases hx; exact ⟨rfl, by decide⟩
    · rw [step_yn h1 h2] at hx
      match i, hx with
      | 0, hx => cases hx; exact ⟨rfl, by decide⟩
      | 1, hx => cases hx; exact ⟨rfl, by decide⟩
      | 2, hx => cases hx; exact ⟨rfl, by decide⟩
  · rw [step_n h1] at hx
    match i, hx with
    | 0, hx => cases hx; exact ⟨rfl, by decide⟩
    | 1, hx => cases hx; exact ⟨rfl, by decide⟩
theorem step_stop {i : Nat} {x : Nat × Int × Int} (hx : (stepL n m root page)[i]? = some x) (hl : i + 1 ≤ level) (h3 : level ≤ 3) (hs : x.1 = level ∨ x.2.2 ≠ 0) : atF n m root page level = x.2 := by
  by_cases h1 : erN n m root page 1 = 0
  · by_cases h2 : erN n m root page 2 = 0
    · rw [step_yy h1 h2] at hx
      match i, hx with
      | 0, hx => cases hx; obtain rfl : 1 = level := hs.resolve_right (fun h => h rfl); rfl
      | 1, hx => cases hx; obtain rfl : 2 = level := hs.resolve_right (fun h => h rfl); rw [atF_2, if_pos h1]
      | 2, hx => cases hx; obtain rfl : 3 = level := hs.resolve_right (fun h => h rfl); rw [atF_3, if_pos h1, if_pos h2]
    · rw [step_yn h1 h2] at hx
      match i, hx with
      | 0, hx => cases hx; obtain rfl : 1 = level := hs.resolve_right (fun h => h rfl); rfl
      | 1, hx => cases hx; obtain rfl : 2 = level := hs.resolve_right (fun h => h rfl); rw [atF_2, if_pos h1]
      | 2, hx => cases hx; obtain rfl : level = 3 := by omega
                 rw [atF_3, if_pos h1, if_neg h2]
  · rw [step_n h1] at hx
    match i, hx with
    | 0, hx => cases hx; obtain rfl : 1 = level := hs.resolve_right (fun h => h rfl); rfl
    | 1, hx =>
      cases hx
      have : level = 2 ∨ level = 3 := by omega
      rcases this with rfl | rfl
      · rw [atF_2, if_neg h1]
      · rw [atF_3, if_neg h1]
theorem step_full (hz : ∀ (j : Nat) (y : Nat × Int × Int), (stepL n m root page)[j]? = some y → y.2.2 = 0) : (stepL n m root page).length = 3 := by
  by_cases h1 : erN n m root page 1 = 0
  · by_cases h2 : erN n m root page 2 = 0
    · rw [step_yy h1 h2]; rfl
    · rw [step_yn h1 h2] at hz
      exact absurd (hz 2 _ rfl) h2
  · rw [step_n h1] at hz
    exact absurd (hz 1 _ rfl) h1
end
theorem walk_w5 {w : World} {t0 t1 t2 t3 t4 : TypeId} (c0 c1 c2 c3 c4 : Array Value) : Blk (((((w.alloc (.cells c0 t0)).alloc (.cells c1 t1)).alloc (.cells c2 t2)).alloc (.cells c3 t3)).alloc (.cells c4 t4)) w.heap.size t0 c0 ∧ Blk (((((w.alloc (.cells c0 t0)).alloc (.cells c1 t1)).alloc (.cells c2 t2)).alloc (.cells c3 t3)).alloc (.cells c4 t4)) (w.heap.size + 1) t1 c1 ∧
    Blk (((((w.alloc (.cells c0 t0)).alloc (.cells c1 t1)).alloc (.cells c2 t2)).alloc (.cells c3 t3)).alloc (.cells c4 t4)) (w.heap.size + 1 + 1) t2 c2 ∧ Blk (((((w.alloc (.cells c0 t0)).alloc (.cells c1 t1)).alloc (.cells c2 t2)).alloc (.cells c3 t3)).alloc (.cells c4 t4)) (w.heap.size + 1 + 1 + 1) t3 c3 ∧
    Blk (((((w.alloc (.cells c0 t0)).alloc (.cells c1 t1)).alloc (.cells c2 t2)).alloc (.cells c3 t3)).alloc (.cells c4 t4)) (w.heap.size + 1 + 1 + 1 + 1) t4 c4 ∧ Below w.heap.size w (((((w.alloc (.cells c0 t0)).alloc (.cells c1 t1)).alloc (.cells c2 t2)).alloc (.cells c3 t3)).alloc (.cells c4 t4)) ∧
    (((((w.alloc (.cells c0 t0)).alloc (.cells c1 t1)).alloc (.cells c2 t2)).alloc (.cells c3 t3)).alloc (.cells c4 t4)).heap.size = w.heap.size + 5 := by
  have b0 := ((((Blk.new w t0 c0).alloc (.cells c1 t1)).alloc (.cells c2 t2)).alloc (.cells c3 t3)).alloc (.cells c4 t4)
  have b1 := (((Blk.new (w.alloc (.cells c0 t0)) t1 c1).alloc (.cells c2 t2)).alloc (.cells c3 t3)).alloc (.cells c4 t4)
  have b2 := ((Blk.new ((w.alloc (.cells c0 t0)).alloc (.cells c1 t1)) t2 c2).alloc (.cells c3 t3)).alloc (.cells c4 t4)
  have b3 := (Blk.new (((w.alloc (.cells c0 t0)).alloc (.cells c1 t1)).alloc (.cells c2 t2)) t3 c3).alloc (.cells c4 t4)
  have b4 := Blk.new ((((w.alloc (.cells c0 t0)).alloc (.cells c1 t1)).alloc (.cells c2 t2)).alloc (.cells c3 t3)) t4 c4
  have hb := (((((Below.refl _ w).alloc (Nat.le_refl _) (.cells c0 t0)).alloc (by simp) (.cells c1 t1)).alloc (by simp; omega) (.cells c2 t2)).alloc (by simp; omega) (.cells c3 t3)).alloc (by simp; omega) (.cells c4 t4)
  simp only [World.size_alloc] at b1 b2 b3 b4
  exact ⟨b0, b1, b2, b3, b4, hb, by simp⟩
end Go.Proofs.Ytjnnimdgmcpjoaa
