/- The plain law of CoresShoot: what a drop leaves, counted. -/
import Derived.Test.YtjnnimdgmcpjoaaLaw7b
namespace Go.Proofs.Ytjnnimdgmcpjoaa
open Go.RowKit Go.Shelf
/-- What the program asks of a translation. -/
def shotP (s q : Int) (all : Bool) (y : Tr) : Bool := y.sp == s && (all || y.pg == q)
theorem shotP_all (s q : Int) : shotP s q true = isSpace s := by funext y; simp [shotP, isSpace]
theorem shotP_one (s q : Int) : shotP s q false = isPage s q := by funext y; simp [shotP, isPage]
theorem split_len (p : Nat → Bool) : ∀ l : List Nat, (l.filter p).length + (l.filter fun i => !p i).length = l.length
  | [] => rfl
  | a :: l => by
    have h := split_len p l
    cases hp : p a <;> simp [hp] <;> omega
theorem vis_drop (c : Cache) (P : Tr → Bool) : vis (dropAt c P (vis c 8)) 8 = (vis c 8).filter fun i => !P (c.way i) := by
  have e : (vis c 8).filter (fun i => !P (c.way i)) = (List.range 8).filter fun i => !P (c.way i) && (c.way i).sp != 0 := by
    unfold vis
    rw [List.filter_filter]
  rw [e]
  refine List.filter_congr fun i hi => ?_
  have h8 : i < 8 := List.mem_range.1 hi
  simp only [dropAt]
  cases hz : ((c.way i).sp != 0)
  · rw [if_neg (fun h => (mem_vis.1 h.1).2 (by simpa using hz)), hz]
    simp
  · have hm : i ∈ vis c 8 := mem_vis.2 ⟨h8, by simpa using hz⟩
    cases hP : P (c.way i)
    · rw [if_neg (fun h => Bool.noConfusion h.2), hz]
      rfl
    · rw [if_pos ⟨hm, rfl⟩]
      rfl
theorem drop_len (c : Cache) (P : Tr → Bool) : dropN c P (vis c 8) + (vis (dropAt c P (vis c 8)) 8).length = (vis c 8).length := by
  rw [vis_drop]
  exact split_len _ _
theorem drop_not {c : Cache} {P : Tr → Bool} {i : Nat} (h : i < (vis (dropAt c P (vis c 8)) 8).length) : P (ts (dropAt c P (vis c 8)) i) = false := by
  have hm := nth_mem h
  unfold ts
  generalize nth (dropAt c P (vis c 8)) i = j at hm
  rw [vis_drop, List.mem_filter] at hm
  have hn : P (c.way j) = false := by simpa using hm.2
  have : (dropAt c P (vis c 8)).way j = c.way j := by
    simp only [dropAt]
    rw [if_neg (fun h => by have := h.2; rw [this] at hn; cases hn)]
  rw [this]
  exact hn
/-- How many translations the first k cores have. -/
def lenC (K : Nat → Core) : Nat → Nat
  | 0 => 0
  | k + 1 => lenC K k + (vis (K k).c 8).length
theorem lenC_le (K : Nat → Core) : ∀ k, lenC K k ≤ 8 * k
  | 0 => Nat.le_refl _
  | k + 1 => by
    have := lenC_le K k
    have := vis_len (K k).c 8
    show lenC K k + _ ≤ _
    omega
theorem lenC_drop (K : Nat → Core) (P : Tr → Bool) (n : Nat) : ∀ k, k ≤ n → dropC K P k + lenC (dropK K P n) k = lenC K k
  | 0, _ => rfl
  | k + 1, h => by
    have h1 := lenC_drop K P n k (by omega)
    have h2 := drop_len (K k).c P
    have h3 : (dropK K P n k).c = dropAt (K k).c P (vis (K k).c 8) := by unfold dropK; rw [if_pos (by omega)]
    show (dropC K P k + dropN (K k).c P (vis (K k).c 8)) + (lenC (dropK K P n) k + (vis (dropK K P n k).c 8).length) = lenC K k + (vis (K k).c 8).length
    rw [h3]
    omega
theorem cnt_yes {c : Cache} {P : Tr → Bool} {i : Nat} (h : i < (vis c 8).length) (hp : P (ts c i) = true) : dropN c P ((vis c 8).take (i + 1)) = dropN c P ((vis c 8).take i) + 1 := by
  rw [take_nth h, dropN_yes hp]
theorem cnt_no {c : Cache} {P : Tr → Bool} {i : Nat} (h : i < (vis c 8).length) (hp : P (ts c i) = false) : dropN c P ((vis c 8).take (i + 1)) = dropN c P ((vis c 8).take i) := by
  rw [take_nth h, dropN_no hp]
theorem cnt_zero (c : Cache) (P : Tr → Bool) : dropN c P ((vis c 8).take 0) = 0 := rfl
theorem cnt_le (c : Cache) (P : Tr → Bool) (i : Nat) : dropN c P ((vis c 8).take i) ≤ i := by
  refine Nat.le_trans (dropN_le _ _ _) ?_
  rw [List.length_take]
  exact Nat.min_le_left _ _
theorem dropC_next (K : Nat → Core) (P : Tr → Bool) (k : Nat) : dropC K P (k + 1) = dropC K P k + dropN (K k).c P (vis (K k).c 8) := rfl
/-- All caches are good ones. -/
def AllG (n : Nat) (K : Nat → Core) : Prop := ∀ i, i < n → Good (K i).c
theorem AllG.ok {n : Nat} {K : Nat → Core} (h : AllG n K) : ∀ i, i < n → (K i).c.ok := fun i hi => (h i hi).ok
theorem AllG.start (n : Nat) : AllG n fun _ => core0 := fun _ _ => Good.empty
theorem AllG.upd_ {n : Nat} {K : Nat → Core} (h : AllG n K) (i : Nat) {a b : Int} {c : Cache} (hc : Good c) : AllG n (upd K i ⟨a, b, c⟩) := fun j hj => by
  unfold upd
  split
  · exact hc
  · exact h j hj
theorem AllG.trK {n : Nat} {K : Nat → Core} (h : AllG n K) (N : Nat) (m : Nat → Int) (k p : Int) : AllG n (trK n K N m k p) := by
  unfold Go.Proofs.Ytjnnimdgmcpjoaa.trK
  split
  · rename_i ht
    obtain ⟨h0, h1, _⟩ := ht
    have hg := h k.toNat (by omega)
    refine h.upd_ _ ?_
    unfold trInC
    split
    · exact hg
    · split
      · exact hg
      · split
        · exact hg.fill _
        · exact hg
  · exact h
end Go.Proofs.Ytjnnimdgmcpjoaa
