/- Caches of one space that hold what walks tell: what translating, storing behind a drop, and evicting leave. -/
import Derived.Test.YtjnnimdgmcpjoaaLaw7d
namespace Go.Proofs.Ytjnnimdgmcpjoaa
open Go.RowKit Go.Shelf
/-- All that is there is what a walk tells. -/
structure FreshC (m : Nat → Int) (c : Cache) : Prop where
  good : Good c
  way : ∀ i, i < 8 → (c.way i).sp ≠ 0 → ∃ p : Nat, p < 8 ∧ wlkE 8 m 0 p = 0 ∧ c.way i = wlkT 8 m 0 p 1
theorem FreshC.empty (m : Nat → Int) : FreshC m Cache.empty := ⟨Good.empty, fun _ _ h => (h rfl).elim⟩
theorem findTr_of {c : Cache} {sp pg : Int} (h : findOk c sp pg = true) : ∃ i, i < 8 ∧ (c.way i).sp ≠ 0 ∧ (c.way i).sp = sp ∧ (c.way i).pg = pg ∧ findTr c sp pg = c.way i := by
  unfold findOk at h
  cases hv : findV c sp pg with
  | none => rw [hv] at h; cases h
  | some i =>
    have h1 := List.find?_some hv
    have h2 := mem_vis.1 (List.mem_of_find?_eq_some hv)
    simp only [hit, Bool.and_eq_true, beq_iff_eq] at h1
    refine ⟨i, h2.1, h2.2, h1.1, h1.2, ?_⟩
    unfold findTr
    rw [hv]
theorem fillC_or {c : Cache} {x : Tr} (hx : mayFill x) (i : Nat) : (fillC c x).way i = x ∨ (fillC c x).way i = c.way i := by
  rw [fillC_eq hx]
  (repeat' split) <;> simp only [Cache.put, Cache.setDue] <;> split <;> first | exact .inl rfl | exact .inr rfl
theorem FreshC.trans {m : Nat → Int} {c : Cache} (h : FreshC m c) {q : Nat} (hq : q < 8) : FreshC m (trInC 8 m q ⟨0, 1, c⟩) ∧ ((trIn 8 m q ⟨0, 1, c⟩).2.2 = 0 ↔ wlkE 8 m 0 q = 0) ∧ (wlkE 8 m 0 q = 0 → (trIn 8 m q ⟨0, 1, c⟩).1 = wlkT 8 m 0 q 1) := by
  have hz : ¬ ((0 : Int) < 0) := by decide
  cases hf : findOk c 1 q with
  | true =>
    obtain ⟨e1, e2⟩ := tab_hit (N := 8) (m := m) hf
    rw [e1, e2]
    obtain ⟨i, hi, s0, _, hp, ht⟩ := findTr_of hf
    obtain ⟨p, hp8, hw, hway⟩ := h.way i hi s0
    have hpq : p = q := by
      rw [hway] at hp
      have : (p : Int) = (q : Int) := hp
      omega
    subst hpq
    exact ⟨h, ⟨fun _ => hw, fun _ => rfl⟩, fun _ => ht.trans hway⟩
  | false =>
    have hf' : ¬ findOk c 1 q = true := by rw [hf]; decide
    by_cases hw : wlkE 8 m 0 q = 0
    · have e1 : trIn 8 m q ⟨0, 1, c⟩ = (wlkT 8 m 0 q 1, false, 0) := by unfold trIn; dsimp only; rw [if_neg hz, if_neg hf', if_pos hw]
      have e2 : trInC 8 m q ⟨0, 1, c⟩ = fillC c (wlkT 8 m 0 q 1) := by unfold trInC; dsimp only; rw [if_neg hz, if_neg hf', if_pos hw]
      rw [e1, e2]
      refine ⟨⟨h.good.fill _, fun i hi s0 => ?_⟩, ⟨fun _ => hw, fun _ => rfl⟩, fun _ => rfl⟩
      rcases fillC_or (c := c) (wlkT_may 8 m 0 q hw (Int.le_refl 1)) i with e | e
      · exact ⟨q, hq, hw, e⟩
      · rw [e] at s0 ⊢
        exact h.way i hi s0
    · have e1 : trIn 8 m q ⟨0, 1, c⟩ = (Tr.zero, false, wlkE 8 m 0 q) := by unfold trIn; dsimp only; rw [if_neg hz, if_neg hf', if_neg hw]
      have e2 : trInC 8 m q ⟨0, 1, c⟩ = c := by unfold trInC; dsimp only; rw [if_neg hz, if_neg hf', if_neg hw]
      rw [e1, e2]
      exact ⟨h, Iff.rfl, fun h2 => absurd h2 hw⟩
theorem FreshC.store {m : Nat → Int} {c : Cache} (h : FreshC m c) (h0 : m 0 = 257) (h8 : m 8 = 513) {p : Nat} (hp : p < 8) (v : Int) : FreshC (upd m (16 + p) v) (dropAt c (isPage 1 p) (vis c 8)) := by
  have u0 : upd m (16 + p) v 0 = 257 := (upd_ne _ _ (by omega)).trans h0
  have u8 : upd m (16 + p) v 8 = 513 := (upd_ne _ _ (by omega)).trans h8
  refine ⟨h.good.drop _ _, fun i hi s0 => ?_⟩
  simp only [dropAt] at s0 ⊢
  by_cases hd : i ∈ vis c 8 ∧ isPage 1 p (c.way i) = true
  · rw [if_pos hd] at s0
    exact (s0 rfl).elim
  · rw [if_neg hd] at s0 ⊢
    obtain ⟨q, hq, hw, hway⟩ := h.way i hi s0
    have hne : q ≠ p := by
      rintro rfl
      refine hd ⟨mem_vis.2 ⟨hi, s0⟩, ?_⟩
      rw [hway]
      simp [isPage, wlkT]
    obtain ⟨a1, a2⟩ := tab_walk (N := 8) (m := m) (by decide) h0 h8 hq
    obtain ⟨b1, b2⟩ := tab_walk (N := 8) (m := upd m (16 + p) v) (by decide) u0 u8 hq
    rw [upd_ne _ _ (by omega : 16 + q ≠ 16 + p)] at b1 b2
    refine ⟨q, hq, by rw [b1, ← a1]; exact hw, ?_⟩
    rw [hway]
    unfold wlkT
    rw [b2, a2]
theorem FreshC.evict {m : Nat → Int} {c : Cache} (h : FreshC m c) (s k : Int) : FreshC m (evictC c s k) := by
  refine ⟨h.good.evict s k, fun i hi s0 => ?_⟩
  unfold evictC at s0 ⊢
  by_cases hm : 0 ≤ s ∧ s < 4 ∧ 0 ≤ k ∧ k < 2
  · rw [if_pos hm] at s0 ⊢
    simp only [Cache.put] at s0 ⊢
    by_cases e : i = 2 * s.toNat + k.toNat
    · rw [if_pos e] at s0; exact (s0 rfl).elim
    · rw [if_neg e] at s0 ⊢; exact h.way i hi s0
  · rw [if_neg hm] at s0 ⊢
    exact h.way i hi s0
/-- Two cores of one space, all of whose caches hold what walks tell. -/
def FreshK (m : Nat → Int) (K : Nat → Core) : Prop := ∀ k, k < 2 → (K k).rt = 0 ∧ (K k).sp = 1 ∧ FreshC m (K k).c
theorem FreshK.upd_ {m : Nat → Int} {K : Nat → Core} (hK : FreshK m K) (k : Nat) {c : Cache} (hc : FreshC m c) : FreshK m (upd K k ⟨0, 1, c⟩) := fun j hj => by
  unfold upd
  split
  · exact ⟨rfl, rfl, hc⟩
  · exact hK j hj
theorem FreshK.ok {m : Nat → Int} {K : Nat → Core} (hK : FreshK m K) : ∀ i, i < 2 → (K i).c.ok := fun i hi => (hK i hi).2.2.good.ok
theorem FreshK.eta {m : Nat → Int} {K : Nat → Core} (hK : FreshK m K) {k : Nat} (hk : k < 2) : K k = ⟨0, 1, (K k).c⟩ := by
  obtain ⟨a, b, _⟩ := hK k hk
  rw [← a, ← b]
theorem FreshK.trans {m : Nat → Int} {K : Nat → Core} (hK : FreshK m K) {k q : Nat} (hk : k < 2) (hq : q < 8) :
    FreshK m (trK 2 K 8 m k q) ∧ ((trV 2 K 8 m k q).2.2 = 0 ↔ wlkE 8 m 0 q = 0) ∧ (wlkE 8 m 0 q = 0 → (trV 2 K 8 m k q).1 = wlkT 8 m 0 q 1) := by
  have hm : trMay 2 k q := ⟨by omega, by omega, by omega, by omega⟩
  obtain ⟨a, b, c⟩ := (hK k hk).2.2.trans hq
  have e := hK.eta hk
  unfold trV trK
  rw [if_pos hm, if_pos hm, Int.toNat_natCast, (hK k hk).1, (hK k hk).2.1, e]
  exact ⟨hK.upd_ k a, b, c⟩
theorem FreshK.store {m : Nat → Int} {K : Nat → Core} (hK : FreshK m K) (h0 : m 0 = 257) (h8 : m 8 = 513) {p : Nat} (hp : p < 8) (v : Int) : FreshK (upd m (16 + p) v) (dropK K (isPage 1 p) 2) := fun k hk => by
  unfold dropK
  rw [if_pos hk]
  obtain ⟨a, b, c⟩ := hK k hk
  exact ⟨a, b, c.store h0 h8 hp v⟩
end Go.Proofs.Ytjnnimdgmcpjoaa
