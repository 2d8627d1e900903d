/- What holds of a cache behind any calls, with no program in sight. -/
import Derived.Test.YtlfenakabedmfaaTlbL
import Derived.Test.YtlfenakabedmfaaActs6
namespace Go.Proofs.Ytlfenakabedmfaa
/-- What is there may be filled in, lies in its own set, and no two are of one space and page. -/
structure Good (c : Cache) : Prop where
  ok : c.ok
  may : ∀ i, i < 8 → (c.way i).sp ≠ 0 → mayFill (c.way i) ∧ (c.way i).pg.toNat % 4 = i / 2
  one : ∀ i j, i < 8 → j < 8 → (c.way i).sp ≠ 0 → (c.way i).sp = (c.way j).sp → (c.way i).pg = (c.way j).pg → i = j
theorem Good.empty : Good Cache.empty := ⟨fun _ _ => .inl rfl, fun _ _ h => (h rfl).elim, fun _ _ _ _ h => (h rfl).elim⟩
/-- A cache of which some ways were emptied. -/
theorem Good.less {c c' : Cache} (h : Good c) (hd : c'.due = c.due) (hw : ∀ i, c'.way i = c.way i ∨ c'.way i = Tr.zero) : Good c' := by
  have hz : Tr.zero.sp = 0 := rfl
  refine ⟨fun s hs => by rw [hd]; exact h.ok s hs, fun i hi h0 => ?_, fun i j hi hj h0 h1 h2 => ?_⟩
  · rcases hw i with e | e
    · rw [e] at h0 ⊢; exact h.may i hi h0
    · rw [e] at h0; exact (h0 hz).elim
  · rcases hw i with e | e
    · rcases hw j with e' | e'
      · rw [e] at h0 h1 h2; rw [e'] at h1 h2; exact h.one i j hi hj h0 h1 h2
      · rw [e', hz] at h1; exact (h0 h1).elim
    · rw [e] at h0; exact (h0 hz).elim
theorem Good.evict {c : Cache} (h : Good c) (s k : Int) : Good (evictC c s k) := by
  unfold evictC
  split
  · refine h.less rfl fun i => ?_
    simp only [Cache.put]
    split
    · exact .inr rfl
    · exact .inl rfl
  · exact h
theorem Good.drop {c : Cache} (h : Good c) (P : Tr → Bool) (l : List Nat) : Good (dropAt c P l) := by
  refine h.less rfl fun i => ?_
  simp only [dropAt]
  split
  · exact .inr rfl
  · exact .inl rfl
/-- The way that a fill takes is the only one of its page, if there is one. -/
theorem Good.fillI_of {c : Cache} (h : Good c) {x : Tr} (hx : mayFill x) {j : Nat} (hj : j < 8) (h1 : (c.way j).sp = x.sp) (h2 : (c.way j).pg = x.pg) : j = fillI c x := by
  have h0 : (c.way j).sp ≠ 0 := by have := hx.1; omega
  have hs := (h.may j hj h0).2
  rw [h2] at hs
  have hm : ∀ k, k < 2 → (isM c (x.pg.toNat % 4) x.sp x.pg k = true ↔ j = 2 * (x.pg.toNat % 4) + k) := fun k hk => by
    unfold isM
    simp only [Bool.and_eq_true, beq_iff_eq]
    constructor
    · rintro ⟨e1, e2⟩
      exact h.one j _ hj (by omega) h0 (h1.trans e1.symm) (h2.trans e2.symm)
    · rintro rfl
      exact ⟨h1, h2⟩
  unfold fillI
  dsimp only
  rcases (show j = 2 * (x.pg.toNat % 4) ∨ j = 2 * (x.pg.toNat % 4) + 1 by omega) with e | e
  · have := (hm 0 (by decide)).2 (by omega)
    rw [if_pos (by unfold wayV; rw [if_pos this])]
    exact e
  · have e1 := (hm 1 (by decide)).2 e
    have e0 : ¬ isM c (x.pg.toNat % 4) x.sp x.pg 0 = true := fun e' => by have := (hm 0 (by decide)).1 e'; omega
    have hv : wayV c (x.pg.toNat % 4) x.sp x.pg = 1 := by unfold wayV; rw [if_neg e0, if_pos e1]
    rw [if_neg (by rw [hv]; decide), if_pos hv]
    exact e
theorem Good.fill {c : Cache} (h : Good c) (x : Tr) : Good (fillC c x) := by
  by_cases hx : mayFill x
  · have hl := fillI_lt c x
    refine ⟨fillC_ok h.ok x, fun i hi h0 => ?_, fun i j hi hj h0 h1 h2 => ?_⟩
    · rw [fillC_way hx] at h0 ⊢
      by_cases e : i = fillI c x
      · rw [if_pos e]
        exact ⟨hx, by rw [e]; exact (fillI_set c x).symm⟩
      · rw [if_neg e] at h0 ⊢
        exact h.may i hi h0
    · rw [fillC_way hx] at h0
      rw [fillC_way hx, fillC_way hx] at h1 h2
      by_cases e : i = fillI c x
      · by_cases e' : j = fillI c x
        · rw [e, e']
        · rw [if_pos e, if_neg e'] at h1 h2
          exact (e' (h.fillI_of hx hj h1.symm h2.symm)).elim
      · rw [if_neg e] at h0
        by_cases e' : j = fillI c x
        · rw [if_neg e, if_pos e'] at h1 h2
          exact (e (h.fillI_of hx hi h1 h2)).elim
        · rw [if_neg e, if_neg e'] at h1 h2
          exact h.one i j hi hj h0 h1 h2
  · rw [fillC_bad hx]; exact h
/-- What an act leaves. -/
def stepC (c : Cache) (x : Act6) : Cache :=
  if x.d = 0 then fillC c x.x else if x.d = 2 then evictC c x.s x.k else if x.d = 3 then dropAt c (isPage x.x.sp x.x.pg) (vis c 8) else if x.d = 4 then dropAt c (isSpace x.x.sp) (vis c 8) else c
theorem Good.step {c : Cache} (h : Good c) (x : Act6) : Good (stepC c x) := by
  unfold stepC
  repeat' split
  · exact h.fill _
  · exact h.evict _ _
  · exact h.drop _ _
  · exact h.drop _ _
  · exact h
/-- What is found. -/
theorem Good.find {c : Cache} (h : Good c) {i : Nat} (hi : i < 8) (h0 : (c.way i).sp ≠ 0) : findV c (c.way i).sp (c.way i).pg = some i :=
  findV_one hi h0 (hit_iff.2 ⟨rfl, rfl⟩) fun j hj hj0 hh => by
    have e := hit_iff.1 hh
    exact h.one j i hj hi hj0 e.1 e.2
end Go.Proofs.Ytlfenakabedmfaa
