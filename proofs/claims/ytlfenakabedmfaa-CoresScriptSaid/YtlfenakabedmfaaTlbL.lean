/- What a cache's calls leave, with no program in sight. -/
import Derived.Test.YtlfenakabedmfaaTlb8
namespace Go.Proofs.Ytlfenakabedmfaa
/-- Which way a fill takes. -/
def fillI (c : Cache) (x : Tr) : Nat :=
  let s := x.pg.toNat % 4
  if wayV c s x.sp x.pg = 0 then 2 * s else if wayV c s x.sp x.pg = 1 then 2 * s + 1 else if c.due s = 0 then 2 * s else 2 * s + 1
theorem fillI_set (c : Cache) (x : Tr) : fillI c x / 2 = x.pg.toNat % 4 := by
  unfold fillI
  dsimp only
  repeat' split
  all_goals omega
theorem fillI_lt (c : Cache) (x : Tr) : fillI c x < 8 := by
  have h := fillI_set c x
  have h2 := Nat.mod_lt x.pg.toNat (show 0 < 4 by decide)
  omega
theorem fillC_way {c : Cache} {x : Tr} (h : mayFill x) (j : Nat) : (fillC c x).way j = if j = fillI c x then x else c.way j := by
  obtain ⟨a, p, fr, rd, wb⟩ := x
  unfold fillC fillI
  dsimp only
  rw [if_pos (show 1 ≤ a ∧ 0 ≤ p ∧ p < 512 ∧ 0 ≤ fr ∧ fr < 64 ∧ (rd = true ∨ wb = true) from h)]
  by_cases h1 : wayV c (p.toNat % 4) a p = 0
  · rw [if_pos h1, if_pos h1]; rfl
  · rw [if_neg h1, if_neg h1]
    by_cases h2 : wayV c (p.toNat % 4) a p = 1
    · rw [if_pos h2, if_pos h2]; rfl
    · rw [if_neg h2, if_neg h2]
      by_cases h3 : c.due (p.toNat % 4) = 0
      · rw [if_pos h3, if_pos h3]; rfl
      · rw [if_neg h3, if_neg h3]; rfl
theorem fillC_bad {c : Cache} {x : Tr} (h : ¬ mayFill x) : fillC c x = c := by
  obtain ⟨a, p, fr, rd, wb⟩ := x
  exact if_neg h
theorem fillE_good {x : Tr} (h : mayFill x) : fillE x = 0 := if_pos h
theorem fillE_bad {x : Tr} (h : ¬ mayFill x) : fillE x = 2 := if_neg h
/-- A find that one way alone answers. -/
theorem findV_one {c : Cache} {sp pg : Int} {i : Nat} (hi : i < 8) (h0 : (c.way i).sp ≠ 0) (hh : hit c sp pg i = true) (hu : ∀ j, j < 8 → (c.way j).sp ≠ 0 → hit c sp pg j = true → j = i) : findV c sp pg = some i :=
  findV_hit hi h0 (fun j hj => by
    have hm := mem_vis.1 hj
    cases e : hit c sp pg j with
    | false => rfl
    | true => have := hu j (by omega) hm.2 e; omega) hh
theorem findV_no {c : Cache} {sp pg : Int} (hu : ∀ j, j < 8 → (c.way j).sp ≠ 0 → hit c sp pg j = true → False) : findV c sp pg = none :=
  findV_none fun j hj => by
    have hm := mem_vis.1 hj
    cases e : hit c sp pg j with
    | false => rfl
    | true => exact (hu j hm.1 hm.2 e).elim
theorem hit_iff {c : Cache} {sp pg : Int} {i : Nat} : hit c sp pg i = true ↔ (c.way i).sp = sp ∧ (c.way i).pg = pg := by simp [hit]
/-- How many translations a set has. -/
def cnt (c : Cache) (s : Nat) : Nat := (if (c.way (2 * s)).sp ≠ 0 then 1 else 0) + if (c.way (2 * s + 1)).sp ≠ 0 then 1 else 0
theorem vis_succ_len (c : Cache) (n : Nat) : (vis c (n + 1)).length = (vis c n).length + if (c.way n).sp ≠ 0 then 1 else 0 := by
  by_cases h : (c.way n).sp = 0
  · rw [vis_no (by simp [h]), if_neg (fun hh => hh h)]; rfl
  · rw [vis_yes (by simp [h]), if_pos h]; simp
theorem vis_cnt (c : Cache) : (vis c 8).length = cnt c 0 + cnt c 1 + cnt c 2 + cnt c 3 := by
  rw [vis_succ_len, vis_succ_len, vis_succ_len, vis_succ_len, vis_succ_len, vis_succ_len, vis_succ_len, vis_succ_len]
  simp only [cnt, vis, List.range_zero, List.filter_nil, List.length_nil, Nat.reduceMul, Nat.reduceAdd]
  omega
/-- A set into which Z 0, Z 1, .., Z (m - 1) were filled, one behind the other. -/
def SetAt (c : Cache) (s : Nat) (Z : Nat → Tr) : Nat → Prop
  | 0 => (c.way (2 * s)).sp = 0 ∧ (c.way (2 * s + 1)).sp = 0 ∧ c.due s = 0
  | 1 => c.way (2 * s) = Z 0 ∧ (c.way (2 * s + 1)).sp = 0 ∧ c.due s = 0
  | m + 2 => c.way (2 * s + m % 2) = Z m ∧ c.way (2 * s + (m + 1) % 2) = Z (m + 1) ∧ c.due s = (m % 2 : Nat)
theorem SetAt.other {c c' : Cache} {s : Nat} {Z : Nat → Tr} {m : Nat} (h : SetAt c s Z m) (h0 : c'.way (2 * s) = c.way (2 * s)) (h1 : c'.way (2 * s + 1) = c.way (2 * s + 1)) (hd : c'.due s = c.due s) : SetAt c' s Z m := by
  match m, h with
  | 0, h => exact ⟨by rw [h0]; exact h.1, by rw [h1]; exact h.2.1, hd.trans h.2.2⟩
  | 1, h => exact ⟨by rw [h0]; exact h.1, by rw [h1]; exact h.2.1, hd.trans h.2.2⟩
  | m + 2, h =>
    obtain ⟨a, b, d⟩ := h
    rcases Nat.mod_two_eq_zero_or_one m with e | e
    · have e1 : (m + 1) % 2 = 1 := by omega
      rw [e] at a; rw [e1] at b
      exact ⟨by rw [e]; exact h0.trans a, by rw [e1]; exact h1.trans b, hd.trans d⟩
    · have e1 : (m + 1) % 2 = 0 := by omega
      rw [e] at a; rw [e1] at b
      exact ⟨by rw [e]; exact h1.trans a, by rw [e1]; exact h0.trans b, hd.trans d⟩
theorem fillC_eq {c : Cache} {x : Tr} (h : mayFill x) : fillC c x = if wayV c (x.pg.toNat % 4) x.sp x.pg = 0 then c.put (2 * (x.pg.toNat % 4)) x else if wayV c (x.pg.toNat % 4) x.sp x.pg = 1 then c.put (2 * (x.pg.toNat % 4) + 1) x else if c.due (x.pg.toNat % 4) = 0 then (c.setDue (x.pg.toNat % 4) 1).put (2 * (x.pg.toNat % 4)) x else (c.setDue (x.pg.toNat % 4) 0).put (2 * (x.pg.toNat % 4) + 1) x := by
  obtain ⟨a, p, fr, rd, wb⟩ := x
  exact if_pos h
theorem fill_others {c : Cache} {x : Tr} {s : Nat} {Z : Nat → Tr} {m : Nat} (hs : s ≠ x.pg.toNat % 4) (h : SetAt c s Z m) : SetAt (fillC c x) s Z m := by
  by_cases hx : mayFill x
  · have hI := fillI_set c x
    refine h.other ?_ ?_ ?_
    · rw [fillC_way hx, if_neg (by omega)]
    · rw [fillC_way hx, if_neg (by omega)]
    · rw [fillC_eq hx]
      repeat' split
      all_goals simp [Cache.put, Cache.setDue, hs]
  · rw [fillC_bad hx]; exact h
theorem isM_no {c : Cache} {s k : Nat} {a p : Int} (h : (c.way (2 * s + k)).sp = 0 ∨ (c.way (2 * s + k)).pg ≠ p) (ha : 1 ≤ a) : isM c s a p k = false := by
  unfold isM
  rcases h with h | h
  · rw [h, show ((0 : Int) == a) = false by simpa using (by omega)]; rfl
  · rw [show ((c.way (2 * s + k)).pg == p) = false by simpa using h, Bool.and_false]
theorem fill_next {c : Cache} {s m : Nat} {Z : Nat → Tr} (h : SetAt c s Z m) (hx : mayFill (Z m)) (hp : (Z m).pg.toNat % 4 = s) (hz : ∀ j, j < m → m ≤ j + 2 → (Z j).pg ≠ (Z m).pg ∧ (Z j).sp ≠ 0) : SetAt (fillC c (Z m)) s Z (m + 1) := by
  have e := fillC_eq (c := c) hx
  rw [hp] at e
  have ha := hx.1
  match m, h, hx, e, hz, ha with
  | 0, h, hx, e, hz, ha =>
    obtain ⟨a, b, d⟩ := h
    have hv : wayV c s (Z 0).sp (Z 0).pg = 0 := by
      refine wayV_E (k := 0) (by decide) (fun j hj => ?_) (by simp [isE, a]) (fun j hj => by omega)
      match j, hj with
      | 0, _ => exact isM_no (.inl a) ha
      | 1, _ => exact isM_no (.inl b) ha
    rw [if_pos hv] at e
    rw [e]
    exact ⟨by simp [Cache.put], by simp only [Cache.put]; rw [if_neg (by omega)]; exact b, d⟩
  | 1, h, hx, e, hz, ha =>
    obtain ⟨a, b, d⟩ := h
    have hv : wayV c s (Z 1).sp (Z 1).pg = 1 := by
      refine wayV_E (k := 1) (by decide) (fun j hj => ?_) (by simp [isE, b]) (fun j hj => ?_)
      · match j, hj with
        | 0, _ => exact isM_no (.inr (by simp only [Nat.add_zero]; rw [a]; exact (hz 0 (by decide) (by decide)).1)) ha
        | 1, _ => exact isM_no (.inl b) ha
      · obtain rfl : j = 0 := by omega
        have := (hz 0 (by decide) (by decide)).2
        simp only [isE, Nat.add_zero]
        rw [a]
        simpa using this
    rw [if_neg (by rw [hv]; decide), if_pos hv] at e
    rw [e]
    refine ⟨?_, ?_, d⟩
    · show (if 2 * s + 0 = 2 * s + 1 then Z 1 else c.way (2 * s + 0)) = Z 0
      rw [if_neg (by omega)]; exact a
    · show (if 2 * s + 1 = 2 * s + 1 then Z 1 else c.way (2 * s + 1)) = Z 1
      rw [if_pos rfl]
  | m + 2, h, hx, e, hz, ha =>
    obtain ⟨a, b, d⟩ := h
    have z0 := hz m (by omega) (by omega)
    have z1 := hz (m + 1) (by omega) (by omega)
    have hall : ∀ j, j < 2 → (c.way (2 * s + j)).pg ≠ (Z (m + 2)).pg ∧ (c.way (2 * s + j)).sp ≠ 0 := fun j hj => by
      by_cases ej : j = m % 2
      · rw [ej, a]; exact z0
      · have : j = (m + 1) % 2 := by omega
        rw [this, b]; exact z1
    have hv : wayV c s (Z (m + 2)).sp (Z (m + 2)).pg = -1 := wayV_none (fun j hj => isM_no (.inr (hall j hj).1) ha) (fun j hj => by simpa [isE] using (hall j hj).2)
    rw [if_neg (by rw [hv]; decide), if_neg (by rw [hv]; decide)] at e
    rcases Nat.mod_two_eq_zero_or_one m with em | em
    · have e1 : (m + 1) % 2 = 1 := by omega
      have e2 : (m + 1 + 1) % 2 = 0 := by omega
      rw [em] at d
      rw [if_pos (show c.due s = 0 from d)] at e
      rw [e]
      refine ⟨?_, ?_, ?_⟩
      · rw [e1] at b ⊢
        show (if 2 * s + 1 = 2 * s then Z (m + 2) else c.way (2 * s + 1)) = _
        rw [if_neg (by omega)]; exact b
      · rw [e2]
        show (if 2 * s + 0 = 2 * s then Z (m + 2) else c.way (2 * s + 0)) = _
        rw [if_pos (Nat.add_zero _)]
      · rw [e1]
        show (if s = s then (1 : Int) else c.due s) = _
        rw [if_pos rfl]; rfl
    · have e1 : (m + 1) % 2 = 0 := by omega
      have e2 : (m + 1 + 1) % 2 = 1 := by omega
      rw [em] at d
      rw [if_neg (by rw [d]; decide)] at e
      rw [e]
      refine ⟨?_, ?_, ?_⟩
      · rw [e1] at b ⊢
        show (if 2 * s + 0 = 2 * s + 1 then Z (m + 2) else c.way (2 * s + 0)) = _
        rw [if_neg (by omega)]; exact b
      · rw [e2]
        show (if 2 * s + 1 = 2 * s + 1 then Z (m + 2) else c.way (2 * s + 1)) = _
        rw [if_pos rfl]
      · rw [e1]
        show (if s = s then (0 : Int) else c.due s) = _
        rw [if_pos rfl]; rfl
theorem SetAt.cnt_ {c : Cache} {s m : Nat} {Z : Nat → Tr} (h : SetAt c s Z m) (hz : ∀ j, j < m → (Z j).sp ≠ 0) : cnt c s = min m 2 := by
  match m, h with
  | 0, h => simp [cnt, h.1, h.2.1]
  | 1, h => rw [cnt, h.1, if_pos (hz 0 (by decide)), h.2.1]; rfl
  | m + 2, h =>
    obtain ⟨a, b, _⟩ := h
    have hall : ∀ j, j < 2 → (c.way (2 * s + j)).sp ≠ 0 := fun j hj => by
      by_cases ej : j = m % 2
      · rw [ej, a]; exact hz _ (by omega)
      · have : j = (m + 1) % 2 := by omega
        rw [this, b]; exact hz _ (by omega)
    rw [cnt, if_pos (show (c.way (2 * s)).sp ≠ 0 from hall 0 (by decide)), if_pos (hall 1 (by decide))]
    omega
/-- What lies in a set is one of the last two. -/
theorem SetAt.mem {c : Cache} {s m : Nat} {Z : Nat → Tr} (h : SetAt c s Z m) {i : Nat} (hi : i / 2 = s) (h0 : (c.way i).sp ≠ 0) : ∃ j, j < m ∧ m ≤ j + 2 ∧ c.way i = Z j := by
  have hi2 : i = 2 * s ∨ i = 2 * s + 1 := by omega
  match m, h with
  | 0, h => rcases hi2 with rfl | rfl; exact (h0 h.1).elim; exact (h0 h.2.1).elim
  | 1, h => rcases hi2 with rfl | rfl; exact ⟨0, by decide, by decide, h.1⟩; exact (h0 h.2.1).elim
  | m + 2, h =>
    obtain ⟨a, b, _⟩ := h
    by_cases ej : i = 2 * s + m % 2
    · exact ⟨m, by omega, by omega, by rw [ej]; exact a⟩
    · have : i = 2 * s + (m + 1) % 2 := by omega
      exact ⟨m + 1, by omega, by omega, by rw [this]; exact b⟩
theorem SetAt.has {c : Cache} {s m : Nat} {Z : Nat → Tr} (h : SetAt c s Z m) {j : Nat} (hj : j < m) (hm : m ≤ j + 2) : ∃ i, i / 2 = s ∧ c.way i = Z j := by
  match m, h with
  | 0, h => omega
  | 1, h => obtain rfl : j = 0 := by omega
            exact ⟨2 * s, by omega, h.1⟩
  | m + 2, h =>
    obtain ⟨a, b, _⟩ := h
    rcases (show j = m ∨ j = m + 1 by omega) with rfl | rfl
    · exact ⟨2 * s + j % 2, by omega, a⟩
    · exact ⟨2 * s + (m + 1) % 2, by omega, b⟩
theorem SetAt.once {c : Cache} {s m : Nat} {Z : Nat → Tr} (h : SetAt c s Z m) {i i' : Nat} (hi : i / 2 = s) (hi' : i' / 2 = s) (h0 : (c.way i).sp ≠ 0) (h0' : (c.way i').sp ≠ 0) (hw : c.way i = c.way i') (hd : ∀ j, j + 1 < m → Z j ≠ Z (j + 1)) : i = i' := by
  have h1 : i = 2 * s ∨ i = 2 * s + 1 := by omega
  have h2 : i' = 2 * s ∨ i' = 2 * s + 1 := by omega
  match m, h with
  | 0, h => rcases h1 with rfl | rfl; exact (h0 h.1).elim; exact (h0 h.2.1).elim
  | 1, h =>
    rcases h1 with rfl | rfl
    · rcases h2 with rfl | rfl
      · rfl
      · exact (h0' h.2.1).elim
    · exact (h0 h.2.1).elim
  | m + 2, h =>
    obtain ⟨a, b, _⟩ := h
    have hne := hd m (by omega)
    by_cases e : i = i'
    · exact e
    · exfalso
      rcases (show (i = 2 * s + m % 2 ∧ i' = 2 * s + (m + 1) % 2) ∨ (i' = 2 * s + m % 2 ∧ i = 2 * s + (m + 1) % 2) by omega) with ⟨e1, e2⟩ | ⟨e1, e2⟩
      · rw [e1, e2, a, b] at hw
        exact hne hw
      · rw [e1, e2, a, b] at hw
        exact hne hw.symm
/-- The pages that TlbLast fills, of one set and the next. -/
def pgL (f k j : Nat) : Nat := 4 * ((f + j) % 128) + k
def trX (s f k j : Nat) : Tr := ⟨s, pgL f k j, ((pgL f k j : Nat) : Int) % 64, true, false⟩
def trY (s f k j : Nat) : Tr := ⟨s, (((pgL f k j : Nat) : Int) + 1) % 512, 0, false, true⟩
theorem pgL_lt (f k j : Nat) (hk : k < 4) : pgL f k j < 512 := by unfold pgL; omega
theorem pgL_set (f k j : Nat) (hk : k < 4) : pgL f k j % 4 = k := by unfold pgL; omega
theorem pgL_next (f k j : Nat) (_ : k < 4) : (pgL f k j + 1) % 512 % 4 = (k + 1) % 4 := by unfold pgL; omega
theorem pgL_ne (f k : Nat) {i j : Nat} (h : i < j) (h2 : j ≤ i + 2) : pgL f k i ≠ pgL f k j := by unfold pgL; omega
theorem pgL_ne1 (f k : Nat) (_ : k < 4) {i j : Nat} (h : i < j) (h2 : j ≤ i + 2) : (pgL f k i + 1) % 512 ≠ (pgL f k j + 1) % 512 := by unfold pgL; omega
theorem mayX (s f k j : Nat) (hs : 1 ≤ s) (hk : k < 4) : mayFill (trX s f k j) := by
  have := pgL_lt f k j hk
  refine ⟨?_, ?_, ?_, ?_, ?_, .inl rfl⟩ <;> simp only [trX] <;> omega
theorem mayY (s f k j : Nat) (hs : 1 ≤ s) (_ : k < 4) : mayFill (trY s f k j) := by
  refine ⟨?_, ?_, ?_, ?_, ?_, .inr rfl⟩ <;> simp only [trY] <;> omega
/-- What a cache has behind m rounds of TlbLast. -/
structure Last (s f k m : Nat) (c : Cache) : Prop where
  x : SetAt c k (trX s f k) m
  y : SetAt c ((k + 1) % 4) (trY s f k) m
  r : ∀ q, q < 4 → q ≠ k → q ≠ (k + 1) % 4 → SetAt c q (trX s f k) 0
  ok : c.ok
theorem Last.zero (s f k : Nat) : Last s f k 0 Cache.empty := ⟨⟨rfl, rfl, rfl⟩, ⟨rfl, rfl, rfl⟩, fun _ _ _ _ => ⟨rfl, rfl, rfl⟩, fun _ _ => .inl rfl⟩
theorem Last.next {s f k m : Nat} {c : Cache} (h : Last s f k m c) (hs : 1 ≤ s) (hk : k < 4) : Last s f k (m + 1) (fillC (fillC c (trX s f k m)) (trY s f k m)) := by
  have p1 : (trX s f k m).pg.toNat % 4 = k := pgL_set f k m hk
  have p2 : (trY s f k m).pg.toNat % 4 = (k + 1) % 4 := by
    have := pgL_next f k m hk
    simp only [trY]
    omega
  refine ⟨?_, ?_, ?_, fillC_ok (fillC_ok h.ok _) _⟩
  · refine fill_others (by rw [p2]; omega) (fill_next h.x (mayX s f k m hs hk) p1 fun j hj hj2 => ⟨?_, ?_⟩)
    · have := pgL_ne f k hj hj2
      simp only [trX]; omega
    · simp only [trX]; omega
  · refine fill_next (fill_others (by rw [p1]; omega) h.y) (mayY s f k m hs hk) p2 fun j hj hj2 => ⟨?_, ?_⟩
    · have := pgL_ne1 f k hk hj hj2
      simp only [trY]; omega
    · simp only [trY]; omega
  · exact fun q hq h1 h2 => fill_others (by rw [p2]; exact h2) (fill_others (by rw [p1]; exact h1) (h.r q hq h1 h2))
theorem Last.len {s f k m : Nat} {c : Cache} (h : Last s f k m c) (hs : 1 ≤ s) (hk : k < 4) : (vis c 8).length = 2 * min m 2 := by
  rw [vis_cnt]
  have cx := h.x.cnt_ (fun j _ => by simp only [trX]; omega)
  have cy := h.y.cnt_ (fun j _ => by simp only [trY]; omega)
  have cr : ∀ q, q < 4 → q ≠ k → q ≠ (k + 1) % 4 → cnt c q = 0 := fun q hq h1 h2 => by have := (h.r q hq h1 h2).cnt_ (fun j hj => by omega); simpa using this
  match k, hk with
  | 0, _ => rw [cx, cy, cr 2 (by decide) (by decide) (by decide), cr 3 (by decide) (by decide) (by decide)]; omega
  | 1, _ => rw [cx, cy, cr 0 (by decide) (by decide) (by decide), cr 3 (by decide) (by decide) (by decide)]; omega
  | 2, _ => rw [cx, cy, cr 0 (by decide) (by decide) (by decide), cr 1 (by decide) (by decide) (by decide)]; omega
  | 3, _ => rw [cx, cy, cr 1 (by decide) (by decide) (by decide), cr 2 (by decide) (by decide) (by decide)]; omega
/-- What hits a page of set k is one of the last two X. -/
theorem Last.hits {s f k m : Nat} {c : Cache} (h : Last s f k m c) (hk : k < 4) {p : Nat} (hp : p % 4 = k) {i : Nat} (hi : i < 8) (h0 : (c.way i).sp ≠ 0) (hh : hit c s p i = true) : ∃ j, j < m ∧ m ≤ j + 2 ∧ i / 2 = k ∧ c.way i = trX s f k j ∧ pgL f k j = p := by
  have hpg := (hit_iff.1 hh).2
  by_cases e1 : i / 2 = k
  · obtain ⟨j, h1, h2, h3⟩ := h.x.mem e1 h0
    refine ⟨j, h1, h2, e1, h3, ?_⟩
    rw [h3] at hpg
    simp only [trX] at hpg
    omega
  · by_cases e2 : i / 2 = (k + 1) % 4
    · obtain ⟨j, h1, h2, h3⟩ := h.y.mem e2 h0
      rw [h3] at hpg
      simp only [trY] at hpg
      have := pgL_next f k j hk
      omega
    · obtain ⟨j, h1, _⟩ := (h.r (i / 2) (by omega) e1 e2).mem rfl h0
      omega
theorem Last.gone {s f k m : Nat} {c : Cache} (h : Last s f k (m + 3) c) (hk : k < 4) : findOk c s (pgL f k m) = false := by
  unfold findOk
  rw [findV_no]
  · rfl
  · intro i hi h0 hh
    obtain ⟨j, h1, h2, _, _, h3⟩ := h.hits hk (pgL_set f k m hk) hi h0 hh
    exact pgL_ne f k (show m < j by omega) (by omega) h3.symm
theorem Last.there {s f k m j : Nat} {c : Cache} (h : Last s f k m c) (hs : 1 ≤ s) (hk : k < 4) (hj : j < m) (hj2 : m ≤ j + 2) : findTr c s (pgL f k j) = trX s f k j ∧ findOk c s (pgL f k j) = true := by
  obtain ⟨i, hi, hw⟩ := h.x.has hj hj2
  have hv : findV c s (pgL f k j) = some i := by
    refine findV_one (by omega) (by rw [hw]; simp only [trX]; omega) (hit_iff.2 (by rw [hw]; exact ⟨rfl, rfl⟩)) fun i' hi' h0 hh => ?_
    obtain ⟨j', h1, h2, h3, h4, h5⟩ := h.hits hk (pgL_set f k j hk) hi' h0 hh
    by_cases ee : i' = i
    · exact ee
    · exfalso
      have hjj : j' = j := by
        rcases Nat.lt_trichotomy j' j with hlt | heq | hgt
        · exact (pgL_ne f k hlt (by omega) h5).elim
        · exact heq
        · exact (pgL_ne f k hgt (by omega) h5.symm).elim
      subst hjj
      refine ee (h.x.once h3 hi h0 (by rw [hw]; simp only [trX]; omega) (by rw [h4, hw]) fun j2 _ e => ?_)
      have := congrArg Tr.pg e
      have := pgL_ne f k (show j2 < j2 + 1 by omega) (by omega)
      simp only [trX] at *
      omega
  unfold findTr findOk
  rw [hv]
  exact ⟨hw, rfl⟩
end Go.Proofs.Ytlfenakabedmfaa
