/- Caches that hold pages of one space of the first table, of which no two are thrown out by a third: what fetching and evicting leaves. -/
import Derived.Test.YtjnnimdgmcpjoaaLaw7b
namespace Go.Proofs.Ytjnnimdgmcpjoaa
open Go.RowKit Go.Shelf
theorem findOk_iff {c : Cache} {sp pg : Int} : findOk c sp pg = true ↔ ∃ i, i < 8 ∧ (c.way i).sp ≠ 0 ∧ (c.way i).sp = sp ∧ (c.way i).pg = pg := by
  unfold findOk findV
  rw [List.find?_isSome]
  constructor
  · rintro ⟨i, hi, hh⟩
    obtain ⟨h1, h2⟩ := mem_vis.1 hi
    simp only [hit, Bool.and_eq_true, beq_iff_eq] at hh
    exact ⟨i, h1, h2, hh.1, hh.2⟩
  · rintro ⟨i, h1, h2, h3, h4⟩
    exact ⟨i, mem_vis.2 ⟨h1, h2⟩, by simp [hit, h3, h4]⟩
theorem findOk_no {c : Cache} {sp pg : Int} (h : findOk c sp pg = false) {i : Nat} (hi : i < 8) (h0 : (c.way i).sp ≠ 0) (h1 : (c.way i).sp = sp) : (c.way i).pg ≠ pg := fun h2 => by
  have := findOk_iff.2 ⟨i, hi, h0, h1, h2⟩
  rw [h] at this
  cases this
structure OwnC (c : Cache) : Prop where
  good : Good c
  own : ∀ i, i < 8 → (c.way i).sp ≠ 0 → ∃ p, p < 8 ∧ c.way i = tD 1 p
theorem OwnC.empty : OwnC Cache.empty := ⟨Good.empty, fun _ _ h => (h rfl).elim⟩
theorem OwnC.fill_way {c : Cache} (h : OwnC c) {p : Nat} (hp : p < 8) (hf : findOk c 1 p = false) : ∃ j, j < 8 ∧ (c.way j).sp = 0 ∧ fillC c (tD 1 p) = c.put j (tD 1 p) := by
  have hm : mayFill (tD 1 p) := ⟨by show (1 : Int) ≤ 1; decide, by show (0 : Int) ≤ (p : Int); omega, by show (p : Int) < 512; omega, by show (0 : Int) ≤ 3; decide, by show (3 : Int) < 64; decide, .inl rfl⟩
  have hs : (tD 1 p).pg.toNat % 4 = p % 4 := by show ((p : Int)).toNat % 4 = _; omega
  have he := fillC_eq (c := c) hm
  rw [hs] at he
  rw [he]
  have hs4 : p % 4 < 4 := Nat.mod_lt _ (by decide)
  have nm : ∀ k, k < 2 → isM c (p % 4) (tD 1 p).sp (tD 1 p).pg k = false := fun k hk => by
    unfold isM
    rw [Bool.and_eq_false_iff]
    by_cases h1 : (c.way (2 * (p % 4) + k)).sp = 1
    · exact .inr (beq_eq_false_iff_ne.2 (findOk_no hf (by omega) (by rw [h1]; decide) h1))
    · exact .inl (beq_eq_false_iff_ne.2 h1)
  by_cases e0 : (c.way (2 * (p % 4))).sp = 0
  · have hv : wayV c (p % 4) (tD 1 p).sp (tD 1 p).pg = 0 := by
      unfold wayV
      rw [nm 0 (by decide), nm 1 (by decide)]
      simp [isE, e0]
    exact ⟨2 * (p % 4), by omega, e0, by rw [if_pos hv]⟩
  · by_cases e1 : (c.way (2 * (p % 4) + 1)).sp = 0
    · have hv : wayV c (p % 4) (tD 1 p).sp (tD 1 p).pg = 1 := by
        unfold wayV
        rw [nm 0 (by decide), nm 1 (by decide)]
        simp [isE, e0, e1]
      exact ⟨2 * (p % 4) + 1, by omega, e1, by rw [if_neg (by rw [hv]; decide), if_pos hv]⟩
    · exfalso
      obtain ⟨a, ha, wa⟩ := h.own _ (by omega) e0
      obtain ⟨b, hb, wb⟩ := h.own _ (by omega) e1
      have sa := (h.good.may _ (by omega) e0).2
      have sb := (h.good.may _ (by omega) e1).2
      have na := findOk_no hf (by omega) e0 (by rw [wa]; rfl)
      have nb := findOk_no hf (by omega) e1 (by rw [wb]; rfl)
      have hab := fun he => h.good.one (2 * (p % 4)) (2 * (p % 4) + 1) (by omega) (by omega) e0 (by rw [wa, wb]; rfl) he
      rw [wa] at sa na; rw [wb] at sb nb; rw [wa, wb] at hab
      have sa' : a % 4 = (2 * (p % 4)) / 2 := sa
      have sb' : b % 4 = (2 * (p % 4) + 1) / 2 := sb
      have na' : (a : Int) ≠ (p : Int) := na
      have nb' : (b : Int) ≠ (p : Int) := nb
      have hab' : (a : Int) = (b : Int) → 2 * (p % 4) = 2 * (p % 4) + 1 := hab
      have : a ≠ b := fun e => by have := hab' (by rw [e]); omega
      omega
theorem OwnC.fill {c : Cache} (h : OwnC c) {p : Nat} (hp : p < 8) (hf : findOk c 1 p = false) : OwnC (fillC c (tD 1 p)) ∧ ∀ q : Nat, q < 8 → findOk (fillC c (tD 1 p)) 1 q = (findOk c 1 q || q == p) := by
  obtain ⟨j, hj, e0, hE⟩ := h.fill_way hp hf
  refine ⟨⟨h.good.fill _, fun i hi h0 => ?_⟩, fun q hq => ?_⟩
  · rw [hE] at h0 ⊢
    simp only [Cache.put] at h0 ⊢
    by_cases e : i = j
    · rw [if_pos e]; exact ⟨p, hp, rfl⟩
    · rw [if_neg e] at h0 ⊢; exact h.own i hi h0
  · rw [hE, Bool.eq_iff_iff, Bool.or_eq_true, findOk_iff, findOk_iff, beq_iff_eq]
    constructor
    · rintro ⟨i, hi, h0, h1, h2⟩
      simp only [Cache.put] at h0 h1 h2
      by_cases e : i = j
      · rw [if_pos e] at h2
        right
        have h2' : (p : Int) = (q : Int) := h2
        omega
      · rw [if_neg e] at h0 h1 h2
        exact .inl ⟨i, hi, h0, h1, h2⟩
    · rintro (⟨i, hi, h0, h1, h2⟩ | rfl)
      · have e : i ≠ j := fun e => h0 (e ▸ e0)
        exact ⟨i, hi, by simp only [Cache.put]; rw [if_neg e]; exact h0, by simp only [Cache.put]; rw [if_neg e]; exact h1, by simp only [Cache.put]; rw [if_neg e]; exact h2⟩
      · exact ⟨j, hj, by simp [Cache.put, tD], by simp [Cache.put, tD], by simp [Cache.put, tD]⟩
/-- As many are there as pages are found. -/
theorem OwnC.count {c : Cache} (h : OwnC c) : (vis c 8).length = ((List.range 8).filter fun q => findOk c 1 (q : Nat)).length := by
  have hpg : ∀ i, i ∈ vis c 8 → ∃ p, p < 8 ∧ c.way i = tD 1 p := fun i hi => h.own i (mem_vis.1 hi).1 (mem_vis.1 hi).2
  have hp : ((vis c 8).map fun i => (c.way i).pg.toNat).Perm ((List.range 8).filter fun q => findOk c 1 (q : Nat)) := by
    refine (List.perm_ext_iff_of_nodup ?_ (List.Pairwise.filter _ List.nodup_range)).2 (fun q => ?_)
    · refine List.pairwise_map.2 (List.Pairwise.imp_of_mem (fun {i k} hi hk hlt e => ?_) (vis_pair c))
      refine absurd ?_ (Nat.ne_of_lt hlt)
      obtain ⟨a, ha, wa⟩ := hpg i hi
      obtain ⟨b, hb, wb⟩ := hpg k hk
      refine h.good.one i k (mem_vis.1 hi).1 (mem_vis.1 hk).1 (mem_vis.1 hi).2 (by rw [wa, wb]; rfl) ?_
      rw [wa, wb] at e ⊢
      have e' : ((a : Int)).toNat = ((b : Int)).toNat := e
      show (a : Int) = (b : Int)
      omega
    · rw [List.mem_map, List.mem_filter, List.mem_range, findOk_iff]
      constructor
      · rintro ⟨i, hi, rfl⟩
        obtain ⟨a, ha, wa⟩ := hpg i hi
        have e : (c.way i).pg.toNat = a := by rw [wa]; show ((a : Int)).toNat = a; omega
        rw [e]
        exact ⟨ha, i, (mem_vis.1 hi).1, (mem_vis.1 hi).2, by rw [wa]; rfl, by rw [wa]; rfl⟩
      · rintro ⟨hq, i, hi, h0, h1, h2⟩
        exact ⟨i, mem_vis.2 ⟨hi, h0⟩, by rw [h2]; omega⟩
  have := hp.length_eq
  rwa [List.length_map] at this
theorem evict0 (c : Cache) : evictC c 0 0 = c.put 0 Tr.zero ∧ evictB c 0 0 = ((c.way 0).sp != 0) := by
  unfold evictC evictB
  rw [if_pos (by decide), if_pos (by decide)]
  exact ⟨rfl, rfl⟩
theorem vis_head (c : Cache) : (vis c 8).length = (if (c.way 0).sp = 0 then 0 else 1) + ([1, 2, 3, 4, 5, 6, 7].filter fun i => (c.way i).sp != 0).length := by
  show ((0 :: [1, 2, 3, 4, 5, 6, 7]).filter fun i => (c.way i).sp != 0).length = _
  rw [List.filter_cons]
  by_cases h : (c.way 0).sp = 0
  · simp [h]
  · simp [h]; omega
theorem evict0_len (c : Cache) : (vis c 8).length = (vis (evictC c 0 0) 8).length + if (c.way 0).sp = 0 then 0 else 1 := by
  rw [(evict0 c).1, vis_head c, vis_head (c.put 0 Tr.zero)]
  have e : ([1, 2, 3, 4, 5, 6, 7].filter fun i => ((c.put 0 Tr.zero).way i).sp != 0) = ([1, 2, 3, 4, 5, 6, 7].filter fun i => (c.way i).sp != 0) := rfl
  rw [e, show ((c.put 0 Tr.zero).way 0).sp = 0 from rfl]
  simp
  omega
theorem OwnC.evict {c : Cache} (h : OwnC c) : OwnC (evictC c 0 0) ∧ ∀ q : Nat, q < 8 → q ≠ 0 → q ≠ 4 → findOk (evictC c 0 0) 1 q = findOk c 1 q := by
  have hE := (evict0 c).1
  refine ⟨⟨h.good.evict _ _, fun i hi h0 => ?_⟩, fun q hq q0 q4 => ?_⟩
  · rw [hE] at h0 ⊢
    simp only [Cache.put] at h0 ⊢
    by_cases e : i = 0
    · rw [if_pos e] at h0; exact (h0 rfl).elim
    · rw [if_neg e] at h0 ⊢; exact h.own i hi h0
  · rw [hE, Bool.eq_iff_iff, findOk_iff, findOk_iff]
    constructor
    · rintro ⟨i, hi, h0, h1, h2⟩
      simp only [Cache.put] at h0 h1 h2
      by_cases e : i = 0
      · rw [if_pos e] at h0; exact (h0 rfl).elim
      · rw [if_neg e] at h0 h1 h2; exact ⟨i, hi, h0, h1, h2⟩
    · rintro ⟨i, hi, h0, h1, h2⟩
      have e : i ≠ 0 := by
        rintro rfl
        have := (h.good.may 0 hi h0).2
        rw [h2] at this
        have h3 : ((q : Int)).toNat % 4 = 0 / 2 := this
        omega
      exact ⟨i, hi, by simp only [Cache.put]; rw [if_neg e]; exact h0, by simp only [Cache.put]; rw [if_neg e]; exact h1, by simp only [Cache.put]; rw [if_neg e]; exact h2⟩
/-- The pages of the first n that are there. -/
def pgs (c : Cache) (n q : Nat) : Bool := (List.range n).any fun i => (ts c i).pg == (q : Int)
theorem OwnC.row {c : Cache} (h : OwnC c) {i : Nat} (hi : i < (vis c 8).length) : ∃ p, p < 8 ∧ ts c i = tD 1 p := h.own _ (nth_lt hi).1 (nth_lt hi).2
theorem OwnC.pgs_all {c : Cache} (h : OwnC c) (q : Nat) : pgs c (vis c 8).length q = findOk c 1 q := by
  unfold pgs
  rw [Bool.eq_iff_iff, List.any_eq_true, findOk_iff]
  constructor
  · rintro ⟨i, hi, e⟩
    have hi' := List.mem_range.1 hi
    obtain ⟨p, _, hp⟩ := h.row hi'
    exact ⟨nth c i, (nth_lt hi').1, (nth_lt hi').2, by show (ts c i).sp = 1; rw [hp]; rfl, (by simpa using e : (ts c i).pg = (q : Int))⟩
  · rintro ⟨i, hi, h0, h1, h2⟩
    have hm : i ∈ vis c 8 := mem_vis.2 ⟨hi, h0⟩
    obtain ⟨k, hk, e⟩ := List.getElem_of_mem hm
    refine ⟨k, List.mem_range.2 hk, ?_⟩
    have : nth c k = i := by
      unfold nth
      rw [List.getD_eq_getElem?_getD, List.getElem?_eq_getElem hk, Option.getD_some, e]
    unfold ts
    rw [this, h2]
    simp
theorem pgs_succ (c : Cache) (n q : Nat) : pgs c (n + 1) q = (pgs c n q || (ts c n).pg == (q : Int)) := by
  unfold pgs
  rw [List.range_succ, List.any_append]
  simp
def cntH (f : Nat → Bool) (q : Nat) : Nat := ((List.range q).filter f).length
theorem cntH_succ (f : Nat → Bool) (q : Nat) : cntH f (q + 1) = cntH f q + if f q then 1 else 0 := by
  unfold cntH
  rw [List.range_succ, List.filter_append, List.length_append]
  congr 1
  cases h : f q <;> simp [h]
theorem cntH_le (f : Nat → Bool) (q : Nat) : cntH f q ≤ q := by
  have := List.length_filter_le f (List.range q)
  rw [List.length_range] at this
  exact this
theorem cntH_congr {f g : Nat → Bool} {n : Nat} (h : ∀ q, q < n → f q = g q) : cntH f n = cntH g n := by
  unfold cntH
  rw [List.filter_congr (fun q hq => h q (List.mem_range.1 hq))]
end Go.Proofs.Ytjnnimdgmcpjoaa
