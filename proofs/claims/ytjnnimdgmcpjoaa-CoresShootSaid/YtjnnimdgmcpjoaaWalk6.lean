/- The walks of package walk: At of any numbers, Walk, Depth. -/
import Derived.Test.YtjnnimdgmcpjoaaWalk5
namespace Go.Proofs.Ytjnnimdgmcpjoaa
open Go.RowKit Go.Shelf
attribute [local go_sem] Oper.semAt_some

theorem badV_no {n : Nat} {root page level : Int} (h : badV n root page level = 0) : ∃ r p l : Nat, root = r ∧ page = p ∧ level = l ∧ r < n ∧ p < 512 ∧ 1 ≤ l ∧ l ≤ 3 := by
  unfold badV at h
  by_cases hc : root < 0 ∨ (n : Int) ≤ root ∨ page < 0 ∨ 512 ≤ page ∨ level < 1 ∨ 3 < level
  · rw [if_pos hc] at h; exact absurd h (by decide)
  · exact ⟨root.toNat, page.toNat, level.toNat, by omega, by omega, by omega, by omega, by omega, by omega, by omega⟩
theorem badV_yes {n : Nat} {root page level : Int} (h : ¬ badV n root page level = 0) : badV n root page level = 3 := by
  unfold badV at h ⊢
  by_cases hc : root < 0 ∨ (n : Int) ≤ root ∨ page < 0 ∨ 512 ≤ page ∨ level < 1 ∨ 3 < level
  · rw [if_pos hc]
  · rw [if_neg hc] at h; exact absurd rfl h
def atV (n : Nat) (m : Nat → Int) (root page level : Int) : Int × Int := if badV n root page level = 0 then atF n m root.toNat page.toNat level.toNat else (0, badV n root page level)
set_option maxHeartbeats 1000000 in
theorem wat_bad (g gf N cp : Nat) (m : Nat → Int) (root page level : Int) (w : World) (hM : MemAt w g gf N cp m) (hb : badV N root page level = 3) :
    Calls Try.prog 53 #[.pointer (some ⟨g, 0, none⟩), .int .i64 root, .int .i64 page, .int .i64 level] w fun e w' => e = .returned (.tuple #[.int .u64 0, .int .i64 3]) ∧ Below w.heap.size w w' := by
  have hM0 := hM.on ((Below.refl _ w).alloc (Nat.le_refl _) (.cells #[.int .i64 level] 3))
  have HM0 := hide hM0
  have HB := hide hb
  clear hM hM0 hb
  refine calls_marks Try.func53 rfl ?_
  simp only [Try.ntmps53, List.size_toArray, List.length_cons, List.length_nil, Nat.reduceAdd, Nat.reduceSub, Array.replicate_succ, Array.replicate_zero, List.push_toArray, List.append_toArray, List.nil_append, List.cons_append]
  go_wp2
  go_step3
  go_wp2_with fail
  refine (bad_any g gf N cp m root page level _ HM0.out).mono ?_
  rintro e w2 ⟨rfl, rfl⟩
  rw [HB.out]
  go_wp2
  rw [Exit.noGoto_ret]
  refine marks_ret (v := .tuple #[.int .u64 0, .int .i64 3]) rfl (by simp [results, Try.f53, go_sem]) ⟨rfl, (Below.refl _ _).alloc (Nat.le_refl _) _⟩
set_option maxHeartbeats 1000000 in
theorem wat_nil (root page level : Int) (w : World) :
    Calls Try.prog 53 #[.pointer none, .int .i64 root, .int .i64 page, .int .i64 level] w fun e w' => e = .returned (.tuple #[.int .u64 0, .int .i64 1]) ∧ Below w.heap.size w w' := by
  refine calls_marks Try.func53 rfl ?_
  simp only [Try.ntmps53, List.size_toArray, List.length_cons, List.length_nil, Nat.reduceAdd, Nat.reduceSub, Array.replicate_succ, Array.replicate_zero, List.push_toArray, List.append_toArray, List.nil_append, List.cons_append]
  go_wp2
  go_step3
  go_wp2_with fail
  refine (bad_nil root page level _).mono ?_
  rintro e w2 ⟨rfl, rfl⟩
  go_wp2
  rw [Exit.noGoto_ret]
  refine marks_ret (v := .tuple #[.int .u64 0, .int .i64 1]) rfl (by simp [results, Try.f53, go_sem]) ⟨rfl, (Below.refl _ _).alloc (Nat.le_refl _) _⟩
theorem wat_any (g gf N cp : Nat) (m : Nat → Int) (root page level : Int) (w : World) (hM : MemAt w g gf N cp m) :
    Calls Try.prog 53 #[.pointer (some ⟨g, 0, none⟩), .int .i64 root, .int .i64 page, .int .i64 level] w fun e w' => e = .returned (.tuple #[.int .u64 (atV N m root page level).1, .int .i64 (atV N m root page level).2]) ∧ Below w.heap.size w w' := by
  unfold atV
  by_cases hb : badV N root page level = 0
  · rw [if_pos hb]
    obtain ⟨r, p, l, rfl, rfl, rfl, h1, h2, h3, h4⟩ := badV_no hb
    exact wat_in g gf N cp m r p l w hM h1 h2 h3 h4
  · rw [if_neg hb, badV_yes hb]
    exact wat_bad g gf N cp m root page level w hM (badV_yes hb)
/-! Walk. -/
theorem fr_lt {n : Nat} {m : Nat → Int} {root page : Nat} (hr : root < n) : (frN m root page 1 < n) ∧ (erN n m root page 1 = 0 → frN m root page 2 < n) ∧ (erN n m root page 2 = 0 → frN m root page 3 < n) :=
  ⟨hr, fun h => (frN_succ (by decide) h).2, fun h => (frN_succ (by decide) h).2⟩
theorem atF_ok {n : Nat} {m : Nat → Int} {root page level : Nat} (hr : root < n) (hp : page < 512) (h1 : 1 ≤ level) (h3 : level ≤ 3) (h : (atF n m root page level).2 = 0) : (atF n m root page level).1 = 8 * (wdN m root page level : Int) ∧ wdN m root page level < 8 * n := by
  obtain ⟨f1, f2, f3⟩ := fr_lt (m := m) (page := page) hr
  have hx := ixN_lt level hp
  have : level = 1 ∨ level = 2 ∨ level = 3 := by omega
  rcases this with rfl | rfl | rfl
  · exact ⟨rfl, by unfold wdN; omega⟩
  · rw [atF_2] at h ⊢
    by_cases e : erN n m root page 1 = 0
    · rw [if_pos e]
      have := f2 e
      exact ⟨rfl, by unfold wdN; omega⟩
    · rw [if_neg e] at h; exact absurd h e
  · rw [atF_3] at h ⊢
    by_cases e : erN n m root page 1 = 0
    · rw [if_pos e] at h ⊢
      by_cases e2 : erN n m root page 2 = 0
      · rw [if_pos e2]
        have := f3 e2
        exact ⟨rfl, by unfold wdN; omega⟩
      · rw [if_neg e2] at h; exact absurd h e2
    · rw [if_neg e] at h; exact absurd h e
theorem atV_ok {n : Nat} {m : Nat → Int} {root page level : Int} (h : (atV n m root page level).2 = 0) : ∃ j : Nat, (atV n m root page level).1 = 8 * (j : Int) ∧ j < 8 * n := by
  unfold atV at h ⊢
  by_cases hb : badV n root page level = 0
  · rw [if_pos hb] at h ⊢
    obtain ⟨r, p, l, rfl, rfl, rfl, h1, h2, h3, h4⟩ := badV_no hb
    exact ⟨_, atF_ok h1 h2 h3 h4 h⟩
  · rw [if_neg hb] at h; exact absurd h hb
def wlkE (n : Nat) (m : Nat → Int) (root page : Int) : Int := if (atV n m root page 3).2 = 0 then entE n (m ((atV n m root page 3).1 / 8).toNat) true else (atV n m root page 3).2
def wlkC (n : Nat) (m : Nat → Int) (root page : Int) : Array Value := if (atV n m root page 3).2 = 0 then entC n (m ((atV n m root page 3).1 / 8).toNat) true else #[.bool false, .bool false, .bool false, .bool false, .int .i64 0]
theorem entC_lit (n : Nat) (x : Int) (lf : Bool) : ∃ (a b c d : Bool) (f : Int), entC n x lf = #[.bool a, .bool b, .bool c, .bool d, .int .i64 f] := by
  unfold entC
  split
  · exact ⟨_, _, _, _, _, rfl⟩
  · exact ⟨_, _, _, _, _, rfl⟩
set_option maxRecDepth 100000 in
set_option maxHeartbeats 1000000 in
theorem wwalk_any (g gf N cp : Nat) (m : Nat → Int) (root page : Int) (w : World) (hM : MemAt w g gf N cp m) :
    Calls Try.prog 24 #[.pointer (some ⟨g, 0, none⟩), .int .i64 root, .int .i64 page] w fun e w' => e = .returned (.tuple #[.agg (wlkC N m root page), .int .i64 (wlkE N m root page)]) ∧ Below w.heap.size w w' := by
  obtain ⟨C, hC⟩ : ∃ C, wlkC N m root page = C := ⟨_, rfl⟩
  obtain ⟨E, hE⟩ : ∃ E, wlkE N m root page = E := ⟨_, rfl⟩
  rw [hC, hE]
  have HC := hide hC
  have HE := hide hE
  have hM0 := hM.on (((Below.refl _ w).alloc (Nat.le_refl _) (.cells #[.bool false, .bool false, .bool false, .bool false, .int .i64 0] 50)))
  clear hC hE hM
  go_enter Try.func24, Try.ntmps24
  go_upto_region 1 with fail
  have hk := Blk.new w 50 #[.bool false, .bool false, .bool false, .bool false, .int .i64 0]
  have hB : Below w.heap.size w (w.alloc (.cells #[.bool false, .bool false, .bool false, .bool false, .int .i64 0] 50)) := (Below.refl _ w).alloc (Nat.le_refl _) _
  generalize w.alloc (.cells #[.bool false, .bool false, .bool false, .bool false, .int .i64 0] 50) = W at *
  generalize hH : w.heap.size = H at *
  have HH := hide hH
  clear hH
  have HM := hide hM0
  clear hM0
  go_wp2_with fail
  refine (wat_any g gf N cp m root page 3 _ HM.out).mono ?_
  rintro e w2 ⟨rfl, hb2⟩
  have hM2 := HM.out.on hb2
  replace hB := hB.trans (hb2.mono (Nat.le_of_lt hk.lt))
  replace hk := blk_below hk hb2
  clear hb2 HM
  by_cases h0 : (atV N m root page 3).2 = 0
  · obtain ⟨j, hj1, hj2⟩ := atV_ok h0
    rw [h0, hj1]
    have hC2 : Hid (C = entC N (m j) true) := hide (by rw [← HC.out]; unfold wlkC; rw [if_pos h0, hj1]; rw [show (8 * (j : Int) / 8).toNat = j by omega])
    have hE2 : Hid (E = entE N (m j) true) := hide (by rw [← HE.out]; unfold wlkE; rw [if_pos h0, hj1]; rw [show (8 * (j : Int) / 8).toNat = j by omega])
    clear HC HE h0 hj1
    have HM := hide hM2
    clear hM2
    go_wp2_with fail
    refine (entry_any g gf N cp m j true _ HM.out hj2).mono ?_
    rintro e w3 ⟨rfl, hb3⟩
    obtain ⟨a, b, c, d, f, hL⟩ := entC_lit N (m j) true
    have hC3 : Hid (C = #[.bool a, .bool b, .bool c, .bool d, .int .i64 f]) := hide (by rw [hC2.out, hL])
    rw [hL]
    replace hB := hB.trans (hb3.mono (Nat.le_of_lt hk.lt))
    replace hk := blk_below hk hb3
    clear hb3 hL hC2
    obtain ⟨e0, e1, e2, e3, e4⟩ := hk.c5
    obtain ⟨f0, f1, f2, f3, f4⟩ := hk.f5
    have hl3 := hk.lt
    go_wp2
    refine bodyPost_ret (results_cell_tmp rfl _ _ H 50 _ (0, 0) _ rfl (hk.set5 _ _ _ _ _) Try.underlying50 rfl (by kernel_rfl)) rfl ⟨by rw [hC3.out, hE2.out]; rfl, ?_⟩
    rw [HH.out]
    exact below_set5 hB (Nat.le_refl _) _ _ _ _ _
  · have hC2 : Hid (C = #[.bool false, .bool false, .bool false, .bool false, .int .i64 0]) := hide (by rw [← HC.out]; unfold wlkC; rw [if_neg h0])
    have hE2 : Hid (E = (atV N m root page 3).2) := hide (by rw [← HE.out]; unfold wlkE; rw [if_neg h0])
    generalize (atV N m root page 3).2 = c at *
    generalize (atV N m root page 3).1 = ad at *
    have d : (c == 0) = false := by simpa using h0
    clear HC HE hM2
    obtain ⟨e0, e1, e2, e3, e4⟩ := hk.c5
    obtain ⟨f0, f1, f2, f3, f4⟩ := hk.f5
    have hl3 := hk.lt
    go_wp2
    refine bodyPost_ret (results_cell_tmp rfl _ _ H 50 _ (0, 0) _ rfl (hk.set5 _ _ _ _ _) Try.underlying50 rfl (by kernel_rfl)) rfl ⟨by rw [hC2.out, hE2.out]; rfl, ?_⟩
    rw [HH.out]
    exact below_set5 hB (Nat.le_refl _) _ _ _ _ _
end Go.Proofs.Ytjnnimdgmcpjoaa
