/- The walks of package decode: object, Decode. -/
import Derived.Test.YtofmcaagnhdecaaDecP
import Derived.Test.YtofmcaagnhdecaaMarks
namespace Go.Proofs.Ytofmcaagnhdecaa
open Go.RowKit Go.Shelf
attribute [local go_sem] Oper.semAt_some

theorem object_any (op : Int) (x : Nat → Int) (w : World) (hx : U64 x) : Calls Try.prog 15 #[.agg (callA op x)] w fun e w' => e = .returned (.bool (objB (x 1) (x 2))) ∧ Below w.heap.size w w' := by
  unfold callA objB
  have h1 := (hx 1).1
  have h2 := (hx 2).1
  have h1' := (hx 1).2
  have h2' := (hx 2).2
  clear hx
  generalize x 1 = k at *
  generalize x 2 = s at *
  by_cases hk : k ≤ 15
  · by_cases hs : s ≤ 64
    · have d1 : decide (k ≤ 15) = true := by simpa using hk
      have d2 : decide (s ≤ 64) = true := by simpa using hs
      rw [d1, d2]
      go_enter Try.func15, Try.ntmps15
      go_wp2
      go_quiet (fail)
      go_wp2_with fail
      refine (frames_any _ _ _).mono ?_
      rintro e w' ⟨rfl, rfl⟩
      go_wp2_with fail
      go_ret
      exact ⟨by simp, below_drewN ((Below.refl _ _).alloc (Nat.le_refl _) _) _⟩
    · have d1 : decide (k ≤ 15) = true := by simpa using hk
      have d2 : decide (s ≤ 64) = false := by simpa using hs
      rw [d1, d2]
      go_enter Try.func15, Try.ntmps15
      go_wp2
      go_quiet (fail)
      go_wp2_with fail
      go_ret
      exact ⟨by simp, below_drewN ((Below.refl _ _).alloc (Nat.le_refl _) _) _⟩
  · have d1 : decide (k ≤ 15) = false := by simpa using hk
    rw [d1]
    go_enter Try.func15, Try.ntmps15
    go_wp2
    go_quiet (fail)
    go_wp2_with fail
    go_ret
    exact ⟨by simp, below_drewN ((Below.refl _ _).alloc (Nat.le_refl _) _) _⟩
def DecPost (r : (Nat → Int) × Int) (w : World) (e : Ending) (w' : World) : Prop := e = .returned (.tuple #[.agg (ordA r.1), .int .i64 r.2]) ∧ Below w.heap.size w w'
theorem Blk.c12 {w : World} {g : Nat} {t : TypeId} {c0 c1 c2 c3 c4 c5 c6 c7 c8 c9 c10 c11 : Value} (h : Blk w g t #[c0, c1, c2, c3, c4, c5, c6, c7, c8, c9, c10, c11]) : w.cell? ⟨g, 0, none⟩ = some c0 ∧ w.cell? ⟨g, 1, none⟩ = some c1 ∧ w.cell? ⟨g, 2, none⟩ = some c2 ∧ w.cell? ⟨g, 3, none⟩ = some c3 ∧ w.cell? ⟨g, 4, none⟩ = some c4 ∧ w.cell? ⟨g, 5, none⟩ = some c5 ∧ w.cell? ⟨g, 6, none⟩ = some c6 ∧ w.cell? ⟨g, 7, none⟩ = some c7 ∧ w.cell? ⟨g, 8, none⟩ = some c8 ∧ w.cell? ⟨g, 9, none⟩ = some c9 ∧ w.cell? ⟨g, 10, none⟩ = some c10 ∧ w.cell? ⟨g, 11, none⟩ = some c11 :=
  ⟨h.cell 0, h.cell 1, h.cell 2, h.cell 3, h.cell 4, h.cell 5, h.cell 6, h.cell 7, h.cell 8, h.cell 9, h.cell 10, h.cell 11⟩
theorem Blk.f12 {w : World} {g : Nat} {t : TypeId} {cs : Array Value} (h : Blk w g t cs) : w.frozen? ⟨g, 0, none⟩ = false ∧ w.frozen? ⟨g, 1, none⟩ = false ∧ w.frozen? ⟨g, 2, none⟩ = false ∧ w.frozen? ⟨g, 3, none⟩ = false ∧ w.frozen? ⟨g, 4, none⟩ = false ∧ w.frozen? ⟨g, 5, none⟩ = false ∧ w.frozen? ⟨g, 6, none⟩ = false ∧ w.frozen? ⟨g, 7, none⟩ = false ∧ w.frozen? ⟨g, 8, none⟩ = false ∧ w.frozen? ⟨g, 9, none⟩ = false ∧ w.frozen? ⟨g, 10, none⟩ = false ∧ w.frozen? ⟨g, 11, none⟩ = false :=
  ⟨h.frozen 0, h.frozen 1, h.frozen 2, h.frozen 3, h.frozen 4, h.frozen 5, h.frozen 6, h.frozen 7, h.frozen 8, h.frozen 9, h.frozen 10, h.frozen 11⟩
theorem Blk.c7 {w : World} {g : Nat} {t : TypeId} {c0 c1 c2 c3 c4 c5 c6 : Value} (h : Blk w g t #[c0, c1, c2, c3, c4, c5, c6]) : w.cell? ⟨g, 0, none⟩ = some c0 ∧ w.cell? ⟨g, 1, none⟩ = some c1 ∧ w.cell? ⟨g, 2, none⟩ = some c2 ∧ w.cell? ⟨g, 3, none⟩ = some c3 ∧ w.cell? ⟨g, 4, none⟩ = some c4 ∧ w.cell? ⟨g, 5, none⟩ = some c5 ∧ w.cell? ⟨g, 6, none⟩ = some c6 :=
  ⟨h.cell 0, h.cell 1, h.cell 2, h.cell 3, h.cell 4, h.cell 5, h.cell 6⟩
theorem Blk.set12 {w : World} {g : Nat} {t : TypeId} {c0 c1 c2 c3 c4 c5 c6 c7 c8 c9 c10 c11 : Value} (h : Blk w g t #[c0, c1, c2, c3, c4, c5, c6, c7, c8, c9, c10, c11]) (v0 v1 v2 v3 v4 v5 v6 v7 v8 v9 v10 v11 : Value) : Blk ((((((((((((w.setCell ⟨g, 0, none⟩ v0).setCell ⟨g, 1, none⟩ v1).setCell ⟨g, 2, none⟩ v2).setCell ⟨g, 3, none⟩ v3).setCell ⟨g, 4, none⟩ v4).setCell ⟨g, 5, none⟩ v5).setCell ⟨g, 6, none⟩ v6).setCell ⟨g, 7, none⟩ v7).setCell ⟨g, 8, none⟩ v8).setCell ⟨g, 9, none⟩ v9).setCell ⟨g, 10, none⟩ v10).setCell ⟨g, 11, none⟩ v11) g t #[v0, v1, v2, v3, v4, v5, v6, v7, v8, v9, v10, v11] := by
  have h' := ((((((((((((h.set_ 0 v0).set_ 1 v1).set_ 2 v2).set_ 3 v3).set_ 4 v4).set_ 5 v5).set_ 6 v6).set_ 7 v7).set_ 8 v8).set_ 9 v9).set_ 10 v10).set_ 11 v11)
  simpa only [List.setIfInBounds_toArray, List.set_cons_zero, List.set_cons_succ] using h'
theorem below_set12 {B : Nat} {a w : World} (hb : Below B a w) {g : Nat} (hg : B ≤ g) (v0 v1 v2 v3 v4 v5 v6 v7 v8 v9 v10 v11 : Value) : Below B a ((((((((((((w.setCell ⟨g, 0, none⟩ v0).setCell ⟨g, 1, none⟩ v1).setCell ⟨g, 2, none⟩ v2).setCell ⟨g, 3, none⟩ v3).setCell ⟨g, 4, none⟩ v4).setCell ⟨g, 5, none⟩ v5).setCell ⟨g, 6, none⟩ v6).setCell ⟨g, 7, none⟩ v7).setCell ⟨g, 8, none⟩ v8).setCell ⟨g, 9, none⟩ v9).setCell ⟨g, 10, none⟩ v10).setCell ⟨g, 11, none⟩ v11) := ((((((((((((hb.setCell (p := ⟨g, 0, none⟩) hg v0).setCell (p := ⟨g, 1, none⟩) hg v1).setCell (p := ⟨g, 2, none⟩) hg v2).setCell (p := ⟨g, 3, none⟩) hg v3).setCell (p := ⟨g, 4, none⟩) hg v4).setCell (p := ⟨g, 5, none⟩) hg v5).setCell (p := ⟨g, 6, none⟩) hg v6).setCell (p := ⟨g, 7, none⟩) hg v7).setCell (p := ⟨g, 8, none⟩) hg v8).setCell (p := ⟨g, 9, none⟩) hg v9).setCell (p := ⟨g, 10, none⟩) hg v10).setCell (p := ⟨g, 11, none⟩) hg v11)
theorem dec_w {w w2 : World} {t0 t1 t2 t3 : TypeId} {ca za zb cc : Array Value} (hB : Below ((((w.alloc (.cells ca t0)).alloc (.cells za t1)).alloc (.cells zb t2)).alloc (.cells cc t3)).heap.size ((((w.alloc (.cells ca t0)).alloc (.cells za t1)).alloc (.cells zb t2)).alloc (.cells cc t3)) w2) :
    Blk w2 w.heap.size t0 ca ∧ Blk w2 (w.heap.size + 1) t1 za ∧ Blk w2 (w.heap.size + 1 + 1) t2 zb ∧ Blk w2 (w.heap.size + 1 + 1 + 1) t3 cc ∧ Below w.heap.size w w2 ∧ w.heap.size + 4 ≤ w2.heap.size := by
  have b0 := (((Blk.new w t0 ca).alloc (.cells za t1)).alloc (.cells zb t2)).alloc (.cells cc t3)
  have b1 := ((Blk.new (w.alloc (.cells ca t0)) t1 za).alloc (.cells zb t2)).alloc (.cells cc t3)
  have b2 := (Blk.new ((w.alloc (.cells ca t0)).alloc (.cells za t1)) t2 zb).alloc (.cells cc t3)
  have b3 := Blk.new (((w.alloc (.cells ca t0)).alloc (.cells za t1)).alloc (.cells zb t2)) t3 cc
  have hb0 : Below w.heap.size w ((((w.alloc (.cells ca t0)).alloc (.cells za t1)).alloc (.cells zb t2)).alloc (.cells cc t3)) := ((((Below.refl _ w).alloc (Nat.le_refl _) _).alloc (by simp) _).alloc (by simp; omega) _).alloc (by simp; omega) _
  simp only [World.size_alloc] at b1 b2 b3 hB
  exact ⟨b0.below hB (by omega), b1.below hB (by omega), b2.below hB (by omega), b3.below hB (by omega), hb0.trans (hB.mono (by omega)), by have := hB.size; simp only [World.size_alloc] at this; omega⟩
set_option maxRecDepth 100000 in
set_option maxHeartbeats 1000000 in
theorem decode_none (op : Int) (x : Nat → Int) (w : World) (hn : formL op = none) : Calls Try.prog 7 #[.agg (callA op x)] w (DecPost (decV op x) w) := by
  have hV : decV op x = (fun _ => 0, 2) := by unfold decV; rw [hn]
  rw [hV]
  have HN := hide hn
  clear hn hV
  unfold callA
  refine calls_marks Try.func7 rfl ?_
  simp only [Try.ntmps7, List.size_toArray, List.length_cons, List.length_nil, Nat.reduceAdd, Nat.reduceSub, Array.replicate_succ, Array.replicate_zero, List.push_toArray, List.append_toArray, List.nil_append, List.cons_append]
  go_wp2
  go_step3
  go_wp2_with fail
  refine (forms_any _ _ _ _).mono ?_
  rintro e w2 ⟨⟨v, b, rfl, hb, hfs⟩, hB⟩
  rw [HN.out] at hb
  subst hb
  obtain ⟨c0, c1, c2, c3, hB0, hz⟩ := dec_w hB
  clear hB hfs HN
  generalize hH : w.heap.size = H at *
  have n0 := c0.cell 0
  obtain ⟨e0, e1, e2, e3, e4, e5, e6, e7, e8, e9, e10, e11⟩ := c1.c12
  obtain ⟨f0, f1, f2, f3, f4, f5, f6, f7, f8, f9, f10, f11⟩ := c1.f12
  go_wp2
  rw [Exit.noGoto_ret]
  refine marks_ret rfl (results_cell_tmp rfl _ _ (H + 1) 29 _ (0, 0) _ rfl (c1.set12 _ _ _ _ _ _ _ _ _ _ _ _) Try.underlying29 rfl (by kernel_rfl)) ⟨rfl, ?_⟩
  subst hH
  exact below_set12 hB0 (by omega) _ _ _ _ _ _ _ _ _ _ _ _
/-- The forms as cells. -/
theorem FormsAt.open_ {w : World} {base g gc : Nat} {v : Value} {fs : List (Int × Int × Nat)} (h : FormsAt w base v g gc fs) :
    ∃ (p : Option Addr) (gl cap : Nat) (cs : Array Value), v = .slice p fs.length cap ∧ (fs.length = 0 ∨ p = some ⟨gl, 0, none⟩) ∧ (fs.length = 0 ∨ (base ≤ gl ∧ Blk w gl 57 cs)) ∧ (∀ (k i : Nat) (f : Int × Int × Nat), fs[k]? = some f → i < 4 → cs[k * 4 + i]? = (fcell g gc f)[i]?) := by
  obtain ⟨hl, (⟨rfl, hn⟩ | ⟨gl, cap, cs, rfl, hb, hg, _, _, _, hx⟩)⟩ := h
  · refine ⟨none, 0, 0, #[], by rw [hn], .inl hn, .inl hn, fun k i f hk _ => ?_⟩
    have := (List.getElem?_eq_some_iff.1 hk).1
    omega
  · refine ⟨_, gl, cap, cs, rfl, .inr rfl, .inr ⟨hb, hg⟩, fun k i f hk hi => ?_⟩
    have hlt := (List.getElem?_eq_some_iff.1 hk).1
    rw [← fcells_get g gc fs k i f hk hi, ← hx, List.getElem?_take_of_lt (by omega), Array.getElem?_toList]
set_option maxRecDepth 100000 in
set_option maxHeartbeats 1000000 in
theorem decode_obj (x : Nat → Int) (w : World) (hx : U64 x) (hn : objB (x 1) (x 2) = false) : Calls Try.prog 7 #[.agg (callA 1 x)] w (DecPost (decV 1 x) w) := by
  obtain ⟨fs, hF⟩ : ∃ fs, formL 1 = some fs := ⟨_, rfl⟩
  have hV : decV 1 x = (fun _ => 0, 2) := by unfold decV; rw [hF]; exact if_pos ⟨rfl, hn⟩
  rw [hV]
  have HN := hide hn
  have HF := hide hF
  clear hn hV hF
  unfold callA
  refine calls_marks Try.func7 rfl ?_
  simp only [Try.ntmps7, List.size_toArray, List.length_cons, List.length_nil, Nat.reduceAdd, Nat.reduceSub, Array.replicate_succ, Array.replicate_zero, List.push_toArray, List.append_toArray, List.nil_append, List.cons_append]
  go_wp2
  go_step3
  go_wp2_with fail
  refine (forms_any _ _ _ _).mono ?_
  rintro e w2 ⟨⟨v, b, rfl, hb, hfs⟩, hB⟩
  rw [HF.out] at hb
  subst hb
  obtain ⟨c0, c1, c2, c3, hB0, hz⟩ := dec_w hB
  clear hB hfs
  generalize hH : w.heap.size = H at *
  obtain ⟨n0, n1, n2, n3, n4, n5, n6⟩ := c0.c7
  go_wp2_with fail
  refine (object_any 1 x _ hx).mono ?_
  rintro e w3 ⟨rfl, hB3⟩
  rw [HN.out]
  replace c1 := blk_call c1 hB3
  replace hB0 := hB0.trans (hB3.mono (by omega))
  clear c0 c2 c3 n0 n1 n2 n3 n4 n5 n6 hB3
  obtain ⟨e0, e1, e2, e3, e4, e5, e6, e7, e8, e9, e10, e11⟩ := c1.c12
  obtain ⟨f0, f1, f2, f3, f4, f5, f6, f7, f8, f9, f10, f11⟩ := c1.f12
  go_wp2
  rw [Exit.noGoto_ret]
  refine marks_ret rfl (results_cell_tmp rfl _ _ (H + 1) 29 _ (0, 0) _ rfl (c1.set12 _ _ _ _ _ _ _ _ _ _ _ _) Try.underlying29 rfl (by kernel_rfl)) ⟨rfl, ?_⟩
  subst hH
  exact below_set12 hB0 (by omega) _ _ _ _ _ _ _ _ _ _ _ _
end Go.Proofs.Ytofmcaagnhdecaa
