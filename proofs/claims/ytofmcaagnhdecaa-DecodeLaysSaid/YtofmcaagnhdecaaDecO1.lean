/- The walk of the reference's order of what is made. -/
import Derived.Test.YtofmcaagnhdecaaDecR
import Derived.Deep.RegionHeld3
namespace Go.Proofs.Ytofmcaagnhdecaa
open Go.RowKit Go.Shelf
theorem keep_seto {w : World} {g C o j : Nat} {u v : Value} (hne : C ≠ g) (hlt : C < w.heap.size) (h : w.cell? ⟨C, o, none⟩ = some v) : (w.setCell ⟨g, j, none⟩ u).drew.cell? ⟨C, o, none⟩ = some v := by
  rw [drew_cell]
  exact ((Mod.one g w j u).cell hne hlt).trans h
theorem keep_set2o {w : World} {g C o j g' j' : Nat} {u v u' : Value} (hne : C ≠ g) (hne' : C ≠ g') (hlt : C < w.heap.size) (h : w.cell? ⟨C, o, none⟩ = some v) : ((w.setCell ⟨g, j, none⟩ u).setCell ⟨g', j', none⟩ u').drew.cell? ⟨C, o, none⟩ = some v := by
  rw [drew_cell]
  exact ((Mod.one g' (w.setCell ⟨g, j, none⟩ u) j' u').cell hne' (by simpa [World.setCell] using hlt)).trans (((Mod.one g w j u).cell hne hlt).trans h)
set_option maxRecDepth 100000 in
set_option maxHeartbeats 2000000 in
theorem rorder_one (x : Nat → Int) (s : ByteArray) (w : World) (h0 : 0 ≤ x 0 ∧ x 0 ≤ 4096) (h1 : 0 ≤ x 1 ∧ x 1 ≤ 4096) (h2 : 0 ≤ x 2 ∧ x 2 ≤ 4096) (h3 : 0 ≤ x 3 ∧ x 3 ≤ 4096) (h4 : 0 ≤ x 4 ∧ x 4 ≤ 4096) (h5 : 0 ≤ x 5 ∧ x 5 ≤ 4096) : Calls Try.prog 21 #[.agg #[.int .u64 1, .int .u64 (x 0), .int .u64 (x 1), .int .u64 (x 2), .int .u64 (x 3), .int .u64 (x 4), .int .u64 (x 5)], .string s] w fun e w' => e = .returned (.agg #[.int .i64 1, .int .i64 (x 0), .int .i64 (x 3), .int .i64 0, .int .i64 (x 1), .int .i64 (x 2), .int .i64 (x 4 + 16 * x 5), .int .u64 0, .int .u64 0, .int .u64 0, .int .u64 0, .int .u64 0]) ∧ Below w.heap.size w w' := by
  go_enter Try.func21, Try.ntmps21
  go_wp2
  have hb := (Blk.new w 25 #[.int .u64 1, .int .u64 (x 0), .int .u64 (x 1), .int .u64 (x 2), .int .u64 (x 3), .int .u64 (x 4), .int .u64 (x 5)]).alloc (.cells #[.int .i64 0, .int .i64 0, .int .i64 0, .int .i64 0, .int .i64 0, .int .i64 0, .int .i64 0, .int .u64 0, .int .u64 0, .int .u64 0, .int .u64 0, .int .u64 0] 29) |>.alloc (.cells #[.int .i64 1, .int .i64 0, .int .i64 0, .int .i64 0, .int .i64 0, .int .i64 0, .int .i64 0, .int .u64 0, .int .u64 0, .int .u64 0, .int .u64 0, .int .u64 0] 29)
  have hr := (Blk.new (w.alloc (.cells #[.int .u64 1, .int .u64 (x 0), .int .u64 (x 1), .int .u64 (x 2), .int .u64 (x 3), .int .u64 (x 4), .int .u64 (x 5)] 25)) 29 #[.int .i64 0, .int .i64 0, .int .i64 0, .int .i64 0, .int .i64 0, .int .i64 0, .int .i64 0, .int .u64 0, .int .u64 0, .int .u64 0, .int .u64 0, .int .u64 0]).alloc (.cells #[.int .i64 1, .int .i64 0, .int .i64 0, .int .i64 0, .int .i64 0, .int .i64 0, .int .i64 0, .int .u64 0, .int .u64 0, .int .u64 0, .int .u64 0, .int .u64 0] 29)
  have ho := Blk.new ((w.alloc (.cells #[.int .u64 1, .int .u64 (x 0), .int .u64 (x 1), .int .u64 (x 2), .int .u64 (x 3), .int .u64 (x 4), .int .u64 (x 5)] 25)).alloc (.cells #[.int .i64 0, .int .i64 0, .int .i64 0, .int .i64 0, .int .i64 0, .int .i64 0, .int .i64 0, .int .u64 0, .int .u64 0, .int .u64 0, .int .u64 0, .int .u64 0] 29)) 29 #[.int .i64 1, .int .i64 0, .int .i64 0, .int .i64 0, .int .i64 0, .int .i64 0, .int .i64 0, .int .u64 0, .int .u64 0, .int .u64 0, .int .u64 0, .int .u64 0]
  have hB := (((Below.refl _ w).alloc (Nat.le_refl _) (.cells #[.int .u64 1, .int .u64 (x 0), .int .u64 (x 1), .int .u64 (x 2), .int .u64 (x 3), .int .u64 (x 4), .int .u64 (x 5)] 25)).alloc (by simp) (.cells #[.int .i64 0, .int .i64 0, .int .i64 0, .int .i64 0, .int .i64 0, .int .i64 0, .int .i64 0, .int .u64 0, .int .u64 0, .int .u64 0, .int .u64 0, .int .u64 0] 29)).alloc (by simp; omega) (.cells #[.int .i64 1, .int .i64 0, .int .i64 0, .int .i64 0, .int .i64 0, .int .i64 0, .int .i64 0, .int .u64 0, .int .u64 0, .int .u64 0, .int .u64 0, .int .u64 0] 29)
  have hz : w.heap.size + 3 ≤ (((w.alloc (.cells #[.int .u64 1, .int .u64 (x 0), .int .u64 (x 1), .int .u64 (x 2), .int .u64 (x 3), .int .u64 (x 4), .int .u64 (x 5)] 25)).alloc (.cells #[.int .i64 0, .int .i64 0, .int .i64 0, .int .i64 0, .int .i64 0, .int .i64 0, .int .i64 0, .int .u64 0, .int .u64 0, .int .u64 0, .int .u64 0, .int .u64 0] 29)).alloc (.cells #[.int .i64 1, .int .i64 0, .int .i64 0, .int .i64 0, .int .i64 0, .int .i64 0, .int .i64 0, .int .u64 0, .int .u64 0, .int .u64 0, .int .u64 0, .int .u64 0] 29)).heap.size := by simp
  simp only [World.size_alloc] at hr ho
  generalize ((w.alloc (.cells #[.int .u64 1, .int .u64 (x 0), .int .u64 (x 1), .int .u64 (x 2), .int .u64 (x 3), .int .u64 (x 4), .int .u64 (x 5)] 25)).alloc (.cells #[.int .i64 0, .int .i64 0, .int .i64 0, .int .i64 0, .int .i64 0, .int .i64 0, .int .i64 0, .int .u64 0, .int .u64 0, .int .u64 0, .int .u64 0, .int .u64 0] 29)).alloc (.cells #[.int .i64 1, .int .i64 0, .int .i64 0, .int .i64 0, .int .i64 0, .int .i64 0, .int .i64 0, .int .u64 0, .int .u64 0, .int .u64 0, .int .u64 0, .int .u64 0] 29) = W at *
  generalize hH : w.heap.size = H at *
  have HH := hide hH
  clear hH
  obtain ⟨n0, n1, n2, n3, n4, n5, n6⟩ := hb.c7
  have x1 := ho.cell 1
  have x2 := ho.cell 2
  have z1 := ho.frozen 1
  have z2 := ho.frozen 2
  have l0 : H < W.heap.size := by omega
  have e2 : H ≠ H + 1 + 1 := by omega
  have m1 : W.drew.cell? ⟨H, 1, none⟩ = some (.int .u64 (x 0)) := n1
  have m4 : W.drew.cell? ⟨H, 4, none⟩ = some (.int .u64 (x 3)) := n4
  have Hho := hide ho
  have Hhr := hide hr
  have Hhb := hide hb
  clear ho hr hb
  go_region_held3 (fun w' => w'.cell? ⟨H, 1, none⟩ = some (.int .u64 (x 0)) ∧ w'.cell? ⟨H, 4, none⟩ = some (.int .u64 (x 3))) (first | exact ⟨m1, m4⟩ | with_reducible exact ⟨keep_seto e2 l0 n1, keep_seto e2 l0 n4⟩ | with_reducible exact ⟨keep_set2o e2 e2 l0 n1, keep_set2o e2 e2 l0 n4⟩) (fail)
  all_goals
    have w0 : IntKind.i64.wrap (x 0) = x 0 := IntWalk.i64_in _ (by omega)
    have w3 : IntKind.i64.wrap (x 3) = x 3 := IntWalk.i64_in _ (by omega)
    have W0 := hide w0
    have W3 := hide w3
    clear w0 w3 m1 m4 n0 n1 n2 n3 n4 n5 n6 x1 x2 z1 z2
    rw [W0.out, W3.out]
    have ho3 := ((Hho.out.set_ 1 (.int .i64 (x 0))).set_ 2 (.int .i64 (x 3))).drew
    simp only [List.setIfInBounds_toArray, List.set_cons_zero, List.set_cons_succ] at ho3
    have hr3 := ((Hhr.out.far (p := ⟨H + 1 + 1, 1, none⟩) (by show H + 1 ≠ H + 1 + 1; omega) (.int .i64 (x 0))).far (p := ⟨H + 1 + 1, 2, none⟩) (by show H + 1 ≠ H + 1 + 1; omega) (.int .i64 (x 3))).drew
    have hb3 := ((Hhb.out.far (p := ⟨H + 1 + 1, 1, none⟩) (by show H ≠ H + 1 + 1; omega) (.int .i64 (x 0))).far (p := ⟨H + 1 + 1, 2, none⟩) (by show H ≠ H + 1 + 1; omega) (.int .i64 (x 3))).drew
    have hB3 := ((hB.setCell (p := ⟨H + 1 + 1, 1, none⟩) (by show H ≤ H + 1 + 1; omega) (.int .i64 (x 0))).setCell (p := ⟨H + 1 + 1, 2, none⟩) (by show H ≤ H + 1 + 1; omega) (.int .i64 (x 3))).drew
    have hz3 := ho3.lt
    generalize ((W.setCell ⟨H + 1 + 1, 1, none⟩ (.int .i64 (x 0))).setCell ⟨H + 1 + 1, 2, none⟩ (.int .i64 (x 3))).drew = W5 at *
    obtain ⟨n0, n1, n2, n3, n4, n5, n6⟩ := hb3.c7
    obtain ⟨o0, o1, o2, o3, o4, o5, o6, o7, o8, o9, o10, o11⟩ := ho3.c12
    obtain ⟨p0, p1, p2, p3, p4, p5, p6, p7, p8, p9, p10, p11⟩ := ho3.f12
    obtain ⟨e0, e1, e2', e3, e4, e5, e6, e7, e8, e9, e10, e11⟩ := hr3.c12
    obtain ⟨f0, f1, f2, f3, f4, f5, f6, f7, f8, f9, f10, f11⟩ := hr3.f12
    have Hhr3 := hide hr3
    have HB3 := hide hB3
    have l1 : H + 1 < W5.heap.size := by omega
    have l00 : H < W5.heap.size := by omega
    clear hr3 hb3 ho3 hB3
    go_wp2
    have hf := ((Hhr3.out.far (p := ⟨H + 1 + 1, 4, none⟩) (by show H + 1 ≠ H + 1 + 1; omega) (.int .i64 (x 1))).far (p := ⟨H + 1 + 1, 5, none⟩) (by show H + 1 ≠ H + 1 + 1; omega) (.int .i64 (x 2))).far (p := ⟨H + 1 + 1, 6, none⟩) (by show H + 1 ≠ H + 1 + 1; omega) (.int .i64 (x 4 + 16 * x 5))
    refine bodyPost_ret (results_cell_row rfl _ _ (H + 1) 29 _ (0, 0) _ rfl (hf.set12 _ _ _ _ _ _ _ _ _ _ _ _) Try.underlying29 rfl (by kernel_rfl)) rfl ⟨rfl, ?_⟩
    rw [HH.out]
    exact below_set12 (((HB3.out.setCell (by show H ≤ H + 1 + 1; omega) _).setCell (by show H ≤ H + 1 + 1; omega) _).setCell (by show H ≤ H + 1 + 1; omega) _) (by omega) _ _ _ _ _ _ _ _ _ _ _ _
end Go.Proofs.Ytofmcaagnhdecaa
