/- The walk of a cache's All. -/
import Derived.Test.YtjnnimdgmcpjoaaTlb3
import Derived.Deep.AppendLies
namespace Go.Proofs.Ytjnnimdgmcpjoaa
open Go.RowKit Go.Shelf
attribute [local go_sem] Oper.semAt_some
/-- Some translations as a row. -/
def rowsOf (c : Cache) (l : List Nat) : List Value := l.flatMap fun i => (c.way i).row.toList
theorem rowsOf_snoc (c : Cache) (l : List Nat) (i : Nat) : rowsOf c (l ++ [i]) = rowsOf c l ++ (c.way i).row.toList := by simp [rowsOf]
theorem row_one (y : Tr) : ∀ u ∈ y.row.toList, u.oneCell' = true := by
  intro u hu
  simp [Tr.row] at hu
  rcases hu with rfl | rfl | rfl | rfl | rfl <;> rfl
theorem transInfo : (Try.prog.info? 42).map (fun i => (i.zero, i.size, i.bytes)) = some (some (.agg Tr.zero.row), 5, 32) := by kernel_rfl
theorem vis_len (c : Cache) (n : Nat) : (vis c n).length ≤ n := by
  have := List.length_filter_le (fun i => (c.way i).sp != 0) (List.range n)
  simpa [vis] using this
set_option maxRecDepth 100000 in
set_option maxHeartbeats 4000000 in
theorem all_in_F (F : Fence) (q : Nat) (hF : WideF F Try.prog) (hro : F.round = none) (hq : 3 ≤ q) (g : Nat) (c : Cache) (w : World) (hT : TlbAt w g c) :
    CallsIn F q Try.prog 47 #[.pointer (some ⟨g, 0, none⟩)] w fun e w' => ∃ v, e = .returned v ∧ w'.ownsRow w.heap.size 42 5 v (vis c 8).length (rowsOf c (vis c 8)) ∧ Below w.heap.size w w' := by
  have hlt := hT.lt
  have hq1 : 1 ≤ q := by omega
  have HT := hide hT
  have HF := hide hF
  have hfn := hF.fn
  refine callsIn_of_wp_marks Try.func47 rfl (hF.fn _) ?_ hro
  clear hF hT
  simp only [Try.ntmps47, List.size_toArray, List.length_cons, List.length_nil, Nat.reduceAdd, Nat.reduceSub, Array.replicate_succ, Array.replicate_zero, List.push_toArray, List.append_toArray, List.nil_append, List.cons_append]
  gi_wp2_with (gi_at_call 73; refine (there_in F (q - 1) HF.out hro _ _).mono ?_; rintro e w' ⟨rfl, rfl⟩)
  obtain ⟨W0, hW0⟩ : ∃ W0 : World, (w.alloc (.cells #[.slice none 0 0] 38)).alloc (.cells #[.pointer (some ⟨g, 0, none⟩)] 99) = W0 := ⟨_, rfl⟩
  have b0 : Blk W0 w.heap.size 38 #[.slice none 0 0] := by rw [← hW0]; exact (Blk.new w _ _).alloc _
  have b1 : Blk W0 (w.heap.size + 1) 99 #[.pointer (some ⟨g, 0, none⟩)] := by
    have h := Blk.new (w.alloc (.cells #[.slice none 0 0] 38)) 99 #[.pointer (some ⟨g, 0, none⟩)]
    simp only [World.size_alloc] at h
    rw [← hW0]; exact h
  have hb0 : Below w.heap.size w W0 := by rw [← hW0]; exact ((Below.refl _ w).alloc (Nat.le_refl _) _).alloc (by simp) _
  change Code.wpIn _ _ _ _ _ _ ((w.alloc (.cells #[.slice none 0 0] 38)).alloc (.cells #[.pointer (some ⟨g, 0, none⟩)] 99))
  rw [hW0]
  clear hW0
  have hT0 := HT.out.below hb0 hlt
  have hl4 := b1.lt
  obtain ⟨i0, hi0, hz0, hz1, hz2⟩ := info_parts transInfo
  refine' wpIn_iter1 hro hq1 (gf := 89) (lb := _) rfl (hfn _) (enters_of Try.func89 (by kernel_rfl) rfl) (there_iter F (q - 1) HF.out hro (by omega) g _ c W0 hT0 b1)
    (fun pre x A B C D h1 h2 h3 => ?hK) (fun _ _ _ _ h hk => ⟨h.1, h.2.1, h.2.2.1, by obtain ⟨c', h1, h2⟩ := h.2.2.2; exact ⟨c', h1.skips hk, h2⟩⟩) (fun _ _ _ h _ => h) (fun _ => rfl)
    (fun pre W => TlbAt W g c ∧ Blk W (w.heap.size + 1) 99 #[.pointer (some ⟨g, 0, none⟩)] ∧ (∃ v, Blk W w.heap.size 38 #[v] ∧ W.ownsRow w.heap.size 42 5 v pre.length (rowsOf c pre)) ∧ Below w.heap.size w W)
    (fun _ _ _ => False)
    ?hI (fun _ _ _ _ h _ => h) ?h0 _ ?assign ?body ?done (fun _ _ _ _ _ h _ => h.elim)
  case hK =>
    refine ⟨KeepB.skips (fun k hk => by omega) h1 h2.1 h3, fun c' hc' => ?_⟩
    obtain ⟨y, hy⟩ := h2.2 c' (hc'.skips h1)
    exact ⟨y, hy.skips h3⟩
  case hI =>
    rintro s A C ⟨h1, h2, ⟨v, h3, h4⟩, h5⟩ hk
    exact ⟨h1.skips hk, hk.blk h2, ⟨v, hk.blk h3, owns_skips h4 hk⟩, below_skips h5 hk hb0.size (Nat.le_refl _)⟩
  case h0 => exact ⟨hT0, b1, ⟨_, b0, World.ownsRow_nil _ _ _ _⟩, hb0⟩
  case assign =>
    intro l x W K hK
    gi_wp2
    exact hK
  case body =>
    rintro l pre x W hl hr ⟨hT, hb, ⟨v, hv, hrow⟩, hB⟩ ⟨hx8, hx0, hpre, _⟩
    obtain ⟨t0, t1, t2, t3, t4⟩ := hT.cell x hx8
    have hS : (fun w' : World => w'.cell? ⟨w.heap.size, 0, none⟩ = some v ∧ w'.cell? ⟨g, pos x, none⟩ = some (.int .i64 (c.way x).sp) ∧ w'.cell? ⟨g, pos x + 1, none⟩ = some (.int .i64 (c.way x).pg) ∧ w'.cell? ⟨g, pos x + 2, none⟩ = some (.int .i64 (c.way x).fr) ∧ w'.cell? ⟨g, pos x + 3, none⟩ = some (.bool (c.way x).rd) ∧ w'.cell? ⟨g, pos x + 4, none⟩ = some (.bool (c.way x).wr)) W.drew := ⟨hv.cell 0, t0, t1, t2, t3, t4⟩
    have hplen : pre.length ≤ 8 := by rw [hpre]; exact Nat.le_trans (vis_len c x) (by omega)
    have HT2 := hide hT
    have Hr := hide hr
    have HRow := hide hrow
    have HP := hide hpre
    clear hT hr hrow t0 t1 t2 t3 t4 hpre
    gi_wp2
    refine wpIn_region_D 6 (fun w' => w'.cell? ⟨w.heap.size, 0, none⟩ = some v ∧ w'.cell? ⟨g, pos x, none⟩ = some (.int .i64 (c.way x).sp) ∧ w'.cell? ⟨g, pos x + 1, none⟩ = some (.int .i64 (c.way x).pg) ∧ w'.cell? ⟨g, pos x + 2, none⟩ = some (.int .i64 (c.way x).fr) ∧ w'.cell? ⟨g, pos x + 3, none⟩ = some (.bool (c.way x).rd) ∧ w'.cell? ⟨g, pos x + 4, none⟩ = some (.bool (c.way x).wr)) (HF.out.inRound l) (by kernel_rfl) (fun ⟨_, _, h⟩ => h) (by kernel_rfl) ?_
    refine' wpAnyD_take (i := 0) (oi := ⟨some 8, _, _, _, _, _⟩) (v := _) rfl (by kernel_rfl) (by kernel_rfl) (by kernel_rfl) (by kernel_rfl) (fun _ _ _ h => h) (Or.inl ⟨by rfl, ?_⟩) hS ?_
    rotate_left
    · intro w hSw
      try dsimp only at hSw
      go_simp
      all_goals with_reducible rfl
    simp only [Act.put, List.setIfInBounds_toArray, List.set_cons_zero, List.set_cons_succ]
    refine' wpAnyD_take (i := 1) (oi := ⟨some 9, _, _, _, _, _⟩) (v := _) rfl (by kernel_rfl) (by kernel_rfl) (by kernel_rfl) (by kernel_rfl) (fun _ _ _ h => h) (Or.inl ⟨by rfl, ?_⟩) hS ?_
    rotate_left
    · intro w hSw
      try dsimp only at hSw
      go_simp
      all_goals with_reducible rfl
    simp only [Act.put, List.setIfInBounds_toArray, List.set_cons_zero, List.set_cons_succ]
    refine' wpAnyD_take (i := 2) (oi := ⟨some 10, _, _, _, _, _⟩) (v := _) rfl (by kernel_rfl) (by kernel_rfl) (by kernel_rfl) (by kernel_rfl) (fun _ _ _ h => h) (Or.inl ⟨by rfl, ?_⟩) hS ?_
    rotate_left
    · intro w hSw
      try dsimp only at hSw
      go_simp
      all_goals with_reducible rfl
    simp only [Act.put, List.setIfInBounds_toArray, List.set_cons_zero, List.set_cons_succ]
    refine' wpAnyD_take (i := 3) (oi := ⟨some 11, _, _, _, _, _⟩) (v := _) rfl (by kernel_rfl) (by kernel_rfl) (by kernel_rfl) (by kernel_rfl) (fun _ _ _ h => h) (Or.inl ⟨by rfl, ?_⟩) hS ?_
    rotate_left
    · intro w hSw
      try dsimp only at hSw
      go_simp
      all_goals with_reducible rfl
    simp only [Act.put, List.setIfInBounds_toArray, List.set_cons_zero, List.set_cons_succ]
    refine wpAnyD_ready (rs := [4]) (by kernel_rfl) (by simp) ?_
    refine AllReadyD.cons (o := ⟨some 12, _, _, _, _, _⟩) rfl (fun K hK => ?_) AllReadyD.nil
    go_simp
    obtain ⟨W1, hW1⟩ : ∃ W1 : World, (W.alloc (.cells (c.way x).row 42)).drew = W1 := ⟨_, rfl⟩
    have hbA : Blk W1 (w.heap.size + 1) 99 #[.pointer (some ⟨g, 0, none⟩)] := by rw [← hW1]; exact (hb.alloc _).drew
    have hvA : Blk W1 w.heap.size 38 #[v] := by rw [← hW1]; exact (hv.alloc _).drew
    have hTA : TlbAt W1 g c := by rw [← hW1]; exact HT2.out.below (((Below.refl _ W).alloc (Nat.le_refl _) _).drew) HT2.out.lt
    have hrA : W1.ownsRow w.heap.size 42 5 v pre.length (rowsOf c pre) := by rw [← hW1]; exact (HRow.out.alloc _).drew
    have hnA : W1.heap[W.heap.size]? = some (.cells (c.way x).row 42 (0, 0)) := by rw [← hW1]; exact heap_alloc_new W _
    have hkA : KeepsOthers W W1 := by rw [← hW1]; exact (KeepsOthers.alloc W _).trans (KeepsOthers.drew _)
    have hmA : Mod (fun k => some k = v.ownBlock ∨ k = w.heap.size) W W1 := by rw [← hW1]; exact ((Mod.refl _ W).alloc _).drew
    have hBA : Below w.heap.size w W1 := by rw [← hW1]; exact (hB.alloc hB.size _).drew
    change K _ ((W.alloc (.cells (c.way x).row 42)).drew)
    rw [hW1]
    clear hW1
    obtain ⟨s0, s1, s2, s3, s4⟩ := hTA.cell x hx8
    refine hK.out _ _ (fun _ => ⟨hvA.cell 0, s0, s1, s2, s3, s4⟩) (fun hS1 => ?_)
    clear hK K hS s0 s1 s2 s3 s4
    refine wpAnyD_ready (rs := [5]) (by kernel_rfl) (by simp) ?_
    refine AllReadyD.cons (o := ⟨some 13, _, _, _, _, _⟩) rfl (fun K hK => ?_) AllReadyD.nil
    refine step_append_lies (w := W1) rfl (.tmp 8) (.tmp 12) 38 rfl w.heap.size 42 i0 (.agg Tr.zero.row) 5 32 Try.underlying38 hi0 hz0 hz1 hz2 rfl (by decide) v pre.length (rowsOf c pre) (by rfl) hrA ⟨W.heap.size, 0, none⟩ 1 1 (c.way x).row.toList (by rfl) rfl
      (World.news_of_block hnA) (row_one _) (by decide) (by unfold maxLen; omega) (by omega) hBA.size _ rfl ?_
    intro g' cap w1 hown hgrow hat hlt'
    have n1 := hbA.not_row (by decide) hrA
    have n2 := hvA.not_row (by decide) hrA
    have n4 : some g ≠ v.ownBlock := fun e => by have := hrA.lt g e.symm; omega
    have hbC := hbA.grown hgrow n1
    have hvC := hvA.grown hgrow n2
    have hTC : TlbAt w1 g c := hTA.same (hgrow.block _ hTA.lt n4)
    obtain ⟨s0, s1, s2, s3, s4⟩ := hTC.cell x hx8
    refine hK.out _ _ (fun _ => ⟨hvC.cell 0, s0, s1, s2, s3, s4⟩) (fun _ => ?_)
    clear hK K hS1 s0 s1 s2 s3 s4
    simp only [Act.put, List.setIfInBounds_toArray, List.set_cons_zero, List.set_cons_succ]
    have cv := hvC.cell 0
    have fv := hvC.frozen 0
    refine wpAnyD_ready (rs := [6]) (by kernel_rfl) (by simp) ?_
    refine AllReadyD.cons (o := ⟨none, _, _, _, _, _⟩) rfl (fun K hK => ?_) AllReadyD.nil
    go_simp
    refine hK.out _ _ (fun h => absurd h (by decide)) (fun _ => ?_)
    clear hK K
    refine wpAnyD_done (by kernel_rfl) ?_ _
    have hvD := hvC.set_ 0 (.slice (some ⟨g', 0, none⟩) (pre.length + 1) cap)
    have hmC : Mod (fun k => some k = v.ownBlock ∨ k = w.heap.size) W w1 := ⟨hgrow.os.trans hmA.os, hgrow.tape.trans hmA.tape, hgrow.output.trans hmA.output, Nat.le_trans hmA.size hgrow.size, fun k hk hn =>
      (hgrow.block k (Nat.lt_of_lt_of_le hk hmA.size) (fun e => hn (.inl e))).trans (hmA.block k hk hn)⟩
    have hmD := hmC.setCell (p := ⟨w.heap.size, 0, none⟩) (.inl (.inr rfl)) (.slice (some ⟨g', 0, none⟩) (pre.length + 1) cap)
    have m4 : some g ≠ v.ownBlock := fun e => by have := HRow.out.lt g e.symm; omega
    have mb := hb.not_row (by decide) HRow.out
    have hrowD : (w1.setCell ⟨w.heap.size, 0, none⟩ (.slice (some ⟨g', 0, none⟩) (pre.length + 1) cap)).ownsRow w.heap.size 42 5 (.slice (some ⟨g', 0, none⟩) (pre.length + 1) cap) (pre.length + 1) (rowsOf c pre ++ (c.way x).row.toList) :=
      hown.kept (grownBy_setCell' w1 w.heap.size _) (.inr (hvC.not_row (by decide) hown).symm)
    have hTD : TlbAt (w1.setCell ⟨w.heap.size, 0, none⟩ (.slice (some ⟨g', 0, none⟩) (pre.length + 1) cap)) g c := HT2.out.mod hmD (fun h => h.elim m4 (by omega))
    refine ⟨((hkA.trans (KeepsOthers.of_grownBy hgrow (fun j o e ho => ?_))).trans (KeepsOthers.setCell _ _ _)).from _, ⟨KeepB.of_mod hmD (fun k hk h => ?_), fun c' hc' => ⟨c'.way x, ?_⟩⟩, hTD, hb.mod hmD (fun h => h.elim mb (by omega)), ⟨_, hvD, ?_⟩, ?_⟩
    · rcases hrA.2 with ⟨rfl, _⟩ | ⟨g2, c2, cur, rfl, _, hg2, _⟩
      · simp [Value.ownBlock] at e
      · have e2 : g2 = j := by simpa [Value.ownBlock] using e
        subst e2
        rw [hg2] at ho
        cases ho
        rfl
    · subst hk
      exact h.elim mb (by omega)
    · rw [put_self]
      exact hc'.mod hmD (fun h => h.elim m4 (by omega))
    · rw [List.length_append, List.length_singleton, rowsOf_snoc]
      exact hrowD
    · exact (hBA.grown hgrow hBA.size (fun k e => (hrA.lt k e).1)).setCell (p := ⟨w.heap.size, 0, none⟩) (Nat.le_refl _) _
  case done =>
    rintro D xs W hD rfl ⟨hT, hb, ⟨v, hv, hrow⟩, hB⟩ hd
    have c1 := hv.cell 0
    have HRow := hide hrow
    have HB := hide hB
    have HV := hide hv
    clear hT hrow hB hb hv
    gi_wp2
    have sk := Skips.putObj (B := W0.heap.size) hd rfl hD (.deferred none)
    refine ⟨by simp, .inl ⟨_, _, rfl, run_takeDeferred hd, ?_⟩⟩
    exact ⟨v, by simp [results, Try.f47, go_sem], v, rfl, owns_skips HRow.out sk, below_skips HB.out sk hb0.size (Nat.le_refl _)⟩
theorem all_of (g : Nat) (c : Cache) (w : World) (hT : TlbAt w g c) :
    Calls Try.prog 47 #[.pointer (some ⟨g, 0, none⟩)] w fun e w' => ∃ v, e = .returned v ∧ w'.ownsRow w.heap.size 42 5 v (vis c 8).length (rowsOf c (vis c 8)) ∧ Below w.heap.size w w' :=
  callsIn_wide.1 (all_in_F Fence.wide 10 (wideF _) rfl (by omega) g c w hT)
end Go.Proofs.Ytjnnimdgmcpjoaa
