/- The walk of phys.Mem's Copy. -/
import Derived.Test.YtlfenakabedmfaaPhys2
import Derived.Test.YtlfenakabedmfaaHeld
namespace Go.Proofs.Ytlfenakabedmfaa
open Go.RowKit Go.Shelf
attribute [local go_sem] Oper.semAt_some

/-- The first k frames' words, as a row. -/
def rowTo (m : Nat → Int) (k : Nat) : List Value := (List.range (k * 8)).map fun j => .int .u64 (m j)
theorem rowTo_succ (m : Nat → Int) (k : Nat) : rowTo m (k + 1) = rowTo m k ++ (frameA m k).toList := by
  unfold rowTo frameA
  rw [show (k + 1) * 8 = k * 8 + 8 by omega, List.range_add, List.map_append]
  rfl
theorem rowTo_get {m : Nat → Int} {k j : Nat} (h : j < k * 8) : (rowTo m k)[j]? = some (.int .u64 (m j)) := by
  unfold rowTo
  rw [List.getElem?_map, List.getElem?_range h]
  rfl
theorem frameInfo3 : (Try.prog.info? 152).map (fun i => (i.zero, i.size, i.bytes)) = some (some (.agg noughts), 8, 64) := by kernel_rfl

set_option maxRecDepth 100000 in
set_option maxHeartbeats 2000000 in
theorem copy_in_F (F : Fence) (q : Nat) (hF : WideF F Try.prog) (hro : F.round = none) (hq : 3 ≤ q) (g gf n cp : Nat) (m : Nat → Int) (w : World) (hM : MemAt w g gf n cp m) :
    CallsIn F q Try.prog 42 #[.pointer (some ⟨g, 0, none⟩)] w fun e w' => ∃ g' gf' cp', e = .returned (.pointer (some ⟨g', 0, none⟩)) ∧ MemAt w' g' gf' n cp' m ∧ w.heap.size ≤ g' ∧ w.heap.size ≤ gf' ∧ Below w.heap.size w w' := by
  have c0 := hM.hd.cell 0
  have hn := hM.le
  have hpos := hM.pos
  have hlt := hM.hd.lt
  have hltf := hM.ltf
  have hq1 : 1 ≤ q := by omega
  have HM := hide hM
  have HF := hide hF
  have hfn := hF.fn
  refine callsIn_of_wp_marks Try.func42 rfl (hF.fn _) ?_ hro
  clear hF hM
  simp only [Try.ntmps42, List.size_toArray, List.length_cons, List.length_nil, Nat.reduceAdd, Nat.reduceSub, Array.replicate_succ, Array.replicate_zero, List.push_toArray, List.append_toArray, List.nil_append, List.cons_append]
  gi_wp2_with (gi_at_call 72; refine (all_in F (q - 1) HF.out hro _ 0 _).mono ?_; rintro e w' ⟨rfl, rfl⟩)
  have b0 := (((Blk.new w 95 #[.slice none 0 0]).alloc (.cells #[.pointer (some ⟨w.heap.size, 0, none⟩)] 24)).alloc (.cells #[.pointer (some ⟨g, 0, none⟩)] 24)).alloc (.cells #[.int .i64 0] 3)
  have b1 := ((Blk.new (w.alloc (.cells #[.slice none 0 0] 95)) 24 #[.pointer (some ⟨w.heap.size, 0, none⟩)]).alloc (.cells #[.pointer (some ⟨g, 0, none⟩)] 24)).alloc (.cells #[.int .i64 0] 3)
  have b2 := (Blk.new ((w.alloc (.cells #[.slice none 0 0] 95)).alloc (.cells #[.pointer (some ⟨w.heap.size, 0, none⟩)] 24)) 24 #[.pointer (some ⟨g, 0, none⟩)]).alloc (.cells #[.int .i64 0] 3)
  have b3 := Blk.new (((w.alloc (.cells #[.slice none 0 0] 95)).alloc (.cells #[.pointer (some ⟨w.heap.size, 0, none⟩)] 24)).alloc (.cells #[.pointer (some ⟨g, 0, none⟩)] 24)) 3 #[.int .i64 0]
  have hb0 : Below w.heap.size w ((((w.alloc (.cells #[.slice none 0 0] 95)).alloc (.cells #[.pointer (some ⟨w.heap.size, 0, none⟩)] 24)).alloc (.cells #[.pointer (some ⟨g, 0, none⟩)] 24)).alloc (.cells #[.int .i64 0] 3)) :=
    ((((Below.refl _ w).alloc (Nat.le_refl _) _).alloc (by simp) _).alloc (by simp; omega) _).alloc (by simp; omega) _
  simp only [World.size_alloc] at b1 b2 b3
  generalize ((((w.alloc (.cells #[.slice none 0 0] 95)).alloc (.cells #[.pointer (some ⟨w.heap.size, 0, none⟩)] 24)).alloc (.cells #[.pointer (some ⟨g, 0, none⟩)] 24)).alloc (.cells #[.int .i64 0] 3)) = W0 at *
  have hM0 := HM.out.below hb0 hlt hltf
  obtain ⟨i0, hi0, hz0, hz1, hz2⟩ := info_parts frameInfo3
  refine' wpIn_iter1 hro hq1 (gf := 88) (lb := _) rfl (hfn _) (enters_of Try.func88 (by kernel_rfl) rfl) (all_iter F (q - 1) HF.out hro (by omega) g gf n cp 0 _ _ W0 hM0.hd hn b3 b2 (by omega))
    (fun pre x A B C D h1 h2 h3 => ?hK) (fun _ _ _ _ h _ => h) (fun _ _ _ h _ => h) (fun _ => rfl)
    (fun pre W => MemAt W g gf n cp m ∧ Blk W (w.heap.size + 1) 24 #[.pointer (some ⟨w.heap.size, 0, none⟩)] ∧ (Blk W (w.heap.size + 1 + 1) 24 #[.pointer (some ⟨g, 0, none⟩)] ∧ Blk W (w.heap.size + 1 + 1 + 1) 3 #[.int .i64 0]) ∧ (∃ v, Blk W w.heap.size 95 #[v] ∧ W.ownsRow w.heap.size 152 8 v pre.length (rowTo m pre.length)) ∧ Below w.heap.size w W)
    (fun _ _ _ => False)
    ?hI (fun _ _ _ _ h _ => h) ?h0 _ ?assign ?body ?done (fun _ _ _ _ _ h _ => h.elim)
  case hK =>
    have := hM0.hd.lt
    have := b3.lt
    exact KeepB.skips (fun k hk => by omega) h1 h2 h3
  case hI =>
    rintro s A C ⟨hM, hb, ⟨hb2, hb3⟩, ⟨v, hv, hrow⟩, hB⟩ hk
    exact ⟨hM.same (hk.same hM.hd) (by obtain ⟨cs, hb, _⟩ := hM.row; exact hk.same hb), hk.blk hb, ⟨hk.blk hb2, hk.blk hb3⟩, ⟨v, hk.blk hv, owns_skips hrow hk⟩, below_skips hB hk hb0.size (Nat.le_refl _)⟩
  case h0 => exact ⟨hM0, b1, ⟨b2, b3⟩, ⟨_, b0, World.ownsRow_nil _ _ _ _⟩, hb0⟩
  case assign =>
    intro l x W K hK
    gi_wp2
    exact hK
  case body =>
    rintro l pre x W hl hr ⟨hM, hb, ⟨hb2, hb3⟩, ⟨v, hv, hrow⟩, hB⟩ ⟨hx1, hx2⟩
    have hxl : x = pre.length := by omega
    clear hx1
    have HX := hide hxl
    have HM2 := hide hM
    have Hr := hide hr
    have HRow := hide hrow
    clear hxl hM hr hrow
    gi_wp2
    have hS : (fun w' => w'.cell? ⟨w.heap.size + 1, 0, none⟩ = some (.pointer (some ⟨w.heap.size, 0, none⟩)) ∧ w'.cell? ⟨w.heap.size, 0, none⟩ = some v ∧
      w'.cell? ⟨gf, x * 8, none⟩ = some (.int .u64 (m (x * 8))) ∧ w'.cell? ⟨gf, x * 8 + 1, none⟩ = some (.int .u64 (m (x * 8 + 1))) ∧ w'.cell? ⟨gf, x * 8 + 2, none⟩ = some (.int .u64 (m (x * 8 + 2))) ∧ w'.cell? ⟨gf, x * 8 + 3, none⟩ = some (.int .u64 (m (x * 8 + 3))) ∧
      w'.cell? ⟨gf, x * 8 + 4, none⟩ = some (.int .u64 (m (x * 8 + 4))) ∧ w'.cell? ⟨gf, x * 8 + 5, none⟩ = some (.int .u64 (m (x * 8 + 5))) ∧ w'.cell? ⟨gf, x * 8 + 6, none⟩ = some (.int .u64 (m (x * 8 + 6))) ∧ w'.cell? ⟨gf, x * 8 + 7, none⟩ = some (.int .u64 (m (x * 8 + 7)))) W.drew := ⟨hb.cell 0, hv.cell 0, HM2.out.cell _ (by omega), HM2.out.cell _ (by omega), HM2.out.cell _ (by omega), HM2.out.cell _ (by omega), HM2.out.cell _ (by omega), HM2.out.cell _ (by omega), HM2.out.cell _ (by omega), HM2.out.cell _ (by omega)⟩
    refine wpIn_region_D 12 (fun w' => w'.cell? ⟨w.heap.size + 1, 0, none⟩ = some (.pointer (some ⟨w.heap.size, 0, none⟩)) ∧ w'.cell? ⟨w.heap.size, 0, none⟩ = some v ∧
      w'.cell? ⟨gf, x * 8, none⟩ = some (.int .u64 (m (x * 8))) ∧ w'.cell? ⟨gf, x * 8 + 1, none⟩ = some (.int .u64 (m (x * 8 + 1))) ∧ w'.cell? ⟨gf, x * 8 + 2, none⟩ = some (.int .u64 (m (x * 8 + 2))) ∧ w'.cell? ⟨gf, x * 8 + 3, none⟩ = some (.int .u64 (m (x * 8 + 3))) ∧
      w'.cell? ⟨gf, x * 8 + 4, none⟩ = some (.int .u64 (m (x * 8 + 4))) ∧ w'.cell? ⟨gf, x * 8 + 5, none⟩ = some (.int .u64 (m (x * 8 + 5))) ∧ w'.cell? ⟨gf, x * 8 + 6, none⟩ = some (.int .u64 (m (x * 8 + 6))) ∧ w'.cell? ⟨gf, x * 8 + 7, none⟩ = some (.int .u64 (m (x * 8 + 7)))) (HF.out.inRound l) (by kernel_rfl) (fun ⟨_, _, h⟩ => h) (by kernel_rfl) ?_
    refine' wpAnyD_take (i := 0) (oi := ⟨some 14, _, _, _, _, _⟩) (v := _) rfl (by kernel_rfl) (by kernel_rfl) (by kernel_rfl) (by kernel_rfl) (fun _ _ _ h => h) (Or.inl ⟨by rfl, ?_⟩) hS ?_
    rotate_left
    · intro w hSw
      try dsimp only at hSw
      go_simp
      all_goals with_reducible rfl
    simp only [Act.put, List.setIfInBounds_toArray, List.set_cons_zero, List.set_cons_succ]
    refine' wpAnyD_take (i := 1) (oi := ⟨some 15, _, _, _, _, _⟩) (v := _) rfl (by kernel_rfl) (by kernel_rfl) (by kernel_rfl) (by kernel_rfl) (fun _ _ _ h => h) (Or.inl ⟨by rfl, ?_⟩) hS ?_
    rotate_left
    · intro w hSw
      try dsimp only at hSw
      go_simp
      all_goals with_reducible rfl
    simp only [Act.put, List.setIfInBounds_toArray, List.set_cons_zero, List.set_cons_succ]
    refine' wpAnyD_take (i := 2) (oi := ⟨some 16, _, _, _, _, _⟩) (v := _) rfl (by kernel_rfl) (by kernel_rfl) (by kernel_rfl) (by kernel_rfl) (fun _ _ _ h => h) (Or.inl ⟨by rfl, ?_⟩) hS ?_
    rotate_left
    · intro w hSw
      try dsimp only at hSw
      go_simp
      all_goals with_reducible rfl
    simp only [Act.put, List.setIfInBounds_toArray, List.set_cons_zero, List.set_cons_succ]
    refine' wpAnyD_take (i := 3) (oi := ⟨some 17, _, _, _, _, _⟩) (v := _) rfl (by kernel_rfl) (by kernel_rfl) (by kernel_rfl) (by kernel_rfl) (fun _ _ _ h => h) (Or.inl ⟨by rfl, ?_⟩) hS ?_
    rotate_left
    · intro w hSw
      try dsimp only at hSw
      go_simp
      all_goals with_reducible rfl
    simp only [Act.put, List.setIfInBounds_toArray, List.set_cons_zero, List.set_cons_succ]
    refine' wpAnyD_take (i := 4) (oi := ⟨some 18, _, _, _, _, _⟩) (v := _) rfl (by kernel_rfl) (by kernel_rfl) (by kernel_rfl) (by kernel_rfl) (fun _ _ _ h => h) (Or.inl ⟨by rfl, ?_⟩) hS ?_
    rotate_left
    · intro w hSw
      try dsimp only at hSw
      go_simp
      all_goals with_reducible rfl
    simp only [Act.put, List.setIfInBounds_toArray, List.set_cons_zero, List.set_cons_succ]
    refine' wpAnyD_take (i := 5) (oi := ⟨some 19, _, _, _, _, _⟩) (v := _) rfl (by kernel_rfl) (by kernel_rfl) (by kernel_rfl) (by kernel_rfl) (fun _ _ _ h => h) (Or.inl ⟨by rfl, ?_⟩) hS ?_
    rotate_left
    · intro w hSw
      try dsimp only at hSw
      go_simp
      all_goals with_reducible rfl
    simp only [Act.put, List.setIfInBounds_toArray, List.set_cons_zero, List.set_cons_succ]
    refine' wpAnyD_take (i := 6) (oi := ⟨some 20, _, _, _, _, _⟩) (v := _) rfl (by kernel_rfl) (by kernel_rfl) (by kernel_rfl) (by kernel_rfl) (fun _ _ _ h => h) (Or.inl ⟨by rfl, ?_⟩) hS ?_
    rotate_left
    · intro w hSw
      try dsimp only at hSw
      go_simp
      all_goals with_reducible rfl
    simp only [Act.put, List.setIfInBounds_toArray, List.set_cons_zero, List.set_cons_succ]
    refine' wpAnyD_take (i := 7) (oi := ⟨some 21, _, _, _, _, _⟩) (v := _) rfl (by kernel_rfl) (by kernel_rfl) (by kernel_rfl) (by kernel_rfl) (fun _ _ _ h => h) (Or.inl ⟨by rfl, ?_⟩) hS ?_
    rotate_left
    · intro w hSw
      try dsimp only at hSw
      go_simp
      all_goals with_reducible rfl
    simp only [Act.put, List.setIfInBounds_toArray, List.set_cons_zero, List.set_cons_succ]
    refine wpAnyD_ready (rs := [8]) (by kernel_rfl) (by simp) ?_
    refine AllReadyD.cons (o := ⟨some 22, _, _, _, _, _⟩) rfl (fun K hK => ?_) AllReadyD.nil
    go_simp
    obtain ⟨W1, hW1⟩ : ∃ W1 : World, (W.alloc (.cells (frameA m x) 152)).drew = W1 := ⟨_, rfl⟩
    have hbA : Blk W1 (w.heap.size + 1) 24 #[.pointer (some ⟨w.heap.size, 0, none⟩)] := by rw [← hW1]; exact (hb.alloc _).drew
    have hvA : Blk W1 w.heap.size 95 #[v] := by rw [← hW1]; exact (hv.alloc _).drew
    have hMA : MemAt W1 g gf n cp m := by rw [← hW1]; exact HM2.out.below (((Below.refl _ W).alloc (Nat.le_refl _) _).drew) HM2.out.hd.lt HM2.out.ltf
    have hrA : W1.ownsRow w.heap.size 152 8 v pre.length (rowTo m pre.length) := by rw [← hW1]; exact (HRow.out.alloc _).drew
    have hnA : W1.heap[W.heap.size]? = some (.cells (frameA m x) 152 (0, 0)) := by rw [← hW1]; exact heap_alloc_new W _
    have hkA : KeepsOthers W W1 := by rw [← hW1]; exact (KeepsOthers.alloc W _).trans (KeepsOthers.drew _)
    have hmA : Mod (fun k => some k = v.ownBlock ∨ k = w.heap.size) W W1 := by rw [← hW1]; exact ((Mod.refl _ W).alloc _).drew
    have hBA : Below w.heap.size w W1 := by rw [← hW1]; exact (hB.alloc hB.size _).drew
    change K _ ((W.alloc (.cells (frameA m x) 152)).drew)
    rw [hW1]
    clear hW1
    refine hK.out _ _ (fun _ => ⟨hbA.cell 0, hvA.cell 0, hMA.cell _ (by omega), hMA.cell _ (by omega), hMA.cell _ (by omega), hMA.cell _ (by omega), hMA.cell _ (by omega), hMA.cell _ (by omega), hMA.cell _ (by omega), hMA.cell _ (by omega)⟩) (fun hS1 => ?_)
    clear hK K hS
    have hlen : pre.length < n := by have := HX.out; omega
    refine wpAnyD_ready (rs := [9]) (by kernel_rfl) (by simp) ?_
    refine AllReadyD.cons (o := ⟨some 23, _, _, _, _, _⟩) rfl (fun K hK => ?_) AllReadyD.nil
    refine step_append_lies (w := W1) rfl (.tmp 18) (.tmp 22) 93 rfl w.heap.size 152 i0 (.agg noughts) 8 64 Try.underlying93 hi0 hz0 hz1 hz2 rfl (by decide) v pre.length (rowTo m pre.length) (by rfl) hrA ⟨W.heap.size, 0, none⟩ 1 1 (frameA m x).toList (by rfl) rfl
      (World.news_of_block hnA) (frameA_one m x) (by decide) (by unfold maxLen; omega) (by omega) hBA.size _ rfl ?_
    intro g' cap w1 hown hgrow hat hlt'
    have n1 := hbA.not_row (by decide) hrA
    have n2 := hvA.not_row (by decide) hrA
    have n3 := hMA.hd.not_row (by decide) hrA
    have n4 : some gf ≠ v.ownBlock := fun e => by have := hrA.lt gf e.symm; omega
    have hbC := hbA.grown hgrow n1
    have hvC := hvA.grown hgrow n2
    have hMC : MemAt w1 g gf n cp m := hMA.same (hgrow.block _ hMA.hd.lt n3) (hgrow.block _ hMA.ltf n4)
    refine hK.out _ _ (fun _ => ⟨hbC.cell 0, hvC.cell 0, hMC.cell _ (by omega), hMC.cell _ (by omega), hMC.cell _ (by omega), hMC.cell _ (by omega), hMC.cell _ (by omega), hMC.cell _ (by omega), hMC.cell _ (by omega), hMC.cell _ (by omega)⟩) (fun hS2 => ?_)
    clear hK K hS1
    simp only [Act.put, List.setIfInBounds_toArray, List.set_cons_zero, List.set_cons_succ]
    replace hS2 := hS2 rfl
    refine wpAnyD_ready (rs := [10]) (by kernel_rfl) (by simp) ?_
    refine AllReadyD.cons (o := ⟨some 24, _, _, _, _, _⟩) rfl (fun K hK => ?_) AllReadyD.nil
    go_simp
    refine hK.out _ _ (fun _ => hS2) (fun _ => ?_)
    clear hK K
    refine wpAnyD_ready (rs := [11]) (by kernel_rfl) (by simp) ?_
    refine AllReadyD.cons (o := ⟨some 25, _, _, _, _, _⟩) rfl (fun K hK => ?_) AllReadyD.nil
    go_simp
    refine hK.out _ _ (fun _ => hS2) (fun _ => ?_)
    clear hK K
    have cv := hvC.cell 0
    have fv := hvC.frozen 0
    refine wpAnyD_ready (rs := [12]) (by kernel_rfl) (by simp) ?_
    refine AllReadyD.cons (o := ⟨none, _, _, _, _, _⟩) rfl (fun K hK => ?_) AllReadyD.nil
    go_simp
    refine hK.out _ _ (fun h => absurd h (by decide)) (fun _ => ?_)
    clear hK K
    refine wpAnyD_done (by kernel_rfl) ?_ _
    have hvD := hvC.set_ 0 (.slice (some ⟨g', 0, none⟩) (pre.length + 1) cap)
    have hlw := hM0.hd.lt
    have hmC : Mod (fun k => some k = v.ownBlock ∨ k = w.heap.size) W w1 := ⟨hgrow.os.trans hmA.os, hgrow.tape.trans hmA.tape, hgrow.output.trans hmA.output, Nat.le_trans hmA.size hgrow.size, fun k hk hn =>
      (hgrow.block k (Nat.lt_of_lt_of_le hk hmA.size) (fun e => hn (.inl e))).trans (hmA.block k hk hn)⟩
    have hmD := hmC.setCell (p := ⟨w.heap.size, 0, none⟩) (.inl (.inr rfl)) (.slice (some ⟨g', 0, none⟩) (pre.length + 1) cap)
    have m2 := hb2.not_row (by decide) HRow.out
    have m3 := hb3.not_row (by decide) HRow.out
    have m1 := HM2.out.hd.not_row (by decide) HRow.out
    have m4 : some gf ≠ v.ownBlock := fun e => by have := HRow.out.lt gf e.symm; omega
    have mb := hb.not_row (by decide) HRow.out
    have hrowD : (w1.setCell ⟨w.heap.size, 0, none⟩ (.slice (some ⟨g', 0, none⟩) (pre.length + 1) cap)).ownsRow w.heap.size 152 8 (.slice (some ⟨g', 0, none⟩) (pre.length + 1) cap) (pre.length + 1) (rowTo m pre.length ++ (frameA m x).toList) :=
      hown.kept (grownBy_setCell' w1 w.heap.size _) (.inr (hvC.not_row (by decide) hown).symm)
    refine ⟨((hkA.trans (KeepsOthers.of_grownBy hgrow (fun j o e ho => ?_))).trans (KeepsOthers.setCell _ _ _)).from _, KeepB.of_mod hmD (fun k hk => ?_), ?_, hb.mod hmD (fun h => h.elim mb (by omega)), ⟨hb2.mod hmD (fun h => h.elim m2 (by omega)), hb3.mod hmD (fun h => h.elim m3 (by omega))⟩, ⟨_, hvD, ?_⟩, ?_⟩
    · rcases hrA.2 with ⟨rfl, _⟩ | ⟨g2, c2, cur, rfl, _, hg2, _⟩
      · simp [Value.ownBlock] at e
      · have e2 : g2 = j := by simpa [Value.ownBlock] using e
        subst e2
        rw [hg2] at ho
        cases ho
        rfl
    · rcases hk with rfl | rfl | rfl
      · exact fun h => h.elim m1 (by omega)
      · exact fun h => h.elim m3 (by omega)
      · exact fun h => h.elim m2 (by omega)
    · exact HM2.out.same (hmD.block _ HM2.out.hd.lt (fun h => h.elim m1 (by omega))) (hmD.block _ HM2.out.ltf (fun h => h.elim m4 (by omega)))
    · rw [List.length_append, List.length_singleton, rowTo_succ, ← HX.out]
      exact HX.out ▸ hrowD
    · exact (hBA.grown hgrow hBA.size (fun k e => (hrA.lt k e).1)).setCell (p := ⟨w.heap.size, 0, none⟩) (Nat.le_refl _) _
  case done =>
    rintro D xs W hD hlen ⟨hM, hb, ⟨hb2, hb3⟩, ⟨v, hv, hrow⟩, hB⟩ hd
    have hxl : xs.length = n := by omega
    rw [hxl] at hrow
    have c1 := hb.cell 0
    have HRow := hide hrow
    have HL := hide hxl
    clear hlen hxl hrow hM
    gi_wp2
    have sk := Skips.putObj (B := W0.heap.size) hd rfl hD (.deferred none)
    refine ⟨by simp, .inl ⟨_, _, rfl, run_takeDeferred hd, ?_⟩⟩
    refine ⟨.pointer (some ⟨w.heap.size, 0, none⟩), by simp [results, Try.f42, go_sem], ?_⟩
    obtain ⟨hxs, ⟨rfl, h0⟩ | ⟨g', cap, cur, rfl, hg1, hg2, hg3, hg4, hg5, hg6⟩⟩ := HRow.out
    · omega
    · have hg2' : Blk W g' 152 cur := hg2
      refine ⟨w.heap.size, g', cap, rfl, ⟨sk.blk hv, ⟨cur, sk.blk hg2', by omega, fun j hj => ?_⟩, hpos, hn, hg3, HM.out.word⟩, Nat.le_refl _, hg1, below_skips hB sk hb0.size (Nat.le_refl _)⟩
      have h1 : (rowTo m n)[j]? = some (.int .u64 (m j)) := rowTo_get (by omega)
      rw [← hg6, List.getElem?_take_of_lt (by omega)] at h1
      simpa using h1
theorem copy_in (g gf n cp : Nat) (m : Nat → Int) (w : World) (hM : MemAt w g gf n cp m) :
    Calls Try.prog 42 #[.pointer (some ⟨g, 0, none⟩)] w fun e w' => ∃ g' gf' cp', e = .returned (.pointer (some ⟨g', 0, none⟩)) ∧ MemAt w' g' gf' n cp' m ∧ w.heap.size ≤ g' ∧ w.heap.size ≤ gf' ∧ Below w.heap.size w w' :=
  callsIn_wide.1 (copy_in_F Fence.wide 10 (wideF _) rfl (by omega) g gf n cp m w hM)
end Go.Proofs.Ytlfenakabedmfaa
