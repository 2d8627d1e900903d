/- The walk of package cores: New. -/
import Derived.Test.YtlfenakabedmfaaCores5
import Derived.Test.YtlfenakabedmfaaHeld
namespace Go.Proofs.Ytlfenakabedmfaa
open Go.RowKit Go.Shelf
theorem cnew_bad (n : Int) (w : World) (h : n < 1 ∨ 3 < n) : Calls Try.prog 15 #[.int .i64 n] w fun e w' => e = .returned (.tuple #[.pointer none, .int .i64 3]) ∧ w = w' := by
  rcases h with h | h
  all_goals
    go_enter Try.func15, Try.ntmps15
    go_wp2_with fail
    go_ret2
    exact ⟨rfl, rfl⟩
/-- A new core. -/
def core0 : Core := ⟨-1, 0, Cache.empty⟩
/-- The rows of k new cores. -/
def newRows (tl : Nat → Nat) (k : Nat) : List Value := (List.range k).flatMap fun i => [.int .i64 (-1), .int .i64 0, .pointer (some ⟨tl i, 0, none⟩)]
theorem newRows_succ (tl : Nat → Nat) (k : Nat) : newRows tl (k + 1) = newRows tl k ++ [.int .i64 (-1), .int .i64 0, .pointer (some ⟨tl k, 0, none⟩)] := by simp [newRows, List.range_succ]
theorem newRows_upd (tl : Nat → Nat) (k t : Nat) : newRows (upd tl k t) k = newRows tl k := by
  unfold newRows
  rw [List.flatMap_def, List.flatMap_def]
  congr 1
  refine List.map_congr_left (fun i hi => ?_)
  rw [List.mem_range] at hi
  rw [upd_ne _ _ (by omega)]
theorem newRows_len (tl : Nat → Nat) : ∀ k, (newRows tl k).length = k * 3
  | 0 => rfl
  | k + 1 => by rw [newRows_succ, List.length_append, newRows_len tl k]; simp; omega
theorem newRows_get (tl : Nat → Nat) : ∀ (k i : Nat), i < k → (newRows tl k)[i * 3]? = some (.int .i64 (-1)) ∧ (newRows tl k)[i * 3 + 1]? = some (.int .i64 0) ∧ (newRows tl k)[i * 3 + 2]? = some (.pointer (some ⟨tl i, 0, none⟩))
  | 0, i, h => absurd h (Nat.not_lt_zero _)
  | k + 1, i, h => by
    have hl := newRows_len tl k
    rw [newRows_succ]
    rcases Nat.lt_or_ge i k with h2 | h2
    · obtain ⟨a, b, c⟩ := newRows_get tl k i h2
      rw [List.getElem?_append_left (by omega), List.getElem?_append_left (by omega), List.getElem?_append_left (by omega)]
      exact ⟨a, b, c⟩
    · obtain rfl : i = k := by omega
      rw [List.getElem?_append_right (by omega), List.getElem?_append_right (by omega), List.getElem?_append_right (by omega), hl]
      rw [show i * 3 - i * 3 = 0 by omega, show i * 3 + 1 - i * 3 = 1 by omega, show i * 3 + 2 - i * 3 = 2 by omega]
      exact ⟨rfl, rfl, rfl⟩
theorem coreInfo : (Try.prog.info? 102).map (fun i => (i.zero, i.size, i.bytes)) = some (some (.agg #[.int .i64 0, .int .i64 0, .pointer none]), 3, 24) := by kernel_rfl
set_option maxRecDepth 100000 in
set_option maxHeartbeats 2000000 in
theorem cnew_in (n : Nat) (w : World) (h1 : 1 ≤ n) (h3 : n ≤ 3) : Calls Try.prog 15 #[.int .i64 n] w fun e w' =>
    ∃ gb cap tl, e = .returned (.tuple #[.pointer (some ⟨w.heap.size, 0, none⟩), .int .i64 0]) ∧ CoresAt w' w.heap.size gb cap n tl (fun _ => core0) ∧ (∀ k, crS w.heap.size gb n tl k → w.heap.size ≤ k) ∧ Below w.heap.size w w' := by
  have b0 := Blk.new w 98 #[.slice none 0 0]
  have hb0 := (Below.refl _ w).alloc (Nat.le_refl _) (.cells #[.slice none 0 0] 98)
  obtain ⟨i0, hi0, hz0, hz1, hz2⟩ := info_parts coreInfo
  go_enter Try.func15, Try.ntmps15
  go_wp2_with fail
  obtain ⟨W0, hW0⟩ : ∃ W0 : World, w.alloc (.cells #[.slice none 0 0] 98) = W0 := ⟨_, rfl⟩
  rw [hW0] at b0 hb0 ⊢
  have hsz : w.heap.size < W0.heap.size := b0.lt
  clear hW0
  go_loopw [14] (fun i wr => ∃ (k : Nat) (tl : Nat → Nat) (v : Value), k ≤ n ∧ i = .int .i64 k ∧ Blk wr w.heap.size 98 #[v] ∧ wr.ownsRow w.heap.size 102 3 v k (newRows tl k) ∧ (∀ j, j < k → TlbAt wr (tl j) Cache.empty ∧ w.heap.size < tl j) ∧ (∀ i j, i < k → j < k → tl i = tl j → i = j) ∧ Below w.heap.size w wr) (fun i _ => n - (intOf i).toNat)
  case atStart => exact ⟨0, fun _ => 0, _, Nat.zero_le _, rfl, b0, World.ownsRow_nil _ _ _ _, fun j hj => by omega, fun i j hi => by omega, hb0⟩
  case round =>
    obtain ⟨k, tl, v, hk, rfl, hv, hrow, ht, hinj, hB⟩ := hrel
    have HT := hide ht
    have HI := hide hinj
    have HRow := hide hrow
    clear ht hinj hrow
    by_cases hlt : k < n
    · have c0 := hv.cell 0
      go_upto_region 6 with fail
      have hS : (fun w' : World => w'.cell? ⟨w.heap.size, 0, none⟩ = some v) wr.drew := c0
      refine wp_region_D 11 (fun w' : World => w'.cell? ⟨w.heap.size, 0, none⟩ = some v) (by kernel_rfl) ?_
      refine' wpAnyD_take (i := 0) (oi := ⟨some 16, _, _, _, _, _⟩) (v := _) rfl (by kernel_rfl) (by kernel_rfl) (by kernel_rfl) (by kernel_rfl) (fun _ _ _ h => h) (Or.inl ⟨by rfl, ?_⟩) hS ?_
      rotate_left
      · intro w hSw
        try dsimp only at hSw
        go_simp
        all_goals with_reducible rfl
      simp only [Act.put, List.setIfInBounds_toArray, List.set_cons_zero, List.set_cons_succ]
      refine' wpAnyD_take (i := 1) (oi := ⟨some 17, _, _, _, _, _⟩) (v := _) rfl (by kernel_rfl) (by kernel_rfl) (by kernel_rfl) (by kernel_rfl) (fun _ _ _ h => h) (Or.inl ⟨by rfl, ?_⟩) hS ?_
      rotate_left
      · intro w hSw
        try dsimp only at hSw
        go_simp
        all_goals with_reducible rfl
      simp only [Act.put, List.setIfInBounds_toArray, List.set_cons_zero, List.set_cons_succ]
      refine' wpAnyD_take (i := 2) (oi := ⟨some 18, _, _, _, _, _⟩) (v := _) rfl (by kernel_rfl) (by kernel_rfl) (by kernel_rfl) (by kernel_rfl) (fun _ _ _ h => h) (Or.inl ⟨by rfl, ?_⟩) hS ?_
      rotate_left
      · intro w hSw
        try dsimp only at hSw
        go_simp
        all_goals with_reducible rfl
      simp only [Act.put, List.setIfInBounds_toArray, List.set_cons_zero, List.set_cons_succ]
      refine' wpAnyD_take (i := 3) (oi := ⟨some 19, _, _, _, _, _⟩) (v := _) rfl (by kernel_rfl) (by kernel_rfl) (by kernel_rfl) (by kernel_rfl) (fun _ _ _ h => h) (Or.inl ⟨by rfl, ?_⟩) hS ?_
      rotate_left
      · intro w hSw
        try dsimp only at hSw
        go_simp
        all_goals with_reducible rfl
      simp only [Act.put, List.setIfInBounds_toArray, List.set_cons_zero, List.set_cons_succ]
      refine' wpAnyD_take (i := 4) (oi := ⟨some 20, _, _, _, _, _⟩) (v := _) rfl (by kernel_rfl) (by kernel_rfl) (by kernel_rfl) (by kernel_rfl) (fun _ _ _ h => h) (Or.inl ⟨by rfl, ?_⟩) hS ?_
      rotate_left
      · intro w hSw
        try dsimp only at hSw
        go_simp
        all_goals with_reducible rfl
      simp only [Act.put, List.setIfInBounds_toArray, List.set_cons_zero, List.set_cons_succ]
      refine wpAnyD_ready (rs := [5]) (by kernel_rfl) (by simp) ?_
      refine AllReadyD.cons (o := ⟨some 21, _, _, _, _, _⟩) rfl (fun K hK => ?_) AllReadyD.nil
      go_simp
      refine (tnew_any wr.drew).mono ?_
      rintro e w1 ⟨rfl, ht1, hb1⟩
      have hv1 : Blk w1 w.heap.size 98 #[v] := hv.drew.below hb1 hv.lt
      have hrow1 := HRow.out.drew
      have hlv := hv.lt
      have hrow2 : w1.ownsRow w.heap.size 102 3 v k (newRows tl k) := owns_skips hrow1 ((Ext.of_below hb1).skips 0)
      have HT1 := hide (show ∀ j, j < k → TlbAt w1 (tl j) Cache.empty ∧ w.heap.size < tl j ∧ tl j < wr.heap.size from fun j hj => ⟨(HT.out j hj).1.drew.below hb1 (HT.out j hj).1.lt, (HT.out j hj).2, (HT.out j hj).1.lt⟩)
      have hBw1 : Below w.heap.size w w1 := hB.drew.trans (hb1.mono (Nat.le_of_lt hlv))
      refine hK.out _ _ (fun _ => hv1.cell 0) (fun hS1 => ?_)
      clear hK K hS
      replace hS1 := hS1 rfl
      refine wpAnyD_ready (rs := [6]) (by kernel_rfl) (by simp) ?_
      refine AllReadyD.cons (o := ⟨some 22, _, _, _, _, _⟩) rfl (fun K hK => ?_) AllReadyD.nil
      go_simp
      refine hK.out _ _ (fun _ => hS1) (fun _ => ?_)
      clear hK K
      refine wpAnyD_ready (rs := [7]) (by kernel_rfl) (by simp) ?_
      refine AllReadyD.cons (o := ⟨some 23, _, _, _, _, _⟩) rfl (fun K hK => ?_) AllReadyD.nil
      go_simp
      obtain ⟨W1, hW1⟩ : ∃ W1 : World, w1.alloc (.cells #[.int .i64 (-1), .int .i64 0, .pointer (some ⟨wr.heap.size, 0, none⟩)] 102) = W1 := ⟨_, rfl⟩
      have hb2 : Below w1.heap.size w1 W1 := by rw [← hW1]; exact (Below.refl _ w1).alloc (Nat.le_refl _) _
      have hnA : W1.heap[w1.heap.size]? = some (.cells #[.int .i64 (-1), .int .i64 0, .pointer (some ⟨wr.heap.size, 0, none⟩)] 102 (0, 0)) := by rw [← hW1]; exact heap_alloc_new w1 _
      change K _ (w1.alloc (.cells #[.int .i64 (-1), .int .i64 0, .pointer (some ⟨wr.heap.size, 0, none⟩)] 102))
      rw [hW1]
      clear hW1
      have hvA := hv1.below hb2 hv1.lt
      have hrA := owns_skips hrow2 ((Ext.of_below hb2).skips 0)
      have HTA := hide (show ∀ j, j < k → TlbAt W1 (tl j) Cache.empty ∧ w.heap.size < tl j ∧ tl j < wr.heap.size from fun j hj => ⟨(HT1.out j hj).1.below hb2 (HT1.out j hj).1.lt, (HT1.out j hj).2⟩)
      have htA := ht1.below hb2 ht1.lt
      have hBA : Below w.heap.size w W1 := hBw1.trans (hb2.mono (Nat.le_of_lt hv1.lt))
      refine hK.out _ _ (fun _ => hvA.cell 0) (fun hS2 => ?_)
      clear hK K hS1 hv1 hrow1 hrow2 HT1
      refine wpAnyD_ready (rs := [8]) (by kernel_rfl) (by simp) ?_
      refine AllReadyD.cons (o := ⟨some 24, _, _, _, _, _⟩) rfl (fun K hK => ?_) AllReadyD.nil
      refine step_append_lies (w := W1) rfl (.tmp 20) (.tmp 23) 96 rfl w.heap.size 102 i0 (.agg #[.int .i64 0, .int .i64 0, .pointer none]) 3 24 Try.underlying96 hi0 hz0 hz1 hz2 rfl (by decide) v k (newRows tl k) (by rfl) hrA ⟨w1.heap.size, 0, none⟩ 1 1 [.int .i64 (-1), .int .i64 0, .pointer (some ⟨wr.heap.size, 0, none⟩)] (by rfl) rfl
        (World.news_of_block hnA) (by intro u hu; simp at hu; rcases hu with rfl | rfl | rfl <;> rfl) (by decide) (by unfold maxLen; omega) (by omega) hBA.size _ rfl ?_
      intro g' cap w2 hown hgrow hat hlt'
      have n1 := hvA.not_row (by decide) hrA
      have hvC := hvA.grown hgrow n1
      refine hK.out _ _ (fun _ => hvC.cell 0) (fun hS3 => ?_)
      clear hK K hS2
      simp only [Act.put, List.setIfInBounds_toArray, List.set_cons_zero, List.set_cons_succ]
      replace hS3 := hS3 rfl
      refine wpAnyD_ready (rs := [9]) (by kernel_rfl) (by simp) ?_
      refine AllReadyD.cons (o := ⟨some 25, _, _, _, _, _⟩) rfl (fun K hK => ?_) AllReadyD.nil
      go_simp
      refine hK.out _ _ (fun _ => hS3) (fun _ => ?_)
      clear hK K
      refine wpAnyD_ready (rs := [10]) (by kernel_rfl) (by simp) ?_
      refine AllReadyD.cons (o := ⟨some 26, _, _, _, _, _⟩) rfl (fun K hK => ?_) AllReadyD.nil
      go_simp
      refine hK.out _ _ (fun _ => hS3) (fun _ => ?_)
      clear hK K
      have cv := hvC.cell 0
      have fv := hvC.frozen 0
      refine wpAnyD_ready (rs := [11]) (by kernel_rfl) (by simp) ?_
      refine AllReadyD.cons (o := ⟨none, _, _, _, _, _⟩) rfl (fun K hK => ?_) AllReadyD.nil
      go_simp
      refine hK.out _ _ (fun h => absurd h (by decide)) (fun _ => ?_)
      clear hK K
      refine wpAnyD_done (by kernel_rfl) ?_ _
      have hvD := hvC.set_ 0 (.slice (some ⟨g', 0, none⟩) (k + 1) cap)
      have hms := Mod.one w.heap.size w2 0 (.slice (some ⟨g', 0, none⟩) (k + 1) cap)
      have hrowD : (w2.setCell ⟨w.heap.size, 0, none⟩ (.slice (some ⟨g', 0, none⟩) (k + 1) cap)).ownsRow w.heap.size 102 3 (.slice (some ⟨g', 0, none⟩) (k + 1) cap) (k + 1) (newRows (upd tl k wr.heap.size) (k + 1)) := by
        rw [newRows_succ, newRows_upd, upd_same]
        exact hown.kept (grownBy_setCell' w2 w.heap.size _) (.inr (hvC.not_row (by decide) hown).symm)
      have tcar : ∀ t, TlbAt W1 t Cache.empty → w.heap.size < t → TlbAt (w2.setCell ⟨w.heap.size, 0, none⟩ (.slice (some ⟨g', 0, none⟩) (k + 1) cap)) t Cache.empty := fun t h hl => by
        have h2 : TlbAt w2 t Cache.empty := by
          obtain ⟨cs, hb, r⟩ := id h
          exact h.same (hgrow.block _ hb.lt (hb.not_row (by decide) hrA))
        exact h2.mod hms (fun e => by omega)
      have hBD : Below w.heap.size w (w2.setCell ⟨w.heap.size, 0, none⟩ (.slice (some ⟨g', 0, none⟩) (k + 1) cap)) := (hBA.grown hgrow hBA.size (fun j e => (hrA.lt j e).1)).setCell (p := ⟨w.heap.size, 0, none⟩) (Nat.le_refl _) _
      have HVD := hide hvD
      have HRD := hide hrowD
      have HTC := hide tcar
      have HBD := hide hBD
      have HtA := hide htA
      clear hvD hrowD tcar hBD cv fv hvC hown hgrow hat hlt' hrA hvA n1 hms hS3 hb2 hb1 hnA htA ht1
      go_wp2
      go_roundw
      case rel =>
        refine ⟨k + 1, upd tl k wr.heap.size, _, by omega, by simp, HVD.out, HRD.out, fun j hj => ?_, fun i j hi hj he => ?_, HBD.out⟩
        · by_cases e : j = k
          · subst e; rw [upd_same]; exact ⟨HTC.out _ HtA.out hlv, hlv⟩
          · rw [upd_ne _ _ e]; exact ⟨HTC.out _ (HTA.out j (by omega)).1 (HTA.out j (by omega)).2.1, (HTA.out j (by omega)).2.1⟩
        · by_cases e1 : i = k
          · by_cases e2 : j = k
            · omega
            · rw [e1, upd_same, upd_ne _ _ e2] at he
              have := (HTA.out j (by omega)).2.2
              omega
          · by_cases e2 : j = k
            · rw [e2, upd_same, upd_ne _ _ e1] at he
              have := (HTA.out i (by omega)).2.2
              omega
            · rw [upd_ne _ _ e1, upd_ne _ _ e2] at he
              exact HI.out i j (by omega) (by omega) he
      case measure => simp [intOf]; omega
    · obtain rfl : k = n := by omega
      have HV := hide hv
      have HB := hide hB
      clear hv hB b0 hb0
      go_wp2_with fail
      go_ret2
      obtain ⟨hxs, ⟨rfl, h0⟩ | ⟨g', cap, cur, rfl, hg1, hg2, hg3, hg4, hg5, hg6⟩⟩ := HRow.out
      · omega
      · have hg2' : Blk wr g' 102 cur := hg2
        have hne : w.heap.size ≠ g' := HV.out.ne_ hg2' (by decide)
        refine ⟨g', cap, tl, rfl, ⟨tlbStable, HV.out, ⟨cur, hg2', fun i hi => ?_⟩, fun i hi => (HT.out i hi).1, HI.out, fun i hi => ⟨fun e => ?_, fun e => ?_⟩, hne, h1, h3⟩, ?_, HB.out⟩
        · have hget : ∀ q u, q < k * 3 → (newRows tl k)[q]? = some u → cur[q]? = some u := fun q u hq hu => by
            rw [← hg6, List.getElem?_take_of_lt hq] at hu
            simpa using hu
          obtain ⟨q0, q1, q2⟩ := newRows_get tl k i hi
          exact ⟨hget _ _ (by omega) q0, hget _ _ (by omega) q1, hget _ _ (by omega) q2⟩
        · have := (HT.out i hi).2; omega
        · obtain ⟨cs, hb, _⟩ := (HT.out i hi).1
          rw [e] at hb
          exact (hb.ne_ hg2' (by decide)) rfl
        · rintro q (rfl | rfl | ⟨i, hi, rfl⟩)
          · exact Nat.le_refl _
          · exact hg1
          · have := (HT.out i hi).2; omega
end Go.Proofs.Ytlfenakabedmfaa
