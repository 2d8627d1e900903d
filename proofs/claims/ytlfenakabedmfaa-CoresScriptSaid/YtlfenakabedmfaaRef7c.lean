/- The walk of chapter 7's own answer: New. -/
import Derived.Test.YtlfenakabedmfaaRef7b
import Derived.Deep.AppendLies
namespace Go.Proofs.Ytlfenakabedmfaa
open Go.RowKit Go.Shelf
theorem rcnew_bad (n : Int) (w : World) (h : n < 1 ∨ 3 < n) : Calls Try.prog 30 #[.int .i64 n] w fun e w' => e = .returned (.tuple #[.pointer none, .int .i64 3]) ∧ w = w' := by
  rcases h with h | h
  all_goals
    go_enter Try.func30, Try.ntmps30
    go_wp2_with fail
    go_ret2
    exact ⟨rfl, rfl⟩
theorem rcoreInfo : (Try.prog.info? 131).map (fun i => (i.zero, i.size, i.bytes)) = some (some (.agg #[.int .i64 0, .int .i64 0, .pointer none]), 3, 24) := by kernel_rfl
set_option maxRecDepth 100000 in
set_option maxHeartbeats 2000000 in
theorem rcnew_in (n : Nat) (w : World) (h1 : 1 ≤ n) (h3 : n ≤ 3) : Calls Try.prog 30 #[.int .i64 n] w fun e w' =>
    ∃ gb cap tl, e = .returned (.tuple #[.pointer (some ⟨w.heap.size, 0, none⟩), .int .i64 0]) ∧ RCoresAt w' w.heap.size gb cap n tl (fun _ => core0) ∧ (∀ k, crS w.heap.size gb n tl k → w.heap.size ≤ k) ∧ Below w.heap.size w w' := by
  have b0 := Blk.new w 123 #[.slice none 0 0]
  have hb0 := (Below.refl _ w).alloc (Nat.le_refl _) (.cells #[.slice none 0 0] 123)
  obtain ⟨i0, hi0, hz0, hz1, hz2⟩ := info_parts rcoreInfo
  go_enter Try.func30, Try.ntmps30
  go_wp2_with fail
  obtain ⟨W0, hW0⟩ : ∃ W0 : World, w.alloc (.cells #[.slice none 0 0] 123) = W0 := ⟨_, rfl⟩
  rw [hW0] at b0 hb0 ⊢
  have hsz : w.heap.size < W0.heap.size := b0.lt
  clear hW0
  go_loopw [5] (fun i wr => ∃ (k : Nat) (tl : Nat → Nat) (v : Value), k ≤ n ∧ i = .int .i64 k ∧ Blk wr w.heap.size 123 #[v] ∧ wr.ownsRow w.heap.size 131 3 v k (newRows tl k) ∧ (∀ j, j < k → Ref6At wr (tl j) Cache.empty ∧ w.heap.size < tl j) ∧ (∀ i j, i < k → j < k → tl i = tl j → i = j) ∧ Below w.heap.size w wr) (fun i _ => n - (intOf i).toNat)
  case atStart => exact ⟨0, fun _ => 0, _, Nat.zero_le _, rfl, b0, World.ownsRow_nil _ _ _ _, fun j hj => by omega, fun i j hi => by omega, hb0⟩
  case round =>
    obtain ⟨k, tl, v, hk, rfl, hv, hrow, ht, hinj, hB⟩ := hrel
    have HT := hide ht
    have HI := hide hinj
    have HRow := hide hrow
    clear ht hinj hrow
    by_cases hlt : k < n
    · have c0 := hv.cell 0
      have hlv := hv.lt
      obtain ⟨w1, hw1⟩ : ∃ w1 : World, wr.alloc (.cells zeros44r 129) = w1 := ⟨_, rfl⟩
      have hb1 : Below wr.heap.size wr w1 := by rw [← hw1]; exact (Below.refl _ wr).alloc (Nat.le_refl _) _
      have ht1 : Ref6At w1 wr.heap.size Cache.empty := by rw [← hw1]; exact Ref6At.new wr
      have hz1' : w1.heap.size = wr.heap.size + 1 := by rw [← hw1]; simp
      obtain ⟨W1, hW1⟩ : ∃ W1 : World, w1.alloc (.cells #[.int .i64 (-1), .int .i64 0, .pointer (some ⟨wr.heap.size, 0, none⟩)] 131) = W1 := ⟨_, rfl⟩
      have hb2 : Below w1.heap.size w1 W1 := by rw [← hW1]; exact (Below.refl _ w1).alloc (Nat.le_refl _) _
      have hnA : W1.heap[w1.heap.size]? = some (.cells #[.int .i64 (-1), .int .i64 0, .pointer (some ⟨wr.heap.size, 0, none⟩)] 131 (0, 0)) := by rw [← hW1]; exact heap_alloc_new w1 _
      have hv1 := hv.below hb1 hv.lt
      have hvA := hv1.below hb2 hv1.lt
      have hrA := owns_skips (owns_skips HRow.out ((Ext.of_below hb1).skips 0)) ((Ext.of_below hb2).skips 0)
      have HTA := hide (show ∀ j, j < k → Ref6At W1 (tl j) Cache.empty ∧ w.heap.size < tl j ∧ tl j < wr.heap.size from fun j hj => by
        have h1 := (HT.out j hj).1.below hb1 (HT.out j hj).1.lt
        exact ⟨h1.below hb2 h1.lt, (HT.out j hj).2, (HT.out j hj).1.lt⟩)
      have htA := ht1.below hb2 ht1.lt
      have hBA : Below w.heap.size w W1 := (hB.trans (hb1.mono (Nat.le_of_lt hlv))).trans (hb2.mono (by omega))
      have HAP := hide (show ∀ (ops : Array Oper) (rest : List Oper) (o : Oper) (a : Act) (Q : Exit → Act → World → Prop), o.guard = none → o.op = .call { callee := .builtin .append, args := #[.tmp 23, .tmp 27], argTypes := #[121, 121] } → a.eval (.tmp 23) = v → a.eval (.tmp 27) = .slice (some ⟨wr.heap.size + 1, 0, none⟩) 1 1 →
          (∀ g cap w', w'.ownsRow w.heap.size 131 3 (.slice (some ⟨g, 0, none⟩) (k + 1) cap) (k + 1) (newRows tl k ++ [.int .i64 (-1), .int .i64 0, .pointer (some ⟨wr.heap.size, 0, none⟩)]) → W1.grownBy w' v.ownBlock → wpList Try.prog ops Q rest (a.put o.dst (.slice (some ⟨g, 0, none⟩) (k + 1) cap)) w') → wpList Try.prog ops Q (o :: rest) a W1 from
        fun ops rest o a Q hg ho hs hx h => wpList_append_lies W1 hg (.tmp 23) (.tmp 27) 121 ho w.heap.size 131 i0 (.agg #[.int .i64 0, .int .i64 0, .pointer none]) 3 24 Try.underlying121 hi0 hz0 hz1 hz2 rfl (by decide) v k (newRows tl k) hs hrA ⟨wr.heap.size + 1, 0, none⟩ 1 1 [.int .i64 (-1), .int .i64 0, .pointer (some ⟨wr.heap.size, 0, none⟩)] hx rfl
          (by rw [← hz1']; exact World.news_of_block hnA) (by intro u hu; simp at hu; rcases hu with rfl | rfl | rfl <;> rfl) (by decide) (by unfold maxLen; omega) (by omega) hBA.size _ rfl (fun g cap w' a b _ _ => h g cap w' a b))
      clear c0
      have c0 := hv.cell 0
      subst hW1
      subst hw1
      unfold zeros44r at HAP
      go_upto_region 7 with fail
      have HvA := hide hvA
      have HBA := hide hBA
      have HtA := hide htA
      have HRA := hide hrA
      clear hvA hBA htA hrA hnA hb1 hb2 ht1 hz1' hv1
      go_wp2_with (at_builtin; refine HAP.out _ _ _ _ _ rfl rfl rfl rfl ?_; intro g' cap w2 hown hgrow; have hvC := HvA.out.grown hgrow (HvA.out.not_row (by decide) HRA.out); have cv := hvC.cell 0; have fv := hvC.frozen 0)
      have hvD := hvC.set_ 0 (.slice (some ⟨g', 0, none⟩) (k + 1) cap)
      have hms := Mod.one w.heap.size w2 0 (.slice (some ⟨g', 0, none⟩) (k + 1) cap)
      have hrowD : (w2.setCell ⟨w.heap.size, 0, none⟩ (.slice (some ⟨g', 0, none⟩) (k + 1) cap)).ownsRow w.heap.size 131 3 (.slice (some ⟨g', 0, none⟩) (k + 1) cap) (k + 1) (newRows (upd tl k wr.heap.size) (k + 1)) := by
        rw [newRows_succ, newRows_upd, upd_same]
        exact hown.kept (grownBy_setCell' w2 w.heap.size _) (.inr (hvC.not_row (by decide) hown).symm)
      have tcar : ∀ t, Ref6At ((wr.alloc (.cells zeros44r 129)).alloc (.cells #[.int .i64 (-1), .int .i64 0, .pointer (some ⟨wr.heap.size, 0, none⟩)] 131)) t Cache.empty → w.heap.size < t → Ref6At (w2.setCell ⟨w.heap.size, 0, none⟩ (.slice (some ⟨g', 0, none⟩) (k + 1) cap)) t Cache.empty := fun t h hl => by
        have h2 : Ref6At w2 t Cache.empty := by
          obtain ⟨cs, hb, r⟩ := id h
          exact h.same (hgrow.block _ hb.lt (hb.not_row (by decide) HRA.out))
        exact h2.mod hms (fun e => by omega)
      have hBD : Below w.heap.size w (w2.setCell ⟨w.heap.size, 0, none⟩ (.slice (some ⟨g', 0, none⟩) (k + 1) cap)) := (HBA.out.grown hgrow HBA.out.size (fun j e => (HRA.out.lt j e).1)).setCell (p := ⟨w.heap.size, 0, none⟩) (Nat.le_refl _) _
      have HVD := hide hvD
      have HRD := hide hrowD
      have HTC := hide tcar
      have HBD := hide hBD
      clear hvD hrowD tcar hBD cv fv hvC hown hgrow hms HAP
      try go_wp2
      go_roundw
      case rel =>
        refine ⟨k + 1, upd tl k wr.heap.size, _, by omega, by simp, HVD.out, HRD.out, fun j hj => ?_, fun i j hi hj he => ?_, HBD.out⟩
        · by_cases e : j = k
          · subst e; rw [upd_same]; exact ⟨HTC.out _ HtA.out hlv, hlv⟩
          · rw [upd_ne _ _ e]; exact ⟨HTC.out _ (HTA.out j (by omega)).1 (HTA.out j (by omega)).2.1, (HTA.out j (by omega)).2.1⟩
        · by_cases e1 : i = k
          · by_cases e2 : j = k
            · omega
            · rw [e1, upd_same, upd_ne _ _ e2] at he
              have := (HTA.out j (by omega)).2.2
              omega
          · by_cases e2 : j = k
            · rw [e2, upd_same, upd_ne _ _ e1] at he
              have := (HTA.out i (by omega)).2.2
              omega
            · rw [upd_ne _ _ e1, upd_ne _ _ e2] at he
              exact HI.out i j (by omega) (by omega) he
      case measure => simp [intOf]; omega
    · obtain rfl : k = n := by omega
      have HV := hide hv
      have HB := hide hB
      clear hv hB b0 hb0
      go_wp2_with fail
      go_ret2
      obtain ⟨hxs, ⟨rfl, h0⟩ | ⟨g', cap, cur, rfl, hg1, hg2, hg3, hg4, hg5, hg6⟩⟩ := HRow.out
      · omega
      · have hg2' : Blk wr g' 131 cur := hg2
        have hne : w.heap.size ≠ g' := HV.out.ne_ hg2' (by decide)
        refine ⟨g', cap, tl, rfl, ⟨refStable, HV.out, ⟨cur, hg2', fun i hi => ?_⟩, fun i hi => (HT.out i hi).1, HI.out, fun i hi => ⟨fun e => ?_, fun e => ?_⟩, hne, h1, h3⟩, ?_, HB.out⟩
        · have hget : ∀ q u, q < k * 3 → (newRows tl k)[q]? = some u → cur[q]? = some u := fun q u hq hu => by
            rw [← hg6, List.getElem?_take_of_lt hq] at hu
            simpa using hu
          obtain ⟨q0, q1, q2⟩ := newRows_get tl k i hi
          exact ⟨hget _ _ (by omega) q0, hget _ _ (by omega) q1, hget _ _ (by omega) q2⟩
        · have := (HT.out i hi).2; omega
        · obtain ⟨cs, hb, _⟩ := (HT.out i hi).1
          rw [e] at hb
          exact (hb.ne_ hg2' (by decide)) rfl
        · rintro q (rfl | rfl | ⟨i, hi, rfl⟩)
          · exact Nat.le_refl _
          · exact hg1
          · have := (HT.out i hi).2; omega
end Go.Proofs.Ytlfenakabedmfaa
