/- The reference of chapter 6: Fill. -/
import Derived.Test.YtlfenakabedmfaaRef6s
import Derived.Deep.DeepCutAuto
import Derived.Deep.CutBlock
namespace Go.Proofs.Ytlfenakabedmfaa
open Go.RowKit Go.Shelf
set_option maxHeartbeats 2000000 in
theorem rfill6_bad (g : Nat) (c : Cache) (x : Tr) (w : World) (hT : Ref6At w g c) (h : ¬ mayFill x) :
    Calls Try.prog 85 #[.pointer (some ⟨g, 0, none⟩), .agg x.row] w fun e w' => e = .returned (.int .i64 (fillE x)) ∧ Ref6At w' g (fillC c x) ∧ Mod (· = g) w w' := by
  rw [fillE_bad h, fillC_bad h]
  obtain ⟨a, b, c', d, e⟩ := x
  unfold Tr.row
  dsimp only
  have hlt := hT.lt
  have HT := hide hT
  have HN := hide (show decide (1 ≤ a ∧ 0 ≤ b ∧ b < 512 ∧ 0 ≤ c' ∧ c' < 64 ∧ (d = true ∨ e = true)) = false from decide_eq_false h)
  clear hT h
  go_enter Try.func85, Try.ntmps85
  go_wp2_with fail
  have hal := (Below.refl w.heap.size w).alloc (Nat.le_refl _) (.cells #[.int .i64 a, .int .i64 b, .int .i64 c', .bool d, .bool e] 42)
  refine (rmay6 a b c' d e _).mono ?_
  rintro en w1 ⟨rfl, hb⟩
  rw [HN.out]
  have HB := hide (hal.trans (hb.mono hal.size))
  clear hb hal
  go_wp2_with fail
  go_ret
  exact ⟨rfl, HT.out.below HB.out hlt, Mod.of_below HB.out _⟩
theorem fill_k {c c' Z : Cache} {s k : Nat} {a p : Int} {X : Tr} (hE : c' = if wayV c s a p = 0 then c.put (2 * s) X else if wayV c s a p = 1 then c.put (2 * s + 1) X else Z) (hk : k < 2) (hv : wayV c s a p = (k : Int)) : c' = c.put (2 * s + k) X := by
  match k, hk with
  | 0, _ => rw [hE, if_pos (show wayV c s a p = 0 from hv)]; rfl
  | 1, _ => rw [hE, if_neg (by rw [hv]; decide), if_pos (show wayV c s a p = 1 from hv)]
set_option maxRecDepth 100000 in
set_option maxHeartbeats 16000000 in
theorem rfill6_good (g pN : Nat) (c : Cache) (a fr : Int) (rd wb : Bool) (w : World) (hT : Ref6At w g c) (hG : Good c) (hx : mayFill ⟨a, pN, fr, rd, wb⟩) :
    Calls Try.prog 85 #[.pointer (some ⟨g, 0, none⟩), .agg #[.int .i64 a, .int .i64 pN, .int .i64 fr, .bool rd, .bool wb]] w fun e w' => e = .returned (.int .i64 0) ∧ Ref6At w' g (fillC c ⟨a, pN, fr, rd, wb⟩) ∧ Mod (· = g) w w' := by
  have hlt := hT.lt
  have HT := hide hT
  have HG := hide hG
  have HMF := hide hx
  have hp5 : pN < 512 := by have := hx.2.2.1; simp only at this; omega
  have HY := hide (show decide (1 ≤ a ∧ 0 ≤ (pN : Int) ∧ (pN : Int) < 512 ∧ 0 ≤ fr ∧ fr < 64 ∧ (rd = true ∨ wb = true)) = true from decide_eq_true hx)
  have htm : ((pN : Int)).tmod 4 = ((pN % 4 : Nat) : Int) := by rw [Int.tmod_eq_emod_of_nonneg (by omega)]; rfl
  have hs4 : pN % 4 < 4 := Nat.mod_lt _ (by decide)
  obtain ⟨s, hs⟩ : ∃ s, pN % 4 = s := ⟨_, rfl⟩
  rw [hs] at htm hs4
  have i1 : (0 : Int) ≤ (s : Int) := by omega
  have i2 : (s : Int) < 4 := by omega
  have he := fillC_eq (c := c) hx
  simp only [Int.toNat_natCast] at he
  rw [hs] at he
  have HE := hide he
  clear he
  clear hT hG hx
  go_enter Try.func85, Try.ntmps85
  go_wp2_with fail
  have hal := (Below.refl w.heap.size w).alloc (Nat.le_refl _) (.cells #[.int .i64 a, .int .i64 (pN : Int), .int .i64 fr, .bool rd, .bool wb] 42)
  have hx0 := Blk.new w 42 #[.int .i64 a, .int .i64 (pN : Int), .int .i64 fr, .bool rd, .bool wb]
  refine (rmay6 a pN fr rd wb _).mono ?_
  rintro en w1 ⟨rfl, hb⟩
  rw [HY.out]
  have HX := hide (hx0.below hb hx0.lt)
  have hm1 := Mod.of_below (hal.trans (hb.mono hal.size)) (· = g)
  have HT1 := hide (HT.out.below (hal.trans (hb.mono hal.size)) hlt)
  have HM := hide hm1
  have x1 := HX.out.cell 1
  clear hb hal hx0 hm1 HT
  go_wp2_with fail
  go_loopw [6] (fun i wr => ∃ k : Nat, k ≤ 2 ∧ i = .int .i64 k ∧ (∀ j, j < k → isM c s a pN j = false) ∧ Ref6At wr g c ∧ Blk wr w.heap.size 42 #[.int .i64 a, .int .i64 (pN : Int), .int .i64 fr, .bool rd, .bool wb] ∧ Mod (· = g) w wr) (fun i _ => 2 - (intOf i).toNat)
  case atStart => exact ⟨0, Nat.zero_le _, rfl, fun j hj => by omega, HT1.out, HX.out, HM.out⟩
  case round =>
    obtain ⟨k, hk, rfl, hj, hT, hX, hm⟩ := hrel
    have HJ := hide hj
    have HT2 := hide hT
    have HX2 := hide hX
    have HM2 := hide hm
    obtain ⟨y0, y1, y2, y3, y4⟩ := hX.c5
    have xl := hX.lt
    have gl := hT.lt
    clear hj hX hm HT1 HX HM x1
    by_cases hlk : k < 2
    · obtain ⟨t0, t1, t2, t3, t4⟩ := hT.cell (2 * s + k) (by omega)
      rw [show (2 * s + k) * 5 = s * 10 + k * 5 by omega] at t0 t1 t2 t3 t4
      have q0 := hT.frozen (s * 10 + k * 5)
      have q1 := hT.frozen (s * 10 + k * 5 + 1)
      have q2 := hT.frozen (s * 10 + k * 5 + 2)
      have q3 := hT.frozen (s * 10 + k * 5 + 3)
      have q4 := hT.frozen (s * 10 + k * 5 + 4)
      have i3 : (0 : Int) ≤ (k : Int) := by omega
      have i4 : (k : Int) < 2 := by omega
      clear hT
      cases A0 : (c.way (2 * s + k)).sp == a with
      | true =>
        cases B0 : (c.way (2 * s + k)).pg == (pN : Int) with
        | true =>
          have HF := hide (fill_k HE.out hlk (wayV_M hlk (show isM c s a pN k = true by unfold isM; rw [A0, B0]; rfl) HJ.out))
          go_wp2
          go_quiet (fail)
          go_wp2
          have HT3 := hide (show Ref6At (wr.drewN nq) g c from HT2.out.same rfl)
          have HX3 := hide (HX2.out.drewN nq)
          have HM3 := hide (HM2.out.drewN nq)
          clear HT2 HX2 HM2 y0 y1 y2 y3 y4 t0 t1 t2 t3 t4 q0 q1 q2 q3 q4 xl gl
          generalize wr.drewN nq = wd at HT3 HX3 HM3 ⊢
          obtain ⟨y0, y1, y2, y3, y4⟩ := HX3.out.c5
          have gl := HT3.out.lt
          obtain ⟨t0, t1, t2, t3, t4⟩ := HT3.out.cell (2 * s + k) (by omega)
          rw [show (2 * s + k) * 5 = s * 10 + k * 5 by omega] at t0 t1 t2 t3 t4
          have q0 := HT3.out.frozen (s * 10 + k * 5)
          have q1 := HT3.out.frozen (s * 10 + k * 5 + 1)
          have q2 := HT3.out.frozen (s * 10 + k * 5 + 2)
          have q3 := HT3.out.frozen (s * 10 + k * 5 + 3)
          have q4 := HT3.out.frozen (s * 10 + k * 5 + 4)
          have hS : (fun w' : World => w'.cell? ⟨w.heap.size, 0, none⟩ = some (.int .i64 a) ∧ w'.cell? ⟨w.heap.size, 1, none⟩ = some (.int .i64 (pN : Int)) ∧ w'.cell? ⟨w.heap.size, 2, none⟩ = some (.int .i64 fr) ∧ w'.cell? ⟨w.heap.size, 3, none⟩ = some (.bool rd) ∧ w'.cell? ⟨w.heap.size, 4, none⟩ = some (.bool wb)) wd.drew := ⟨y0, y1, y2, y3, y4⟩
          refine wp_region_D 8 (fun w' : World => w'.cell? ⟨w.heap.size, 0, none⟩ = some (.int .i64 a) ∧ w'.cell? ⟨w.heap.size, 1, none⟩ = some (.int .i64 (pN : Int)) ∧ w'.cell? ⟨w.heap.size, 2, none⟩ = some (.int .i64 fr) ∧ w'.cell? ⟨w.heap.size, 3, none⟩ = some (.bool rd) ∧ w'.cell? ⟨w.heap.size, 4, none⟩ = some (.bool wb)) (by kernel_rfl) ?_
          refine' wpAnyD_take (i := 0) (oi := ⟨some 44, _, _, _, _, _⟩) (v := _) rfl (by kernel_rfl) (by kernel_rfl) (by kernel_rfl) (by kernel_rfl) (fun _ _ _ h => h) (Or.inl ⟨by rfl, ?_⟩) hS ?_
          rotate_left
          · intro w hSw
            try dsimp only at hSw
            go_simp
            all_goals with_reducible rfl
          simp only [Act.put, List.setIfInBounds_toArray, List.set_cons_zero, List.set_cons_succ]
          refine' wpAnyD_take (i := 1) (oi := ⟨some 45, _, _, _, _, _⟩) (v := _) rfl (by kernel_rfl) (by kernel_rfl) (by kernel_rfl) (by kernel_rfl) (fun _ _ _ h => h) (Or.inl ⟨by rfl, ?_⟩) hS ?_
          rotate_left
          · intro w hSw
            try dsimp only at hSw
            go_simp
            all_goals with_reducible rfl
          simp only [Act.put, List.setIfInBounds_toArray, List.set_cons_zero, List.set_cons_succ]
          refine' wpAnyD_take (i := 2) (oi := ⟨some 46, _, _, _, _, _⟩) (v := _) rfl (by kernel_rfl) (by kernel_rfl) (by kernel_rfl) (by kernel_rfl) (fun _ _ _ h => h) (Or.inl ⟨by rfl, ?_⟩) hS ?_
          rotate_left
          · intro w hSw
            try dsimp only at hSw
            go_simp
            all_goals with_reducible rfl
          simp only [Act.put, List.setIfInBounds_toArray, List.set_cons_zero, List.set_cons_succ]
          refine' wpAnyD_take (i := 3) (oi := ⟨some 47, _, _, _, _, _⟩) (v := _) rfl (by kernel_rfl) (by kernel_rfl) (by kernel_rfl) (by kernel_rfl) (fun _ _ _ h => h) (Or.inl ⟨by rfl, ?_⟩) hS ?_
          rotate_left
          · intro w hSw
            try dsimp only at hSw
            go_simp
            all_goals with_reducible rfl
          simp only [Act.put, List.setIfInBounds_toArray, List.set_cons_zero, List.set_cons_succ]
          refine wpAnyD_ready (rs := [4]) (by kernel_rfl) (by simp) ?_
          refine AllReadyD.cons (o := ⟨some 48, _, _, _, _, _⟩) rfl (fun K hK => ?_) AllReadyD.nil
          go_simp
          refine hK.out _ _ (fun _ => hS) (fun _ => ?_)
          clear hK K
          refine wpAnyD_ready (rs := [5]) (by kernel_rfl) (by simp) ?_
          refine AllReadyD.cons (o := ⟨some 49, _, _, _, _, _⟩) rfl (fun K hK => ?_) AllReadyD.nil
          go_simp
          refine hK.out _ _ (fun _ => hS) (fun _ => ?_)
          clear hK K
          refine wpAnyD_ready (rs := [6]) (by kernel_rfl) (by simp) ?_
          refine AllReadyD.cons (o := ⟨some 50, _, _, _, _, _⟩) rfl (fun K hK => ?_) AllReadyD.nil
          go_simp
          refine hK.out _ _ (fun _ => hS) (fun _ => ?_)
          clear hK K
          refine wpAnyD_ready (rs := [7]) (by kernel_rfl) (by simp) ?_
          refine AllReadyD.cons (o := ⟨some 51, _, _, _, _, _⟩) rfl (fun K hK => ?_) AllReadyD.nil
          go_simp
          refine hK.out _ _ (fun _ => hS) (fun _ => ?_)
          clear hK K
          refine wpAnyD_ready (rs := [8]) (by kernel_rfl) (by simp) ?_
          refine AllReadyD.cons (o := ⟨none, _, _, _, _, _⟩) rfl (fun K hK => ?_) AllReadyD.nil
          go_simp
          refine hK.out _ _ (fun h => absurd h (by decide)) (fun _ => ?_)
          clear hK K hS
          refine wpAnyD_done (by kernel_rfl) ?_ _
          go_wp2
          go_ret
          have ht := (HT3.out.put (2 * s + k) (by omega) ⟨a, pN, fr, rd, wb⟩).drew
          rw [show (2 * s + k) * 5 = s * 10 + k * 5 by omega] at ht
          exact ⟨rfl, by rw [HF.out]; exact ht, (HM3.out.trans (stored5_mod (Mod.refl (· = g) wd) (g := g) (.inl rfl) (s * 10 + k * 5) ⟨a, pN, fr, rd, wb⟩)).drew⟩
        | false =>
          have HF := hide (show isM c s a pN k = false by unfold isM; rw [A0, B0]; rfl)
          go_wp2
          go_quiet (fail)
          have hm7 := (Mod.refl (· = g) wr).drewN nq
          go_wp2
          go_roundw
          case rel => exact ⟨k + 1, by omega, by simp, to_succ HJ.out HF.out, HT2.out.same rfl, HX2.out.drewN nq, HM2.out.drewN nq⟩
          case measure => simp [intOf]; omega
      | false =>
        have HF := hide (show isM c s a pN k = false by unfold isM; rw [A0]; rfl)
        go_wp2
        go_quiet (fail)
        go_wp2
        go_roundw
        case rel => exact ⟨k + 1, by omega, by simp, to_succ HJ.out HF.out, HT2.out.same rfl, HX2.out.drewN nq, HM2.out.drewN nq⟩
        case measure => simp [intOf]; omega
    · obtain rfl : k = 2 := by omega
      clear hT
      go_wp2
      have HALL := hide (show ∀ j, j < 2 → isM c s a pN j = false from HJ.out)
      clear HJ y0 y1 y2 y3 y4 xl gl
      go_loopw [7] (fun i wr => ∃ k : Nat, k ≤ 2 ∧ i = .int .i64 k ∧ (∀ j, j < k → isE c s j = false) ∧ Ref6At wr g c ∧ Blk wr w.heap.size 42 #[.int .i64 a, .int .i64 (pN : Int), .int .i64 fr, .bool rd, .bool wb] ∧ Mod (· = g) w wr) (fun i _ => 2 - (intOf i).toNat)
      case atStart => exact ⟨0, Nat.zero_le _, rfl, fun j hj => by omega, HT2.out, HX2.out, HM2.out⟩
      case round =>
        obtain ⟨k, hk, rfl, hj, hT, hX, hm⟩ := hrel
        have HJ := hide hj
        have HT3 := hide hT
        have HX3 := hide hX
        have HM3 := hide hm
        obtain ⟨y0, y1, y2, y3, y4⟩ := hX.c5
        have xl := hX.lt
        have gl := hT.lt
        clear hj hX hm HT2 HX2 HM2
        by_cases hlk : k < 2
        · obtain ⟨t0, t1, t2, t3, t4⟩ := hT.cell (2 * s + k) (by omega)
          rw [show (2 * s + k) * 5 = s * 10 + k * 5 by omega] at t0 t1 t2 t3 t4
          have q0 := hT.frozen (s * 10 + k * 5)
          have q1 := hT.frozen (s * 10 + k * 5 + 1)
          have q2 := hT.frozen (s * 10 + k * 5 + 2)
          have q3 := hT.frozen (s * 10 + k * 5 + 3)
          have q4 := hT.frozen (s * 10 + k * 5 + 4)
          have i3 : (0 : Int) ≤ (k : Int) := by omega
          have i4 : (k : Int) < 2 := by omega
          clear hT
          cases A0 : (c.way (2 * s + k)).sp == 0 with
          | true =>
            have HF := hide (fill_k HE.out hlk (wayV_E hlk HALL.out (show isE c s k = true from A0) HJ.out))
            go_wp2
            have hS : (fun w' : World => w'.cell? ⟨w.heap.size, 0, none⟩ = some (.int .i64 a) ∧ w'.cell? ⟨w.heap.size, 1, none⟩ = some (.int .i64 (pN : Int)) ∧ w'.cell? ⟨w.heap.size, 2, none⟩ = some (.int .i64 fr) ∧ w'.cell? ⟨w.heap.size, 3, none⟩ = some (.bool rd) ∧ w'.cell? ⟨w.heap.size, 4, none⟩ = some (.bool wb)) wr.drew := ⟨y0, y1, y2, y3, y4⟩
            refine wp_region_D 8 (fun w' : World => w'.cell? ⟨w.heap.size, 0, none⟩ = some (.int .i64 a) ∧ w'.cell? ⟨w.heap.size, 1, none⟩ = some (.int .i64 (pN : Int)) ∧ w'.cell? ⟨w.heap.size, 2, none⟩ = some (.int .i64 fr) ∧ w'.cell? ⟨w.heap.size, 3, none⟩ = some (.bool rd) ∧ w'.cell? ⟨w.heap.size, 4, none⟩ = some (.bool wb)) (by kernel_rfl) ?_
            refine' wpAnyD_take (i := 0) (oi := ⟨some 66, _, _, _, _, _⟩) (v := _) rfl (by kernel_rfl) (by kernel_rfl) (by kernel_rfl) (by kernel_rfl) (fun _ _ _ h => h) (Or.inl ⟨by rfl, ?_⟩) hS ?_
            rotate_left
            · intro w hSw
              try dsimp only at hSw
              go_simp
              all_goals with_reducible rfl
            simp only [Act.put, List.setIfInBounds_toArray, List.set_cons_zero, List.set_cons_succ]
            refine' wpAnyD_take (i := 1) (oi := ⟨some 67, _, _, _, _, _⟩) (v := _) rfl (by kernel_rfl) (by kernel_rfl) (by kernel_rfl) (by kernel_rfl) (fun _ _ _ h => h) (Or.inl ⟨by rfl, ?_⟩) hS ?_
            rotate_left
            · intro w hSw
              try dsimp only at hSw
              go_simp
              all_goals with_reducible rfl
            simp only [Act.put, List.setIfInBounds_toArray, List.set_cons_zero, List.set_cons_succ]
            refine' wpAnyD_take (i := 2) (oi := ⟨some 68, _, _, _, _, _⟩) (v := _) rfl (by kernel_rfl) (by kernel_rfl) (by kernel_rfl) (by kernel_rfl) (fun _ _ _ h => h) (Or.inl ⟨by rfl, ?_⟩) hS ?_
            rotate_left
            · intro w hSw
              try dsimp only at hSw
              go_simp
              all_goals with_reducible rfl
            simp only [Act.put, List.setIfInBounds_toArray, List.set_cons_zero, List.set_cons_succ]
            refine' wpAnyD_take (i := 3) (oi := ⟨some 69, _, _, _, _, _⟩) (v := _) rfl (by kernel_rfl) (by kernel_rfl) (by kernel_rfl) (by kernel_rfl) (fun _ _ _ h => h) (Or.inl ⟨by rfl, ?_⟩) hS ?_
            rotate_left
            · intro w hSw
              try dsimp only at hSw
              go_simp
              all_goals with_reducible rfl
            simp only [Act.put, List.setIfInBounds_toArray, List.set_cons_zero, List.set_cons_succ]
            refine wpAnyD_ready (rs := [4]) (by kernel_rfl) (by simp) ?_
            refine AllReadyD.cons (o := ⟨some 70, _, _, _, _, _⟩) rfl (fun K hK => ?_) AllReadyD.nil
            go_simp
            refine hK.out _ _ (fun _ => hS) (fun _ => ?_)
            clear hK K
            refine wpAnyD_ready (rs := [5]) (by kernel_rfl) (by simp) ?_
            refine AllReadyD.cons (o := ⟨some 71, _, _, _, _, _⟩) rfl (fun K hK => ?_) AllReadyD.nil
            go_simp
            refine hK.out _ _ (fun _ => hS) (fun _ => ?_)
            clear hK K
            refine wpAnyD_ready (rs := [6]) (by kernel_rfl) (by simp) ?_
            refine AllReadyD.cons (o := ⟨some 72, _, _, _, _, _⟩) rfl (fun K hK => ?_) AllReadyD.nil
            go_simp
            refine hK.out _ _ (fun _ => hS) (fun _ => ?_)
            clear hK K
            refine wpAnyD_ready (rs := [7]) (by kernel_rfl) (by simp) ?_
            refine AllReadyD.cons (o := ⟨some 73, _, _, _, _, _⟩) rfl (fun K hK => ?_) AllReadyD.nil
            go_simp
            refine hK.out _ _ (fun _ => hS) (fun _ => ?_)
            clear hK K
            refine wpAnyD_ready (rs := [8]) (by kernel_rfl) (by simp) ?_
            refine AllReadyD.cons (o := ⟨none, _, _, _, _, _⟩) rfl (fun K hK => ?_) AllReadyD.nil
            go_simp
            refine hK.out _ _ (fun h => absurd h (by decide)) (fun _ => ?_)
            clear hK K hS
            refine wpAnyD_done (by kernel_rfl) ?_ _
            go_wp2
            go_ret
            have ht := (HT3.out.put (2 * s + k) (by omega) ⟨a, pN, fr, rd, wb⟩).drew
            rw [show (2 * s + k) * 5 = s * 10 + k * 5 by omega] at ht
            exact ⟨rfl, by rw [HF.out]; exact ht, (HM3.out.trans (stored5_mod (Mod.refl (· = g) wr) (g := g) (.inl rfl) (s * 10 + k * 5) ⟨a, pN, fr, rd, wb⟩)).drew⟩
          | false =>
            have HF := hide (show isE c s k = false from A0)
            go_wp2
            go_roundw
            case rel => exact ⟨k + 1, by omega, by simp, to_succ HJ.out HF.out, HT3.out, HX3.out, HM3.out⟩
            case measure => simp [intOf]; omega
        · obtain rfl : k = 2 := by omega
          clear hT
          have HV := hide (wayV_none HALL.out HJ.out)
          go_wp2
          have dd := HT3.out.due_ s hs4
          rcases HG.out.ok s hs4 with hdd | hdd
          · rw [hdd] at dd
            have q0 := HT3.out.frozen (s * 10)
            have q1 := HT3.out.frozen (s * 10 + 1)
            have q2 := HT3.out.frozen (s * 10 + 2)
            have q3 := HT3.out.frozen (s * 10 + 3)
            have q4 := HT3.out.frozen (s * 10 + 4)
            obtain ⟨t0, t1, t2, t3, t4⟩ := HT3.out.cell (2 * s) (by omega)
            rw [show (2 * s) * 5 = s * 10 by omega] at t0 t1 t2 t3 t4
            have hS : (fun w' : World => w'.cell? ⟨w.heap.size, 0, none⟩ = some (.int .i64 a) ∧ w'.cell? ⟨w.heap.size, 1, none⟩ = some (.int .i64 (pN : Int)) ∧ w'.cell? ⟨w.heap.size, 2, none⟩ = some (.int .i64 fr) ∧ w'.cell? ⟨w.heap.size, 3, none⟩ = some (.bool rd) ∧ w'.cell? ⟨w.heap.size, 4, none⟩ = some (.bool wb) ∧ w'.cell? ⟨g, 40 + s, none⟩ = some (.int .i64 0)) wr.drew := ⟨y0, y1, y2, y3, y4, dd⟩
            refine wp_region_D 13 (fun w' : World => w'.cell? ⟨w.heap.size, 0, none⟩ = some (.int .i64 a) ∧ w'.cell? ⟨w.heap.size, 1, none⟩ = some (.int .i64 (pN : Int)) ∧ w'.cell? ⟨w.heap.size, 2, none⟩ = some (.int .i64 fr) ∧ w'.cell? ⟨w.heap.size, 3, none⟩ = some (.bool rd) ∧ w'.cell? ⟨w.heap.size, 4, none⟩ = some (.bool wb) ∧ w'.cell? ⟨g, 40 + s, none⟩ = some (.int .i64 0)) (by kernel_rfl) ?_
            refine' wpAnyD_take (i := 0) (oi := ⟨some 74, _, _, _, _, _⟩) (v := _) rfl (by kernel_rfl) (by kernel_rfl) (by kernel_rfl) (by kernel_rfl) (fun _ _ _ h => h) (Or.inl ⟨by rfl, ?_⟩) hS ?_
            rotate_left
            · intro w hSw
              try dsimp only at hSw
              go_simp
              all_goals with_reducible rfl
            simp only [Act.put, List.setIfInBounds_toArray, List.set_cons_zero, List.set_cons_succ]
            refine' wpAnyD_take (i := 1) (oi := ⟨some 75, _, _, _, _, _⟩) (v := _) rfl (by kernel_rfl) (by kernel_rfl) (by kernel_rfl) (by kernel_rfl) (fun _ _ _ h => h) (Or.inl ⟨by rfl, ?_⟩) hS ?_
            rotate_left
            · intro w hSw
              try dsimp only at hSw
              go_simp
              all_goals with_reducible rfl
            simp only [Act.put, List.setIfInBounds_toArray, List.set_cons_zero, List.set_cons_succ]
            refine' wpAnyD_take (i := 2) (oi := ⟨some 76, _, _, _, _, _⟩) (v := _) rfl (by kernel_rfl) (by kernel_rfl) (by kernel_rfl) (by kernel_rfl) (fun _ _ _ h => h) (Or.inl ⟨by rfl, ?_⟩) hS ?_
            rotate_left
            · intro w hSw
              try dsimp only at hSw
              go_simp
              all_goals with_reducible rfl
            simp only [Act.put, List.setIfInBounds_toArray, List.set_cons_zero, List.set_cons_succ]
            refine' wpAnyD_take (i := 3) (oi := ⟨some 77, _, _, _, _, _⟩) (v := _) rfl (by kernel_rfl) (by kernel_rfl) (by kernel_rfl) (by kernel_rfl) (fun _ _ _ h => h) (Or.inl ⟨by rfl, ?_⟩) hS ?_
            rotate_left
            · intro w hSw
              try dsimp only at hSw
              go_simp
              all_goals with_reducible rfl
            simp only [Act.put, List.setIfInBounds_toArray, List.set_cons_zero, List.set_cons_succ]
            refine' wpAnyD_take (i := 4) (oi := ⟨some 78, _, _, _, _, _⟩) (v := _) rfl (by kernel_rfl) (by kernel_rfl) (by kernel_rfl) (by kernel_rfl) (fun _ _ _ h => h) (Or.inl ⟨by rfl, ?_⟩) hS ?_
            rotate_left
            · intro w hSw
              try dsimp only at hSw
              go_simp
              all_goals with_reducible rfl
            simp only [Act.put, List.setIfInBounds_toArray, List.set_cons_zero, List.set_cons_succ]
            refine' wpAnyD_take (i := 5) (oi := ⟨some 79, _, _, _, _, _⟩) (v := _) rfl (by kernel_rfl) (by kernel_rfl) (by kernel_rfl) (by kernel_rfl) (fun _ _ _ h => h) (Or.inl ⟨by rfl, ?_⟩) hS ?_
            rotate_left
            · intro w hSw
              try dsimp only at hSw
              go_simp
              all_goals with_reducible rfl
            simp only [Act.put, List.setIfInBounds_toArray, List.set_cons_zero, List.set_cons_succ]
            refine' wpAnyD_take (i := 6) (oi := ⟨some 80, _, _, _, _, _⟩) (v := _) rfl (by kernel_rfl) (by kernel_rfl) (by kernel_rfl) (by kernel_rfl) (fun _ _ _ h => h) (Or.inl ⟨by rfl, ?_⟩) hS ?_
            rotate_left
            · intro w hSw
              try dsimp only at hSw
              go_simp
              all_goals with_reducible rfl
            simp only [Act.put, List.setIfInBounds_toArray, List.set_cons_zero, List.set_cons_succ]
            refine' wpAnyD_take (i := 7) (oi := ⟨some 81, _, _, _, _, _⟩) (v := _) rfl (by kernel_rfl) (by kernel_rfl) (by kernel_rfl) (by kernel_rfl) (fun _ _ _ h => h) (Or.inl ⟨by rfl, ?_⟩) hS ?_
            rotate_left
            · intro w hSw
              try dsimp only at hSw
              go_simp
              all_goals with_reducible rfl
            simp only [Act.put, List.setIfInBounds_toArray, List.set_cons_zero, List.set_cons_succ]
            refine' wpAnyD_take (i := 8) (oi := ⟨some 82, _, _, _, _, _⟩) (v := _) rfl (by kernel_rfl) (by kernel_rfl) (by kernel_rfl) (by kernel_rfl) (fun _ _ _ h => h) (Or.inl ⟨by rfl, ?_⟩) hS ?_
            rotate_left
            · intro w hSw
              try dsimp only at hSw
              go_simp
              all_goals with_reducible rfl
            simp only [Act.put, List.setIfInBounds_toArray, List.set_cons_zero, List.set_cons_succ]
            refine wpAnyD_ready (rs := [9]) (by kernel_rfl) (by simp) ?_
            refine AllReadyD.cons (o := ⟨some 83, _, _, _, _, _⟩) rfl (fun K hK => ?_) AllReadyD.nil
            go_simp
            refine hK.out _ _ (fun _ => hS) (fun _ => ?_)
            clear hK K
            refine wpAnyD_ready (rs := [10]) (by kernel_rfl) (by simp) ?_
            refine AllReadyD.cons (o := ⟨some 84, _, _, _, _, _⟩) rfl (fun K hK => ?_) AllReadyD.nil
            go_simp
            refine hK.out _ _ (fun _ => hS) (fun _ => ?_)
            clear hK K
            refine wpAnyD_ready (rs := [11]) (by kernel_rfl) (by simp) ?_
            refine AllReadyD.cons (o := ⟨some 85, _, _, _, _, _⟩) rfl (fun K hK => ?_) AllReadyD.nil
            go_simp
            refine hK.out _ _ (fun _ => hS) (fun _ => ?_)
            clear hK K
            refine wpAnyD_ready (rs := [12]) (by kernel_rfl) (by simp) ?_
            refine AllReadyD.cons (o := ⟨some 86, _, _, _, _, _⟩) rfl (fun K hK => ?_) AllReadyD.nil
            go_simp
            refine hK.out _ _ (fun _ => hS) (fun _ => ?_)
            clear hK K
            refine wpAnyD_ready (rs := [13]) (by kernel_rfl) (by simp) ?_
            refine AllReadyD.cons (o := ⟨none, _, _, _, _, _⟩) rfl (fun K hK => ?_) AllReadyD.nil
            go_simp
            refine hK.out _ _ (fun h => absurd h (by decide)) (fun _ => ?_)
            clear hK K hS
            refine wpAnyD_done (by kernel_rfl) ?_ _
            go_wp2
            have hp := (HT3.out.put (2 * s) (by omega) ⟨a, pN, fr, rd, wb⟩).drew
            rw [show (2 * s) * 5 = s * 10 by omega] at hp
            have hmp := (HM3.out.trans (stored5_mod (Mod.refl (· = g) wr) (g := g) (.inl rfl) (s * 10) ⟨a, pN, fr, rd, wb⟩)).drew
            change Code.wp _ _ _ _ (stored5 wr g (s * 10) ⟨a, pN, fr, rd, wb⟩).drew
            clear t0 t1 t2 t3 t4 q0 q1 q2 q3 q4 y0 y1 y2 y3 y4 dd HT3 HX3 HM3
            generalize (stored5 wr g (s * 10) ⟨a, pN, fr, rd, wb⟩).drew = we at hp hmp ⊢
            have dd := hp.due_ s hs4
            rw [show (c.put (2 * s) ⟨a, pN, fr, rd, wb⟩).due s = 0 from hdd] at dd
            have q0 := hp.frozen (40 + s)
            have gl := hp.lt
            have hS : (fun w' : World => w'.cell? ⟨g, 40 + s, none⟩ = some (.int .i64 0)) we.drew := dd
            refine wp_region_D 12 (fun w' : World => w'.cell? ⟨g, 40 + s, none⟩ = some (.int .i64 0)) (by kernel_rfl) ?_
            refine' wpAnyD_take (i := 0) (oi := ⟨some 87, _, _, _, _, _⟩) (v := _) rfl (by kernel_rfl) (by kernel_rfl) (by kernel_rfl) (by kernel_rfl) (fun _ _ _ h => h) (Or.inl ⟨by rfl, ?_⟩) hS ?_
            rotate_left
            · intro w hSw
              try dsimp only at hSw
              go_simp
              all_goals with_reducible rfl
            simp only [Act.put, List.setIfInBounds_toArray, List.set_cons_zero, List.set_cons_succ]
            refine' wpAnyD_take (i := 1) (oi := ⟨some 88, _, _, _, _, _⟩) (v := _) rfl (by kernel_rfl) (by kernel_rfl) (by kernel_rfl) (by kernel_rfl) (fun _ _ _ h => h) (Or.inl ⟨by rfl, ?_⟩) hS ?_
            rotate_left
            · intro w hSw
              try dsimp only at hSw
              go_simp
              all_goals with_reducible rfl
            simp only [Act.put, List.setIfInBounds_toArray, List.set_cons_zero, List.set_cons_succ]
            refine' wpAnyD_take (i := 2) (oi := ⟨some 89, _, _, _, _, _⟩) (v := _) rfl (by kernel_rfl) (by kernel_rfl) (by kernel_rfl) (by kernel_rfl) (fun _ _ _ h => h) (Or.inl ⟨by rfl, ?_⟩) hS ?_
            rotate_left
            · intro w hSw
              try dsimp only at hSw
              go_simp
              all_goals with_reducible rfl
            simp only [Act.put, List.setIfInBounds_toArray, List.set_cons_zero, List.set_cons_succ]
            refine' wpAnyD_take (i := 3) (oi := ⟨some 90, _, _, _, _, _⟩) (v := _) rfl (by kernel_rfl) (by kernel_rfl) (by kernel_rfl) (by kernel_rfl) (fun _ _ _ h => h) (Or.inl ⟨by rfl, ?_⟩) hS ?_
            rotate_left
            · intro w hSw
              try dsimp only at hSw
              go_simp
              all_goals with_reducible rfl
            simp only [Act.put, List.setIfInBounds_toArray, List.set_cons_zero, List.set_cons_succ]
            refine' wpAnyD_take (i := 4) (oi := ⟨some 91, _, _, _, _, _⟩) (v := _) rfl (by kernel_rfl) (by kernel_rfl) (by kernel_rfl) (by kernel_rfl) (fun _ _ _ h => h) (Or.inl ⟨by rfl, ?_⟩) hS ?_
            rotate_left
            · intro w hSw
              try dsimp only at hSw
              go_simp
              all_goals with_reducible rfl
            simp only [Act.put, List.setIfInBounds_toArray, List.set_cons_zero, List.set_cons_succ]
            refine' wpAnyD_take (i := 5) (oi := ⟨some 92, _, _, _, _, _⟩) (v := _) rfl (by kernel_rfl) (by kernel_rfl) (by kernel_rfl) (by kernel_rfl) (fun _ _ _ h => h) (Or.inl ⟨by rfl, ?_⟩) hS ?_
            rotate_left
            · intro w hSw
              try dsimp only at hSw
              go_simp
              all_goals with_reducible rfl
            simp only [Act.put, List.setIfInBounds_toArray, List.set_cons_zero, List.set_cons_succ]
            refine' wpAnyD_take (i := 6) (oi := ⟨some 93, _, _, _, _, _⟩) (v := _) rfl (by kernel_rfl) (by kernel_rfl) (by kernel_rfl) (by kernel_rfl) (fun _ _ _ h => h) (Or.inl ⟨by rfl, ?_⟩) hS ?_
            rotate_left
            · intro w hSw
              try dsimp only at hSw
              go_simp
              all_goals with_reducible rfl
            simp only [Act.put, List.setIfInBounds_toArray, List.set_cons_zero, List.set_cons_succ]
            refine' wpAnyD_take (i := 7) (oi := ⟨some 94, _, _, _, _, _⟩) (v := _) rfl (by kernel_rfl) (by kernel_rfl) (by kernel_rfl) (by kernel_rfl) (fun _ _ _ h => h) (Or.inl ⟨by rfl, ?_⟩) hS ?_
            rotate_left
            · intro w hSw
              try dsimp only at hSw
              go_simp
              all_goals with_reducible rfl
            simp only [Act.put, List.setIfInBounds_toArray, List.set_cons_zero, List.set_cons_succ]
            refine' wpAnyD_take (i := 8) (oi := ⟨some 95, _, _, _, _, _⟩) (v := _) rfl (by kernel_rfl) (by kernel_rfl) (by kernel_rfl) (by kernel_rfl) (fun _ _ _ h => h) (Or.inl ⟨by rfl, ?_⟩) hS ?_
            rotate_left
            · intro w hSw
              try dsimp only at hSw
              go_simp
              all_goals with_reducible rfl
            simp only [Act.put, List.setIfInBounds_toArray, List.set_cons_zero, List.set_cons_succ]
            refine wpAnyD_ready (rs := [9]) (by kernel_rfl) (by simp) ?_
            refine AllReadyD.cons (o := ⟨some 96, _, _, _, _, _⟩) rfl (fun K hK => ?_) AllReadyD.nil
            go_simp
            refine hK.out _ _ (fun _ => hS) (fun _ => ?_)
            clear hK K
            refine wpAnyD_ready (rs := [10]) (by kernel_rfl) (by simp) ?_
            refine AllReadyD.cons (o := ⟨some 97, _, _, _, _, _⟩) rfl (fun K hK => ?_) AllReadyD.nil
            go_simp
            refine hK.out _ _ (fun _ => hS) (fun _ => ?_)
            clear hK K
            refine wpAnyD_ready (rs := [11]) (by kernel_rfl) (by simp) ?_
            refine AllReadyD.cons (o := ⟨some 98, _, _, _, _, _⟩) rfl (fun K hK => ?_) AllReadyD.nil
            go_simp
            refine hK.out _ _ (fun _ => hS) (fun _ => ?_)
            clear hK K
            refine wpAnyD_ready (rs := [12]) (by kernel_rfl) (by simp) ?_
            refine AllReadyD.cons (o := ⟨none, _, _, _, _, _⟩) rfl (fun K hK => ?_) AllReadyD.nil
            go_simp
            refine hK.out _ _ (fun h => absurd h (by decide)) (fun _ => ?_)
            clear hK K hS
            refine wpAnyD_done (by kernel_rfl) ?_ _
            go_wp2
            go_ret
            exact ⟨rfl, by rw [HE.out, if_neg (by rw [HV.out]; decide), if_neg (by rw [HV.out]; decide), if_pos hdd]; exact (hp.setDue s hs4 1).drew, (hmp.setCell (p := ⟨g, 40 + s, none⟩) (.inl rfl) _).drew⟩
          · rw [hdd] at dd
            have q0 := HT3.out.frozen (s * 10 + 5)
            have q1 := HT3.out.frozen (s * 10 + 5 + 1)
            have q2 := HT3.out.frozen (s * 10 + 5 + 2)
            have q3 := HT3.out.frozen (s * 10 + 5 + 3)
            have q4 := HT3.out.frozen (s * 10 + 5 + 4)
            obtain ⟨t0, t1, t2, t3, t4⟩ := HT3.out.cell (2 * s + 1) (by omega)
            rw [show (2 * s + 1) * 5 = s * 10 + 5 by omega] at t0 t1 t2 t3 t4
            have hS : (fun w' : World => w'.cell? ⟨w.heap.size, 0, none⟩ = some (.int .i64 a) ∧ w'.cell? ⟨w.heap.size, 1, none⟩ = some (.int .i64 (pN : Int)) ∧ w'.cell? ⟨w.heap.size, 2, none⟩ = some (.int .i64 fr) ∧ w'.cell? ⟨w.heap.size, 3, none⟩ = some (.bool rd) ∧ w'.cell? ⟨w.heap.size, 4, none⟩ = some (.bool wb) ∧ w'.cell? ⟨g, 40 + s, none⟩ = some (.int .i64 1)) wr.drew := ⟨y0, y1, y2, y3, y4, dd⟩
            refine wp_region_D 13 (fun w' : World => w'.cell? ⟨w.heap.size, 0, none⟩ = some (.int .i64 a) ∧ w'.cell? ⟨w.heap.size, 1, none⟩ = some (.int .i64 (pN : Int)) ∧ w'.cell? ⟨w.heap.size, 2, none⟩ = some (.int .i64 fr) ∧ w'.cell? ⟨w.heap.size, 3, none⟩ = some (.bool rd) ∧ w'.cell? ⟨w.heap.size, 4, none⟩ = some (.bool wb) ∧ w'.cell? ⟨g, 40 + s, none⟩ = some (.int .i64 1)) (by kernel_rfl) ?_
            refine' wpAnyD_take (i := 0) (oi := ⟨some 74, _, _, _, _, _⟩) (v := _) rfl (by kernel_rfl) (by kernel_rfl) (by kernel_rfl) (by kernel_rfl) (fun _ _ _ h => h) (Or.inl ⟨by rfl, ?_⟩) hS ?_
            rotate_left
            · intro w hSw
              try dsimp only at hSw
              go_simp
              all_goals with_reducible rfl
            simp only [Act.put, List.setIfInBounds_toArray, List.set_cons_zero, List.set_cons_succ]
            refine' wpAnyD_take (i := 1) (oi := ⟨some 75, _, _, _, _, _⟩) (v := _) rfl (by kernel_rfl) (by kernel_rfl) (by kernel_rfl) (by kernel_rfl) (fun _ _ _ h => h) (Or.inl ⟨by rfl, ?_⟩) hS ?_
            rotate_left
            · intro w hSw
              try dsimp only at hSw
              go_simp
              all_goals with_reducible rfl
            simp only [Act.put, List.setIfInBounds_toArray, List.set_cons_zero, List.set_cons_succ]
            refine' wpAnyD_take (i := 2) (oi := ⟨some 76, _, _, _, _, _⟩) (v := _) rfl (by kernel_rfl) (by kernel_rfl) (by kernel_rfl) (by kernel_rfl) (fun _ _ _ h => h) (Or.inl ⟨by rfl, ?_⟩) hS ?_
            rotate_left
            · intro w hSw
              try dsimp only at hSw
              go_simp
              all_goals with_reducible rfl
            simp only [Act.put, List.setIfInBounds_toArray, List.set_cons_zero, List.set_cons_succ]
            refine' wpAnyD_take (i := 3) (oi := ⟨some 77, _, _, _, _, _⟩) (v := _) rfl (by kernel_rfl) (by kernel_rfl) (by kernel_rfl) (by kernel_rfl) (fun _ _ _ h => h) (Or.inl ⟨by rfl, ?_⟩) hS ?_
            rotate_left
            · intro w hSw
              try dsimp only at hSw
              go_simp
              all_goals with_reducible rfl
            simp only [Act.put, List.setIfInBounds_toArray, List.set_cons_zero, List.set_cons_succ]
            refine' wpAnyD_take (i := 4) (oi := ⟨some 78, _, _, _, _, _⟩) (v := _) rfl (by kernel_rfl) (by kernel_rfl) (by kernel_rfl) (by kernel_rfl) (fun _ _ _ h => h) (Or.inl ⟨by rfl, ?_⟩) hS ?_
            rotate_left
            · intro w hSw
              try dsimp only at hSw
              go_simp
              all_goals with_reducible rfl
            simp only [Act.put, List.setIfInBounds_toArray, List.set_cons_zero, List.set_cons_succ]
            refine' wpAnyD_take (i := 5) (oi := ⟨some 79, _, _, _, _, _⟩) (v := _) rfl (by kernel_rfl) (by kernel_rfl) (by kernel_rfl) (by kernel_rfl) (fun _ _ _ h => h) (Or.inl ⟨by rfl, ?_⟩) hS ?_
            rotate_left
            · intro w hSw
              try dsimp only at hSw
              go_simp
              all_goals with_reducible rfl
            simp only [Act.put, List.setIfInBounds_toArray, List.set_cons_zero, List.set_cons_succ]
            refine' wpAnyD_take (i := 6) (oi := ⟨some 80, _, _, _, _, _⟩) (v := _) rfl (by kernel_rfl) (by kernel_rfl) (by kernel_rfl) (by kernel_rfl) (fun _ _ _ h => h) (Or.inl ⟨by rfl, ?_⟩) hS ?_
            rotate_left
            · intro w hSw
              try dsimp only at hSw
              go_simp
              all_goals with_reducible rfl
            simp only [Act.put, List.setIfInBounds_toArray, List.set_cons_zero, List.set_cons_succ]
            refine' wpAnyD_take (i := 7) (oi := ⟨some 81, _, _, _, _, _⟩) (v := _) rfl (by kernel_rfl) (by kernel_rfl) (by kernel_rfl) (by kernel_rfl) (fun _ _ _ h => h) (Or.inl ⟨by rfl, ?_⟩) hS ?_
            rotate_left
            · intro w hSw
              try dsimp only at hSw
              go_simp
              all_goals with_reducible rfl
            simp only [Act.put, List.setIfInBounds_toArray, List.set_cons_zero, List.set_cons_succ]
            refine' wpAnyD_take (i := 8) (oi := ⟨some 82, _, _, _, _, _⟩) (v := _) rfl (by kernel_rfl) (by kernel_rfl) (by kernel_rfl) (by kernel_rfl) (fun _ _ _ h => h) (Or.inl ⟨by rfl, ?_⟩) hS ?_
            rotate_left
            · intro w hSw
              try dsimp only at hSw
              go_simp
              all_goals with_reducible rfl
            simp only [Act.put, List.setIfInBounds_toArray, List.set_cons_zero, List.set_cons_succ]
            refine wpAnyD_ready (rs := [9]) (by kernel_rfl) (by simp) ?_
            refine AllReadyD.cons (o := ⟨some 83, _, _, _, _, _⟩) rfl (fun K hK => ?_) AllReadyD.nil
            go_simp
            refine hK.out _ _ (fun _ => hS) (fun _ => ?_)
            clear hK K
            refine wpAnyD_ready (rs := [10]) (by kernel_rfl) (by simp) ?_
            refine AllReadyD.cons (o := ⟨some 84, _, _, _, _, _⟩) rfl (fun K hK => ?_) AllReadyD.nil
            go_simp
            refine hK.out _ _ (fun _ => hS) (fun _ => ?_)
            clear hK K
            refine wpAnyD_ready (rs := [11]) (by kernel_rfl) (by simp) ?_
            refine AllReadyD.cons (o := ⟨some 85, _, _, _, _, _⟩) rfl (fun K hK => ?_) AllReadyD.nil
            go_simp
            refine hK.out _ _ (fun _ => hS) (fun _ => ?_)
            clear hK K
            refine wpAnyD_ready (rs := [12]) (by kernel_rfl) (by simp) ?_
            refine AllReadyD.cons (o := ⟨some 86, _, _, _, _, _⟩) rfl (fun K hK => ?_) AllReadyD.nil
            go_simp
            refine hK.out _ _ (fun _ => hS) (fun _ => ?_)
            clear hK K
            refine wpAnyD_ready (rs := [13]) (by kernel_rfl) (by simp) ?_
            refine AllReadyD.cons (o := ⟨none, _, _, _, _, _⟩) rfl (fun K hK => ?_) AllReadyD.nil
            go_simp
            refine hK.out _ _ (fun h => absurd h (by decide)) (fun _ => ?_)
            clear hK K hS
            refine wpAnyD_done (by kernel_rfl) ?_ _
            go_wp2
            have hp := (HT3.out.put (2 * s + 1) (by omega) ⟨a, pN, fr, rd, wb⟩).drew
            rw [show (2 * s + 1) * 5 = s * 10 + 5 by omega] at hp
            have hmp := (HM3.out.trans (stored5_mod (Mod.refl (· = g) wr) (g := g) (.inl rfl) (s * 10 + 5) ⟨a, pN, fr, rd, wb⟩)).drew
            change Code.wp _ _ _ _ (stored5 wr g (s * 10 + 5) ⟨a, pN, fr, rd, wb⟩).drew
            clear t0 t1 t2 t3 t4 q0 q1 q2 q3 q4 y0 y1 y2 y3 y4 dd HT3 HX3 HM3
            generalize (stored5 wr g (s * 10 + 5) ⟨a, pN, fr, rd, wb⟩).drew = we at hp hmp ⊢
            have dd := hp.due_ s hs4
            rw [show (c.put (2 * s + 1) ⟨a, pN, fr, rd, wb⟩).due s = 1 from hdd] at dd
            have q0 := hp.frozen (40 + s)
            have gl := hp.lt
            have hS : (fun w' : World => w'.cell? ⟨g, 40 + s, none⟩ = some (.int .i64 1)) we.drew := dd
            refine wp_region_D 12 (fun w' : World => w'.cell? ⟨g, 40 + s, none⟩ = some (.int .i64 1)) (by kernel_rfl) ?_
            refine' wpAnyD_take (i := 0) (oi := ⟨some 87, _, _, _, _, _⟩) (v := _) rfl (by kernel_rfl) (by kernel_rfl) (by kernel_rfl) (by kernel_rfl) (fun _ _ _ h => h) (Or.inl ⟨by rfl, ?_⟩) hS ?_
            rotate_left
            · intro w hSw
              try dsimp only at hSw
              go_simp
              all_goals with_reducible rfl
            simp only [Act.put, List.setIfInBounds_toArray, List.set_cons_zero, List.set_cons_succ]
            refine' wpAnyD_take (i := 1) (oi := ⟨some 88, _, _, _, _, _⟩) (v := _) rfl (by kernel_rfl) (by kernel_rfl) (by kernel_rfl) (by kernel_rfl) (fun _ _ _ h => h) (Or.inl ⟨by rfl, ?_⟩) hS ?_
            rotate_left
            · intro w hSw
              try dsimp only at hSw
              go_simp
              all_goals with_reducible rfl
            simp only [Act.put, List.setIfInBounds_toArray, List.set_cons_zero, List.set_cons_succ]
            refine' wpAnyD_take (i := 2) (oi := ⟨some 89, _, _, _, _, _⟩) (v := _) rfl (by kernel_rfl) (by kernel_rfl) (by kernel_rfl) (by kernel_rfl) (fun _ _ _ h => h) (Or.inl ⟨by rfl, ?_⟩) hS ?_
            rotate_left
            · intro w hSw
              try dsimp only at hSw
              go_simp
              all_goals with_reducible rfl
            simp only [Act.put, List.setIfInBounds_toArray, List.set_cons_zero, List.set_cons_succ]
            refine' wpAnyD_take (i := 3) (oi := ⟨some 90, _, _, _, _, _⟩) (v := _) rfl (by kernel_rfl) (by kernel_rfl) (by kernel_rfl) (by kernel_rfl) (fun _ _ _ h => h) (Or.inl ⟨by rfl, ?_⟩) hS ?_
            rotate_left
            · intro w hSw
              try dsimp only at hSw
              go_simp
              all_goals with_reducible rfl
            simp only [Act.put, List.setIfInBounds_toArray, List.set_cons_zero, List.set_cons_succ]
            refine' wpAnyD_take (i := 4) (oi := ⟨some 91, _, _, _, _, _⟩) (v := _) rfl (by kernel_rfl) (by kernel_rfl) (by kernel_rfl) (by kernel_rfl) (fun _ _ _ h => h) (Or.inl ⟨by rfl, ?_⟩) hS ?_
            rotate_left
            · intro w hSw
              try dsimp only at hSw
              go_simp
              all_goals with_reducible rfl
            simp only [Act.put, List.setIfInBounds_toArray, List.set_cons_zero, List.set_cons_succ]
            refine' wpAnyD_take (i := 5) (oi := ⟨some 92, _, _, _, _, _⟩) (v := _) rfl (by kernel_rfl) (by kernel_rfl) (by kernel_rfl) (by kernel_rfl) (fun _ _ _ h => h) (Or.inl ⟨by rfl, ?_⟩) hS ?_
            rotate_left
            · intro w hSw
              try dsimp only at hSw
              go_simp
              all_goals with_reducible rfl
            simp only [Act.put, List.setIfInBounds_toArray, List.set_cons_zero, List.set_cons_succ]
            refine' wpAnyD_take (i := 6) (oi := ⟨some 93, _, _, _, _, _⟩) (v := _) rfl (by kernel_rfl) (by kernel_rfl) (by kernel_rfl) (by kernel_rfl) (fun _ _ _ h => h) (Or.inl ⟨by rfl, ?_⟩) hS ?_
            rotate_left
            · intro w hSw
              try dsimp only at hSw
              go_simp
              all_goals with_reducible rfl
            simp only [Act.put, List.setIfInBounds_toArray, List.set_cons_zero, List.set_cons_succ]
            refine' wpAnyD_take (i := 7) (oi := ⟨some 94, _, _, _, _, _⟩) (v := _) rfl (by kernel_rfl) (by kernel_rfl) (by kernel_rfl) (by kernel_rfl) (fun _ _ _ h => h) (Or.inl ⟨by rfl, ?_⟩) hS ?_
            rotate_left
            · intro w hSw
              try dsimp only at hSw
              go_simp
              all_goals with_reducible rfl
            simp only [Act.put, List.setIfInBounds_toArray, List.set_cons_zero, List.set_cons_succ]
            refine' wpAnyD_take (i := 8) (oi := ⟨some 95, _, _, _, _, _⟩) (v := _) rfl (by kernel_rfl) (by kernel_rfl) (by kernel_rfl) (by kernel_rfl) (fun _ _ _ h => h) (Or.inl ⟨by rfl, ?_⟩) hS ?_
            rotate_left
            · intro w hSw
              try dsimp only at hSw
              go_simp
              all_goals with_reducible rfl
            simp only [Act.put, List.setIfInBounds_toArray, List.set_cons_zero, List.set_cons_succ]
            refine wpAnyD_ready (rs := [9]) (by kernel_rfl) (by simp) ?_
            refine AllReadyD.cons (o := ⟨some 96, _, _, _, _, _⟩) rfl (fun K hK => ?_) AllReadyD.nil
            go_simp
            refine hK.out _ _ (fun _ => hS) (fun _ => ?_)
            clear hK K
            refine wpAnyD_ready (rs := [10]) (by kernel_rfl) (by simp) ?_
            refine AllReadyD.cons (o := ⟨some 97, _, _, _, _, _⟩) rfl (fun K hK => ?_) AllReadyD.nil
            go_simp
            refine hK.out _ _ (fun _ => hS) (fun _ => ?_)
            clear hK K
            refine wpAnyD_ready (rs := [11]) (by kernel_rfl) (by simp) ?_
            refine AllReadyD.cons (o := ⟨some 98, _, _, _, _, _⟩) rfl (fun K hK => ?_) AllReadyD.nil
            go_simp
            refine hK.out _ _ (fun _ => hS) (fun _ => ?_)
            clear hK K
            refine wpAnyD_ready (rs := [12]) (by kernel_rfl) (by simp) ?_
            refine AllReadyD.cons (o := ⟨none, _, _, _, _, _⟩) rfl (fun K hK => ?_) AllReadyD.nil
            go_simp
            refine hK.out _ _ (fun h => absurd h (by decide)) (fun _ => ?_)
            clear hK K hS
            refine wpAnyD_done (by kernel_rfl) ?_ _
            go_wp2
            go_ret
            exact ⟨rfl, by rw [HE.out, if_neg (by rw [HV.out]; decide), if_neg (by rw [HV.out]; decide), if_neg (by rw [hdd]; decide)]; exact (hp.setDue s hs4 0).drew, (hmp.setCell (p := ⟨g, 40 + s, none⟩) (.inl rfl) _).drew⟩
theorem rfill6 (g : Nat) (c : Cache) (x : Tr) (w : World) (hT : Ref6At w g c) (hG : Good c) :
    Calls Try.prog 85 #[.pointer (some ⟨g, 0, none⟩), .agg x.row] w fun e w' => e = .returned (.int .i64 (fillE x)) ∧ Ref6At w' g (fillC c x) ∧ Mod (· = g) w w' := by
  by_cases h : mayFill x
  · rw [fillE_good h]
    obtain ⟨a, p, fr, rd, wb⟩ := x
    obtain ⟨pN, rfl⟩ := Int.eq_ofNat_of_zero_le h.2.1
    exact rfill6_good g pN c a fr rd wb w hT hG h
  · exact rfill6_bad g c x w hT h
end Go.Proofs.Ytlfenakabedmfaa
