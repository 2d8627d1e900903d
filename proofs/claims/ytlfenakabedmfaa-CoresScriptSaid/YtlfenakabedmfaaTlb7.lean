/- The walk of a cache's Fill, where it may be filled: by cases of what the set has. -/
import Derived.Test.YtlfenakabedmfaaTlbs
import Derived.Deep.DeepCutAuto
import Derived.Deep.CutBlock
namespace Go.Proofs.Ytlfenakabedmfaa
open Go.RowKit Go.Shelf
theorem pos_even (s : Nat) : pos (2 * s) = s * 11 := by unfold pos; omega
theorem pos_odd (s : Nat) : pos (2 * s + 1) = s * 11 + 5 := by unfold pos; omega
/-- The twelve cells of a set, and what a walk wants of them. -/
theorem TlbAt.set_ {w : World} {g : Nat} {c : Cache} (h : TlbAt w g c) (s : Nat) (hs : s < 4) :
    (w.cell? ⟨g, s * 11, none⟩ = some (.int .i64 (c.way (2 * s)).sp) ∧ w.cell? ⟨g, s * 11 + 1, none⟩ = some (.int .i64 (c.way (2 * s)).pg) ∧ w.cell? ⟨g, s * 11 + 2, none⟩ = some (.int .i64 (c.way (2 * s)).fr) ∧ w.cell? ⟨g, s * 11 + 3, none⟩ = some (.bool (c.way (2 * s)).rd) ∧ w.cell? ⟨g, s * 11 + 4, none⟩ = some (.bool (c.way (2 * s)).wr)) ∧
    (w.cell? ⟨g, s * 11 + 5, none⟩ = some (.int .i64 (c.way (2 * s + 1)).sp) ∧ w.cell? ⟨g, s * 11 + 6, none⟩ = some (.int .i64 (c.way (2 * s + 1)).pg) ∧ w.cell? ⟨g, s * 11 + 7, none⟩ = some (.int .i64 (c.way (2 * s + 1)).fr) ∧ w.cell? ⟨g, s * 11 + 8, none⟩ = some (.bool (c.way (2 * s + 1)).rd) ∧ w.cell? ⟨g, s * 11 + 9, none⟩ = some (.bool (c.way (2 * s + 1)).wr)) ∧
    w.cell? ⟨g, s * 11 + 10, none⟩ = some (.int .i64 (c.due s)) := by
  have h1 := h.cell (2 * s) (by omega)
  have h2 := h.cell (2 * s + 1) (by omega)
  rw [pos_even] at h1
  rw [pos_odd] at h2
  exact ⟨h1, h2, h.due_ s hs⟩
/-- Is way k of a set that page's, is it empty? -/
def isM (c : Cache) (s : Nat) (a p : Int) (k : Nat) : Bool := (c.way (2 * s + k)).sp == a && (c.way (2 * s + k)).pg == p
def isE (c : Cache) (s k : Nat) : Bool := (c.way (2 * s + k)).sp == 0
/-- Which way of its set: 0, 1, or -1 for that which is due. -/
def wayV (c : Cache) (s : Nat) (a p : Int) : Int := if isM c s a p 0 = true then 0 else if isM c s a p 1 = true then 1 else if isE c s 0 = true then 0 else if isE c s 1 = true then 1 else -1
theorem wayV_M {c : Cache} {s k : Nat} {a p : Int} (hk : k < 2) (h : isM c s a p k = true) (hj : ∀ j, j < k → isM c s a p j = false) : wayV c s a p = k := by
  unfold wayV
  match k, hk with
  | 0, _ => rw [if_pos h]; rfl
  | 1, _ => rw [if_neg (by rw [hj 0 (by decide)]; decide), if_pos h]; rfl
theorem wayV_E {c : Cache} {s k : Nat} {a p : Int} (hk : k < 2) (hM : ∀ j, j < 2 → isM c s a p j = false) (h : isE c s k = true) (hj : ∀ j, j < k → isE c s j = false) : wayV c s a p = k := by
  unfold wayV
  rw [if_neg (by rw [hM 0 (by decide)]; decide), if_neg (by rw [hM 1 (by decide)]; decide)]
  match k, hk with
  | 0, _ => rw [if_pos h]; rfl
  | 1, _ => rw [if_neg (by rw [hj 0 (by decide)]; decide), if_pos h]; rfl
theorem wayV_none {c : Cache} {s : Nat} {a p : Int} (hM : ∀ j, j < 2 → isM c s a p j = false) (hE : ∀ j, j < 2 → isE c s j = false) : wayV c s a p = -1 := by
  unfold wayV
  rw [if_neg (by rw [hM 0 (by decide)]; decide), if_neg (by rw [hM 1 (by decide)]; decide), if_neg (by rw [hE 0 (by decide)]; decide), if_neg (by rw [hE 1 (by decide)]; decide)]
theorem to_succ {k : Nat} {f : Nat → Bool} (h : ∀ j, j < k → f j = false) (h2 : f k = false) : ∀ j, j < k + 1 → f j = false := fun j hj => by
  by_cases e : j = k
  · rw [e]; exact h2
  · exact h j (by omega)
set_option maxRecDepth 100000 in
set_option maxHeartbeats 16000000 in
theorem fill_ways (g pN : Nat) (c : Cache) (a fr : Int) (rd wb : Bool) (w : World) (hT : TlbAt w g c) (ha : 1 ≤ a) (hp : pN < 512) (hf0 : 0 ≤ fr) (hf1 : fr < 64) (hrw : rd = true ∨ wb = true) (c' : Cache)
    (hd : c.due (pN % 4) = 0 ∨ c.due (pN % 4) = 1)
    (h0 : wayV c (pN % 4) a pN = 0 → c' = c.put (2 * (pN % 4)) ⟨a, pN, fr, rd, wb⟩) (h1 : wayV c (pN % 4) a pN = 1 → c' = c.put (2 * (pN % 4) + 1) ⟨a, pN, fr, rd, wb⟩)
    (h2 : wayV c (pN % 4) a pN = -1 → c.due (pN % 4) = 0 → c' = (c.setDue (pN % 4) 1).put (2 * (pN % 4)) ⟨a, pN, fr, rd, wb⟩) (h3 : wayV c (pN % 4) a pN = -1 → c.due (pN % 4) = 1 → c' = (c.setDue (pN % 4) 0).put (2 * (pN % 4) + 1) ⟨a, pN, fr, rd, wb⟩) :
    Calls Try.prog 52 #[.pointer (some ⟨g, 0, none⟩), .agg (Tr.mk a pN fr rd wb).row] w fun e w' => e = .returned (.int .i64 0) ∧ TlbAt w' g c' ∧ Mod (· = g) w w' := by
  have hs4 : pN % 4 < 4 := Nat.mod_lt _ (by decide)
  have hlt := hT.lt
  have HT := hide hT
  have HD := hide hd
  have H0 := hide h0
  have H1 := hide h1
  have H2 := hide h2
  have H3 := hide h3
  have htm : ((pN : Int)).tmod 4 = ((pN % 4 : Nat) : Int) := by rw [Int.tmod_eq_emod_of_nonneg (by omega)]; rfl
  have i1 : (0 : Int) ≤ ((pN % 4 : Nat) : Int) := by omega
  have i2 : ((pN % 4 : Nat) : Int) < 4 := by omega
  have HRW := hide hrw
  clear hT hrw hd h0 h1 h2 h3
  unfold Tr.row at *
  dsimp only at *
  go_enter Try.func52, Try.ntmps52
  go_wp2
  go_step3
  go_upto_block 0 with fail
  go_cut [] (fun wx => wx = w.alloc (.cells #[.int .i64 a, .int .i64 (pN : Int), .int .i64 fr, .bool rd, .bool wb] 42))
  case first =>
    cases rd with
    | true =>
      go_wp2
      go_meet
      case rel => exact rfl
    | false =>
      have hw : wb = true := HRW.out.resolve_left (by decide)
      subst hw
      go_wp2
      go_meet
      case rel => exact rfl
  case rest =>
    have hx : Blk wc w.heap.size 42 #[.int .i64 a, .int .i64 (pN : Int), .int .i64 fr, .bool rd, .bool wb] := by rw [hcut]; exact Blk.new _ _ _
    have hT1 : TlbAt wc g c := by rw [hcut]; exact HT.out.below ((Below.refl _ w).alloc (Nat.le_refl _) _) hlt
    have hm1 : Mod (· = g) w wc := by rw [hcut]; exact (Mod.refl _ w).alloc _
    clear hcut
    have x0 := hx.cell 0
    have x1 := hx.cell 1
    have HX := hide hx
    have HT1 := hide hT1
    have HM1 := hide hm1
    clear hx hT1 hm1
    go_wp2
    go_quiet (fail)
    have HX2 := hide (HX.out.drewN nq)
    have HT2 := hide (show TlbAt (wc.drewN nq) g c from HT1.out.same rfl)
    have HM2 := hide (HM1.out.drewN nq)
    clear HX HT1 HM1 x0 x1
    generalize wc.drewN nq = wd at *
    have x0 := HX2.out.cell 0
    have x1 := HX2.out.cell 1
    go_wp2
    go_step3
    go_upto_block 1 with fail
    go_cut [6] (fun s6 wx => s6 = .int .i64 (wayV c (pN % 4) a pN) ∧ Blk wx w.heap.size 42 #[.int .i64 a, .int .i64 (pN : Int), .int .i64 fr, .bool rd, .bool wb] ∧ TlbAt wx g c ∧ Mod (· = g) w wx)
    case first =>
      have hgl : g < wd.heap.size := HT2.out.lt
      have hxl : w.heap.size < wd.heap.size := HX2.out.lt
      have hix : ∀ (k : Nat), k < 2 → ∀ w, (Instr.index 125 (.agg #[.int .i64 (c.way (2 * (pN % 4))).sp, .int .i64 (c.way (2 * (pN % 4))).pg, .int .i64 (c.way (2 * (pN % 4))).fr, .bool (c.way (2 * (pN % 4))).rd, .bool (c.way (2 * (pN % 4))).wr, .int .i64 (c.way (2 * (pN % 4) + 1)).sp, .int .i64 (c.way (2 * (pN % 4) + 1)).pg, .int .i64 (c.way (2 * (pN % 4) + 1)).fr, .bool (c.way (2 * (pN % 4) + 1)).rd, .bool (c.way (2 * (pN % 4) + 1)).wr]) (.int .i64 k)).run Try.prog w = .ok (.agg #[.int .i64 (c.way (2 * (pN % 4) + k)).sp, .int .i64 (c.way (2 * (pN % 4) + k)).pg, .int .i64 (c.way (2 * (pN % 4) + k)).fr, .bool (c.way (2 * (pN % 4) + k)).rd, .bool (c.way (2 * (pN % 4) + k)).wr]) w := fun k hk => by
        match k, hk with
        | 0, _ => exact fun _ => by kernel_rfl
        | 1, _ => exact fun _ => by kernel_rfl
      have HIX := hide hix
      have hb0 : ∀ w, (Instr.index 166 (.agg #[.bool false, .bool true]) (.int .i64 0)).run Try.prog w = .ok (.bool false) w := fun _ => by kernel_rfl
      have hb1 : ∀ w, (Instr.index 166 (.agg #[.bool false, .bool true]) (.int .i64 1)).run Try.prog w = .ok (.bool true) w := fun _ => by kernel_rfl
      clear htm hix
      go_wp2
      go_loopw [6, 56] (fun s6 i wz => ∃ n : Nat, n ≤ 2 ∧ s6 = .int .i64 (-1) ∧ i = .int .i64 n ∧ (1 ≤ n → ∀ j, j < 2 → isM c (pN % 4) a pN j = false) ∧ (2 ≤ n → ∀ j, j < 2 → isE c (pN % 4) j = false) ∧ Blk wz w.heap.size 42 #[.int .i64 a, .int .i64 (pN : Int), .int .i64 fr, .bool rd, .bool wb] ∧ TlbAt wz g c ∧ Mod (· = g) w wz) (fun _ i _ => 2 - (intOf i).toNat)
      case atStart => exact ⟨0, Nat.zero_le _, rfl, rfl, fun h => by omega, fun h => by omega, HX2.out, HT2.out, HM2.out⟩
      case round =>
        obtain ⟨n, hn2, rfl, rfl, hnm, hne, hx, hT, hm⟩ := hrel
        have HX3 := hide hx
        have HT3 := hide hT
        have HM3 := hide hm
        have HNE := hide hne
        have xl3 := hx.lt
        have gl3 := hT.lt
        obtain ⟨⟨c0, c1, c2, c3, c4⟩, ⟨c5, c6, c7, c8, c9⟩, _⟩ := hT.set_ (pN % 4) hs4
        clear hx hT hm hne x0 x1
        skip
        rcases (show n = 0 ∨ n = 1 ∨ n = 2 by omega) with hn | hn | hn
        · subst hn
          have HNM := hide hnm
          clear hnm
          go_wp2
          go_loopw [6, 63] (fun s6 i wz => ∃ k : Nat, k ≤ 2 ∧ s6 = .int .i64 (-1) ∧ i = .int .i64 k ∧ (∀ j, j < k → isM c (pN % 4) a pN j = false) ∧ Blk wz w.heap.size 42 #[.int .i64 a, .int .i64 (pN : Int), .int .i64 fr, .bool rd, .bool wb] ∧ TlbAt wz g c ∧ Mod (· = g) w wz) (fun _ i _ => 2 - (intOf i).toNat)
          case atStart => exact ⟨0, Nat.zero_le _, rfl, rfl, fun j hj => by omega, HX3.out, HT3.out, HM3.out⟩
          case round =>
            obtain ⟨k, hk, rfl, rfl, hj, hx, hT, hm⟩ := hrel
            have HJ := hide hj
            have HX4 := hide hx
            have HT4 := hide hT
            have HM4 := hide hm
            have x0 := hx.cell 0
            have x1 := hx.cell 1
            have xl := hx.lt
            clear hj hx hT hm
            by_cases hlk : k < 2
            · have hixk := HIX.out k hlk
              have i3 : (0 : Int) ≤ (k : Int) := by omega
              have i4 : (k : Int) < 2 := by omega
              cases A0 : (c.way (2 * (pN % 4) + k)).sp == a with
              | true =>
                cases B0 : (c.way (2 * (pN % 4) + k)).pg == (pN : Int) with
                | true =>
                  have HF := hide (show isM c (pN % 4) a pN k = true by unfold isM; rw [A0, B0]; rfl)
                  go_wp2
                  go_meet
                  case rel => exact ⟨congrArg (Value.int .i64) (wayV_M hlk HF.out HJ.out).symm, HX4.out.alloc _, HT4.out.below (Below.alloc (Below.refl _ _) (Nat.le_refl _) _) HT4.out.lt, HM4.out.alloc _⟩
                | false =>
                  have HF := hide (show isM c (pN % 4) a pN k = false by unfold isM; rw [A0, B0]; rfl)
                  go_wp2
                  go_roundw
                  case rel => exact ⟨k + 1, by omega, rfl, by simp, to_succ HJ.out HF.out, HX4.out.alloc _, HT4.out.below (Below.alloc (Below.refl _ _) (Nat.le_refl _) _) HT4.out.lt, HM4.out.alloc _⟩
                  case measure => simp [intOf]; omega
              | false =>
                have HF := hide (show isM c (pN % 4) a pN k = false by unfold isM; rw [A0]; rfl)
                go_wp2
                go_roundw
                case rel => exact ⟨k + 1, by omega, rfl, by simp, to_succ HJ.out HF.out, HX4.out.alloc _, HT4.out.below (Below.alloc (Below.refl _ _) (Nat.le_refl _) _) HT4.out.lt, HM4.out.alloc _⟩
                case measure => simp [intOf]; omega
            · obtain rfl : k = 2 := by omega
              go_wp2
              go_roundw
              case rel => exact ⟨1, by omega, rfl, rfl, fun _ => HJ.out, fun h => by omega, HX4.out, HT4.out, HM4.out⟩
              case measure => simp [intOf]
        · subst hn
          have HNM := hide hnm
          clear hnm
          go_wp2
          go_loopw [6, 63] (fun s6 i wz => ∃ k : Nat, k ≤ 2 ∧ s6 = .int .i64 (-1) ∧ i = .int .i64 k ∧ (∀ j, j < k → isE c (pN % 4) j = false) ∧ Blk wz w.heap.size 42 #[.int .i64 a, .int .i64 (pN : Int), .int .i64 fr, .bool rd, .bool wb] ∧ TlbAt wz g c ∧ Mod (· = g) w wz) (fun _ i _ => 2 - (intOf i).toNat)
          case atStart => exact ⟨0, Nat.zero_le _, rfl, rfl, fun j hj => by omega, HX3.out, HT3.out, HM3.out⟩
          case round =>
            obtain ⟨k, hk, rfl, rfl, hj, hx, hT, hm⟩ := hrel
            have HJ := hide hj
            have HX4 := hide hx
            have HT4 := hide hT
            have HM4 := hide hm
            have x0 := hx.cell 0
            have x1 := hx.cell 1
            have xl := hx.lt
            clear hj hx hT hm
            by_cases hlk : k < 2
            · have hixk := HIX.out k hlk
              have i3 : (0 : Int) ≤ (k : Int) := by omega
              have i4 : (k : Int) < 2 := by omega
              cases A0 : (c.way (2 * (pN % 4) + k)).sp == 0 with
              | true =>
                have HF := hide (show isE c (pN % 4) k = true from A0)
                go_wp2
                go_meet
                case rel => exact ⟨congrArg (Value.int .i64) (wayV_E hlk (HNM.out (by decide)) HF.out HJ.out).symm, HX4.out.alloc _, HT4.out.below (Below.alloc (Below.refl _ _) (Nat.le_refl _) _) HT4.out.lt, HM4.out.alloc _⟩
              | false =>
                have HF := hide (show isE c (pN % 4) k = false from A0)
                go_wp2
                go_roundw
                case rel => exact ⟨k + 1, by omega, rfl, by simp, to_succ HJ.out HF.out, HX4.out.alloc _, HT4.out.below (Below.alloc (Below.refl _ _) (Nat.le_refl _) _) HT4.out.lt, HM4.out.alloc _⟩
                case measure => simp [intOf]; omega
            · obtain rfl : k = 2 := by omega
              go_wp2
              go_roundw
              case rel => exact ⟨2, by omega, rfl, rfl, fun _ => HNM.out (by decide), fun _ => HJ.out, HX4.out, HT4.out, HM4.out⟩
              case measure => simp [intOf]
        · subst hn
          have HNM := hide hnm
          clear hnm
          go_wp2
          go_meet
          case rel => exact ⟨congrArg (Value.int .i64) (wayV_none (HNM.out (by decide)) (HNE.out (by decide))).symm, HX3.out, HT3.out, HM3.out⟩
    case rest =>
      obtain ⟨rfl, hx, hT, hm⟩ := hcut
      have HX5 := hide hx
      have HT5 := hide hT
      have HM5 := hide hm
      obtain ⟨q0, q1, q2, q3, q4⟩ := hx.c5
      obtain ⟨⟨d0, d1, d2, d3, d4⟩, ⟨d5, d6, d7, d8, d9⟩, d10⟩ := hT.set_ (pN % 4) hs4
      have f0 := hT.frozen (pN % 4 * 11)
      have f1 := hT.frozen (pN % 4 * 11 + 1)
      have f2 := hT.frozen (pN % 4 * 11 + 2)
      have f3 := hT.frozen (pN % 4 * 11 + 3)
      have f4 := hT.frozen (pN % 4 * 11 + 4)
      have f5 := hT.frozen (pN % 4 * 11 + 5)
      have f6 := hT.frozen (pN % 4 * 11 + 6)
      have f7 := hT.frozen (pN % 4 * 11 + 7)
      have f8 := hT.frozen (pN % 4 * 11 + 8)
      have f9 := hT.frozen (pN % 4 * 11 + 9)
      have f10 := hT.frozen (pN % 4 * 11 + 10)
      have hgl := hT.lt
      clear hx hT hm x0 x1 htm
      have hwv : wayV c (pN % 4) a pN = 0 ∨ wayV c (pN % 4) a pN = 1 ∨ wayV c (pN % 4) a pN = -1 := by
        unfold wayV
        repeat' split
        all_goals simp
      rcases hwv with hv | hv | hv
      · rw [hv]
        have HV := hide hv
        clear hv
        go_wp2
        have hS : (fun w' : World => w'.cell? ⟨w.heap.size, 0, none⟩ = some (.int .i64 a) ∧ w'.cell? ⟨w.heap.size, 1, none⟩ = some (.int .i64 (pN : Int)) ∧ w'.cell? ⟨w.heap.size, 2, none⟩ = some (.int .i64 fr) ∧ w'.cell? ⟨w.heap.size, 3, none⟩ = some (.bool rd) ∧ w'.cell? ⟨w.heap.size, 4, none⟩ = some (.bool wb)) wc.drew := ⟨q0, q1, q2, q3, q4⟩
        refine wp_region_D 6 (fun w' => w'.cell? ⟨w.heap.size, 0, none⟩ = some (.int .i64 a) ∧ w'.cell? ⟨w.heap.size, 1, none⟩ = some (.int .i64 (pN : Int)) ∧ w'.cell? ⟨w.heap.size, 2, none⟩ = some (.int .i64 fr) ∧ w'.cell? ⟨w.heap.size, 3, none⟩ = some (.bool rd) ∧ w'.cell? ⟨w.heap.size, 4, none⟩ = some (.bool wb)) (by kernel_rfl) ?_
        refine' wpAnyD_take (i := 0) (oi := ⟨some 109, _, _, _, _, _⟩) (v := _) rfl (by kernel_rfl) (by kernel_rfl) (by kernel_rfl) (by kernel_rfl) (fun _ _ _ h => h) (Or.inl ⟨by rfl, ?_⟩) hS ?_
        rotate_left
        · intro w hSw
          try dsimp only at hSw
          go_simp
          all_goals with_reducible rfl
        simp only [Act.put, List.setIfInBounds_toArray, List.set_cons_zero, List.set_cons_succ]
        refine' wpAnyD_take (i := 1) (oi := ⟨some 110, _, _, _, _, _⟩) (v := _) rfl (by kernel_rfl) (by kernel_rfl) (by kernel_rfl) (by kernel_rfl) (fun _ _ _ h => h) (Or.inl ⟨by rfl, ?_⟩) hS ?_
        rotate_left
        · intro w hSw
          try dsimp only at hSw
          go_simp
          all_goals with_reducible rfl
        simp only [Act.put, List.setIfInBounds_toArray, List.set_cons_zero, List.set_cons_succ]
        refine' wpAnyD_take (i := 2) (oi := ⟨some 111, _, _, _, _, _⟩) (v := _) rfl (by kernel_rfl) (by kernel_rfl) (by kernel_rfl) (by kernel_rfl) (fun _ _ _ h => h) (Or.inl ⟨by rfl, ?_⟩) hS ?_
        rotate_left
        · intro w hSw
          try dsimp only at hSw
          go_simp
          all_goals with_reducible rfl
        simp only [Act.put, List.setIfInBounds_toArray, List.set_cons_zero, List.set_cons_succ]
        refine wpAnyD_ready (rs := [3]) (by kernel_rfl) (by simp) ?_
        refine AllReadyD.cons (o := ⟨some 112, _, _, _, _, _⟩) rfl (fun K hK => ?_) AllReadyD.nil
        go_simp
        refine hK.out _ _ (fun _ => hS) (fun _ => ?_)
        clear hK K
        refine wpAnyD_ready (rs := [4]) (by kernel_rfl) (by simp) ?_
        refine AllReadyD.cons (o := ⟨some 113, _, _, _, _, _⟩) rfl (fun K hK => ?_) AllReadyD.nil
        go_simp
        refine hK.out _ _ (fun _ => hS) (fun _ => ?_)
        clear hK K
        refine wpAnyD_ready (rs := [5]) (by kernel_rfl) (by simp) ?_
        refine AllReadyD.cons (o := ⟨some 114, _, _, _, _, _⟩) rfl (fun K hK => ?_) AllReadyD.nil
        go_simp
        refine hK.out _ _ (fun _ => hS) (fun _ => ?_)
        clear hK K
        refine wpAnyD_ready (rs := [6]) (by kernel_rfl) (by simp) ?_
        refine AllReadyD.cons (o := ⟨none, _, _, _, _, _⟩) rfl (fun K hK => ?_) AllReadyD.nil
        go_simp
        refine hK.out _ _ (fun h => absurd h (by decide)) (fun _ => ?_)
        clear hK K hS
        refine wpAnyD_done (by kernel_rfl) ?_ _
        go_wp2
        rw [Exit.noGoto_ret]
        go_ret
        have ht := (HT5.out.put (2 * (pN % 4)) (by omega) ⟨a, pN, fr, rd, wb⟩).drew
        rw [pos_even] at ht
        exact ⟨rfl, by rw [H0.out HV.out]; exact ht, (HM5.out.trans (stored5_mod (Mod.refl (· = g) wc) (g := g) (.inl rfl) (pN % 4 * 11) ⟨a, pN, fr, rd, wb⟩)).drew⟩
      · rw [hv]
        have HV := hide hv
        clear hv
        go_wp2
        have hS : (fun w' : World => w'.cell? ⟨w.heap.size, 0, none⟩ = some (.int .i64 a) ∧ w'.cell? ⟨w.heap.size, 1, none⟩ = some (.int .i64 (pN : Int)) ∧ w'.cell? ⟨w.heap.size, 2, none⟩ = some (.int .i64 fr) ∧ w'.cell? ⟨w.heap.size, 3, none⟩ = some (.bool rd) ∧ w'.cell? ⟨w.heap.size, 4, none⟩ = some (.bool wb)) wc.drew := ⟨q0, q1, q2, q3, q4⟩
        refine wp_region_D 6 (fun w' => w'.cell? ⟨w.heap.size, 0, none⟩ = some (.int .i64 a) ∧ w'.cell? ⟨w.heap.size, 1, none⟩ = some (.int .i64 (pN : Int)) ∧ w'.cell? ⟨w.heap.size, 2, none⟩ = some (.int .i64 fr) ∧ w'.cell? ⟨w.heap.size, 3, none⟩ = some (.bool rd) ∧ w'.cell? ⟨w.heap.size, 4, none⟩ = some (.bool wb)) (by kernel_rfl) ?_
        refine' wpAnyD_take (i := 0) (oi := ⟨some 109, _, _, _, _, _⟩) (v := _) rfl (by kernel_rfl) (by kernel_rfl) (by kernel_rfl) (by kernel_rfl) (fun _ _ _ h => h) (Or.inl ⟨by rfl, ?_⟩) hS ?_
        rotate_left
        · intro w hSw
          try dsimp only at hSw
          go_simp
          all_goals with_reducible rfl
        simp only [Act.put, List.setIfInBounds_toArray, List.set_cons_zero, List.set_cons_succ]
        refine' wpAnyD_take (i := 1) (oi := ⟨some 110, _, _, _, _, _⟩) (v := _) rfl (by kernel_rfl) (by kernel_rfl) (by kernel_rfl) (by kernel_rfl) (fun _ _ _ h => h) (Or.inl ⟨by rfl, ?_⟩) hS ?_
        rotate_left
        · intro w hSw
          try dsimp only at hSw
          go_simp
          all_goals with_reducible rfl
        simp only [Act.put, List.setIfInBounds_toArray, List.set_cons_zero, List.set_cons_succ]
        refine' wpAnyD_take (i := 2) (oi := ⟨some 111, _, _, _, _, _⟩) (v := _) rfl (by kernel_rfl) (by kernel_rfl) (by kernel_rfl) (by kernel_rfl) (fun _ _ _ h => h) (Or.inl ⟨by rfl, ?_⟩) hS ?_
        rotate_left
        · intro w hSw
          try dsimp only at hSw
          go_simp
          all_goals with_reducible rfl
        simp only [Act.put, List.setIfInBounds_toArray, List.set_cons_zero, List.set_cons_succ]
        refine wpAnyD_ready (rs := [3]) (by kernel_rfl) (by simp) ?_
        refine AllReadyD.cons (o := ⟨some 112, _, _, _, _, _⟩) rfl (fun K hK => ?_) AllReadyD.nil
        go_simp
        refine hK.out _ _ (fun _ => hS) (fun _ => ?_)
        clear hK K
        refine wpAnyD_ready (rs := [4]) (by kernel_rfl) (by simp) ?_
        refine AllReadyD.cons (o := ⟨some 113, _, _, _, _, _⟩) rfl (fun K hK => ?_) AllReadyD.nil
        go_simp
        refine hK.out _ _ (fun _ => hS) (fun _ => ?_)
        clear hK K
        refine wpAnyD_ready (rs := [5]) (by kernel_rfl) (by simp) ?_
        refine AllReadyD.cons (o := ⟨some 114, _, _, _, _, _⟩) rfl (fun K hK => ?_) AllReadyD.nil
        go_simp
        refine hK.out _ _ (fun _ => hS) (fun _ => ?_)
        clear hK K
        refine wpAnyD_ready (rs := [6]) (by kernel_rfl) (by simp) ?_
        refine AllReadyD.cons (o := ⟨none, _, _, _, _, _⟩) rfl (fun K hK => ?_) AllReadyD.nil
        go_simp
        refine hK.out _ _ (fun h => absurd h (by decide)) (fun _ => ?_)
        clear hK K hS
        refine wpAnyD_done (by kernel_rfl) ?_ _
        go_wp2
        rw [Exit.noGoto_ret]
        go_ret
        have ht := (HT5.out.put (2 * (pN % 4) + 1) (by omega) ⟨a, pN, fr, rd, wb⟩).drew
        rw [pos_odd] at ht
        exact ⟨rfl, by rw [H1.out HV.out]; exact ht, (HM5.out.trans (stored5_mod (Mod.refl (· = g) wc) (g := g) (.inl rfl) (pN % 4 * 11 + 5) ⟨a, pN, fr, rd, wb⟩)).drew⟩
      · rw [hv]
        have HV := hide hv
        clear hv
        rcases HD.out with hd | hd
        · rw [hd] at d10
          have HDD := hide hd
          clear hd
          go_wp2
          clear d0 d1 d2 d3 d4 d5 d6 d7 d8 d9 d10 f0 f1 f2 f3 f4 f5 f6 f7 f8 f9 f10 q0 q1 q2 q3 q4
          have hTd := HT5.out.setDue (pN % 4) hs4 1
          have hmd := Mod.one g wc (pN % 4 * 11 + 10) (.int .i64 1)
          have hXd := HX5.out.mod hmd (by omega)
          generalize wc.setCell ⟨g, pN % 4 * 11 + 10, none⟩ (.int .i64 1) = we at hTd hmd hXd ⊢
          clear H0 H1 H3
          obtain ⟨q0, q1, q2, q3, q4⟩ := hXd.c5
          obtain ⟨⟨d0, d1, d2, d3, d4⟩, ⟨d5, d6, d7, d8, d9⟩, _⟩ := hTd.set_ (pN % 4) hs4
          have f0 := hTd.frozen (pN % 4 * 11)
          have f1 := hTd.frozen (pN % 4 * 11 + 1)
          have f2 := hTd.frozen (pN % 4 * 11 + 2)
          have f3 := hTd.frozen (pN % 4 * 11 + 3)
          have f4 := hTd.frozen (pN % 4 * 11 + 4)
          have f5 := hTd.frozen (pN % 4 * 11 + 5)
          have f6 := hTd.frozen (pN % 4 * 11 + 6)
          have f7 := hTd.frozen (pN % 4 * 11 + 7)
          have f8 := hTd.frozen (pN % 4 * 11 + 8)
          have f9 := hTd.frozen (pN % 4 * 11 + 9)
          have hgl2 := hTd.lt
          have HTD := hide hTd
          have HMD := hide hmd
          clear hTd hmd hXd
          have hS : (fun w' : World => w'.cell? ⟨w.heap.size, 0, none⟩ = some (.int .i64 a) ∧ w'.cell? ⟨w.heap.size, 1, none⟩ = some (.int .i64 (pN : Int)) ∧ w'.cell? ⟨w.heap.size, 2, none⟩ = some (.int .i64 fr) ∧ w'.cell? ⟨w.heap.size, 3, none⟩ = some (.bool rd) ∧ w'.cell? ⟨w.heap.size, 4, none⟩ = some (.bool wb)) we.drew := ⟨q0, q1, q2, q3, q4⟩
          refine wp_region_D 6 (fun w' => w'.cell? ⟨w.heap.size, 0, none⟩ = some (.int .i64 a) ∧ w'.cell? ⟨w.heap.size, 1, none⟩ = some (.int .i64 (pN : Int)) ∧ w'.cell? ⟨w.heap.size, 2, none⟩ = some (.int .i64 fr) ∧ w'.cell? ⟨w.heap.size, 3, none⟩ = some (.bool rd) ∧ w'.cell? ⟨w.heap.size, 4, none⟩ = some (.bool wb)) (by kernel_rfl) ?_
          refine' wpAnyD_take (i := 0) (oi := ⟨some 109, _, _, _, _, _⟩) (v := _) rfl (by kernel_rfl) (by kernel_rfl) (by kernel_rfl) (by kernel_rfl) (fun _ _ _ h => h) (Or.inl ⟨by rfl, ?_⟩) hS ?_
          rotate_left
          · intro w hSw
            try dsimp only at hSw
            go_simp
            all_goals with_reducible rfl
          simp only [Act.put, List.setIfInBounds_toArray, List.set_cons_zero, List.set_cons_succ]
          refine' wpAnyD_take (i := 1) (oi := ⟨some 110, _, _, _, _, _⟩) (v := _) rfl (by kernel_rfl) (by kernel_rfl) (by kernel_rfl) (by kernel_rfl) (fun _ _ _ h => h) (Or.inl ⟨by rfl, ?_⟩) hS ?_
          rotate_left
          · intro w hSw
            try dsimp only at hSw
            go_simp
            all_goals with_reducible rfl
          simp only [Act.put, List.setIfInBounds_toArray, List.set_cons_zero, List.set_cons_succ]
          refine' wpAnyD_take (i := 2) (oi := ⟨some 111, _, _, _, _, _⟩) (v := _) rfl (by kernel_rfl) (by kernel_rfl) (by kernel_rfl) (by kernel_rfl) (fun _ _ _ h => h) (Or.inl ⟨by rfl, ?_⟩) hS ?_
          rotate_left
          · intro w hSw
            try dsimp only at hSw
            go_simp
            all_goals with_reducible rfl
          simp only [Act.put, List.setIfInBounds_toArray, List.set_cons_zero, List.set_cons_succ]
          refine wpAnyD_ready (rs := [3]) (by kernel_rfl) (by simp) ?_
          refine AllReadyD.cons (o := ⟨some 112, _, _, _, _, _⟩) rfl (fun K hK => ?_) AllReadyD.nil
          go_simp
          refine hK.out _ _ (fun _ => hS) (fun _ => ?_)
          clear hK K
          refine wpAnyD_ready (rs := [4]) (by kernel_rfl) (by simp) ?_
          refine AllReadyD.cons (o := ⟨some 113, _, _, _, _, _⟩) rfl (fun K hK => ?_) AllReadyD.nil
          go_simp
          refine hK.out _ _ (fun _ => hS) (fun _ => ?_)
          clear hK K
          refine wpAnyD_ready (rs := [5]) (by kernel_rfl) (by simp) ?_
          refine AllReadyD.cons (o := ⟨some 114, _, _, _, _, _⟩) rfl (fun K hK => ?_) AllReadyD.nil
          go_simp
          refine hK.out _ _ (fun _ => hS) (fun _ => ?_)
          clear hK K
          refine wpAnyD_ready (rs := [6]) (by kernel_rfl) (by simp) ?_
          refine AllReadyD.cons (o := ⟨none, _, _, _, _, _⟩) rfl (fun K hK => ?_) AllReadyD.nil
          go_simp
          refine hK.out _ _ (fun h => absurd h (by decide)) (fun _ => ?_)
          clear hK K hS
          refine wpAnyD_done (by kernel_rfl) ?_ _
          go_wp2
          rw [Exit.noGoto_ret]
          go_ret
          have ht := (HTD.out.put (2 * (pN % 4)) (by omega) ⟨a, pN, fr, rd, wb⟩).drew
          rw [pos_even] at ht
          exact ⟨rfl, by rw [H2.out HV.out HDD.out]; exact ht, ((HM5.out.trans HMD.out).trans (stored5_mod (Mod.refl (· = g) we) (g := g) (.inl rfl) (pN % 4 * 11) ⟨a, pN, fr, rd, wb⟩)).drew⟩
        · rw [hd] at d10
          have HDD := hide hd
          clear hd
          go_wp2
          clear d0 d1 d2 d3 d4 d5 d6 d7 d8 d9 d10 f0 f1 f2 f3 f4 f5 f6 f7 f8 f9 f10 q0 q1 q2 q3 q4
          have hTd := HT5.out.setDue (pN % 4) hs4 0
          have hmd := Mod.one g wc (pN % 4 * 11 + 10) (.int .i64 0)
          have hXd := HX5.out.mod hmd (by omega)
          generalize wc.setCell ⟨g, pN % 4 * 11 + 10, none⟩ (.int .i64 0) = we at hTd hmd hXd ⊢
          clear H0 H1 H2
          obtain ⟨q0, q1, q2, q3, q4⟩ := hXd.c5
          obtain ⟨⟨d0, d1, d2, d3, d4⟩, ⟨d5, d6, d7, d8, d9⟩, _⟩ := hTd.set_ (pN % 4) hs4
          have f0 := hTd.frozen (pN % 4 * 11)
          have f1 := hTd.frozen (pN % 4 * 11 + 1)
          have f2 := hTd.frozen (pN % 4 * 11 + 2)
          have f3 := hTd.frozen (pN % 4 * 11 + 3)
          have f4 := hTd.frozen (pN % 4 * 11 + 4)
          have f5 := hTd.frozen (pN % 4 * 11 + 5)
          have f6 := hTd.frozen (pN % 4 * 11 + 6)
          have f7 := hTd.frozen (pN % 4 * 11 + 7)
          have f8 := hTd.frozen (pN % 4 * 11 + 8)
          have f9 := hTd.frozen (pN % 4 * 11 + 9)
          have hgl2 := hTd.lt
          have HTD := hide hTd
          have HMD := hide hmd
          clear hTd hmd hXd
          have hS : (fun w' : World => w'.cell? ⟨w.heap.size, 0, none⟩ = some (.int .i64 a) ∧ w'.cell? ⟨w.heap.size, 1, none⟩ = some (.int .i64 (pN : Int)) ∧ w'.cell? ⟨w.heap.size, 2, none⟩ = some (.int .i64 fr) ∧ w'.cell? ⟨w.heap.size, 3, none⟩ = some (.bool rd) ∧ w'.cell? ⟨w.heap.size, 4, none⟩ = some (.bool wb)) we.drew := ⟨q0, q1, q2, q3, q4⟩
          refine wp_region_D 6 (fun w' => w'.cell? ⟨w.heap.size, 0, none⟩ = some (.int .i64 a) ∧ w'.cell? ⟨w.heap.size, 1, none⟩ = some (.int .i64 (pN : Int)) ∧ w'.cell? ⟨w.heap.size, 2, none⟩ = some (.int .i64 fr) ∧ w'.cell? ⟨w.heap.size, 3, none⟩ = some (.bool rd) ∧ w'.cell? ⟨w.heap.size, 4, none⟩ = some (.bool wb)) (by kernel_rfl) ?_
          refine' wpAnyD_take (i := 0) (oi := ⟨some 109, _, _, _, _, _⟩) (v := _) rfl (by kernel_rfl) (by kernel_rfl) (by kernel_rfl) (by kernel_rfl) (fun _ _ _ h => h) (Or.inl ⟨by rfl, ?_⟩) hS ?_
          rotate_left
          · intro w hSw
            try dsimp only at hSw
            go_simp
            all_goals with_reducible rfl
          simp only [Act.put, List.setIfInBounds_toArray, List.set_cons_zero, List.set_cons_succ]
          refine' wpAnyD_take (i := 1) (oi := ⟨some 110, _, _, _, _, _⟩) (v := _) rfl (by kernel_rfl) (by kernel_rfl) (by kernel_rfl) (by kernel_rfl) (fun _ _ _ h => h) (Or.inl ⟨by rfl, ?_⟩) hS ?_
          rotate_left
          · intro w hSw
            try dsimp only at hSw
            go_simp
            all_goals with_reducible rfl
          simp only [Act.put, List.setIfInBounds_toArray, List.set_cons_zero, List.set_cons_succ]
          refine' wpAnyD_take (i := 2) (oi := ⟨some 111, _, _, _, _, _⟩) (v := _) rfl (by kernel_rfl) (by kernel_rfl) (by kernel_rfl) (by kernel_rfl) (fun _ _ _ h => h) (Or.inl ⟨by rfl, ?_⟩) hS ?_
          rotate_left
          · intro w hSw
            try dsimp only at hSw
            go_simp
            all_goals with_reducible rfl
          simp only [Act.put, List.setIfInBounds_toArray, List.set_cons_zero, List.set_cons_succ]
          refine wpAnyD_ready (rs := [3]) (by kernel_rfl) (by simp) ?_
          refine AllReadyD.cons (o := ⟨some 112, _, _, _, _, _⟩) rfl (fun K hK => ?_) AllReadyD.nil
          go_simp
          refine hK.out _ _ (fun _ => hS) (fun _ => ?_)
          clear hK K
          refine wpAnyD_ready (rs := [4]) (by kernel_rfl) (by simp) ?_
          refine AllReadyD.cons (o := ⟨some 113, _, _, _, _, _⟩) rfl (fun K hK => ?_) AllReadyD.nil
          go_simp
          refine hK.out _ _ (fun _ => hS) (fun _ => ?_)
          clear hK K
          refine wpAnyD_ready (rs := [5]) (by kernel_rfl) (by simp) ?_
          refine AllReadyD.cons (o := ⟨some 114, _, _, _, _, _⟩) rfl (fun K hK => ?_) AllReadyD.nil
          go_simp
          refine hK.out _ _ (fun _ => hS) (fun _ => ?_)
          clear hK K
          refine wpAnyD_ready (rs := [6]) (by kernel_rfl) (by simp) ?_
          refine AllReadyD.cons (o := ⟨none, _, _, _, _, _⟩) rfl (fun K hK => ?_) AllReadyD.nil
          go_simp
          refine hK.out _ _ (fun h => absurd h (by decide)) (fun _ => ?_)
          clear hK K hS
          refine wpAnyD_done (by kernel_rfl) ?_ _
          go_wp2
          rw [Exit.noGoto_ret]
          go_ret
          have ht := (HTD.out.put (2 * (pN % 4) + 1) (by omega) ⟨a, pN, fr, rd, wb⟩).drew
          rw [pos_odd] at ht
          exact ⟨rfl, by rw [H3.out HV.out HDD.out]; exact ht, ((HM5.out.trans HMD.out).trans (stored5_mod (Mod.refl (· = g) we) (g := g) (.inl rfl) (pN % 4 * 11 + 5) ⟨a, pN, fr, rd, wb⟩)).drew⟩
end Go.Proofs.Ytlfenakabedmfaa
