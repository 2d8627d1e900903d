/- The walk of TlbDropped: it returns true. -/
import Derived.Test.YtfjhchcnhmafkaaLaw6
import Derived.Test.YtfjhchcnhmafkaaTlbR
namespace Go.Proofs.Ytfjhchcnhmafkaa
open Go.RowKit Go.Shelf
/-- What TlbDropped drops. -/
def isDrop (all : Bool) (sp pg : Int) : Tr → Bool := if all then isSpace sp else isPage sp pg
theorem isDrop_eq (all : Bool) (sp pg : Int) (y : Tr) : isDrop all sp pg y = (y.sp == sp && (all || y.pg == pg)) := by
  cases all <;> simp [isDrop, isSpace, isPage]
set_option maxRecDepth 100000 in
set_option maxHeartbeats 8000000 in
theorem law_TlbDropped (w : World) (A : Option Addr) (n ca : Nat) (xs : Nat → Act6) (sp pg : Int) (all : Bool) (hA : Acts6 w A n xs) (hn : n ≤ 9223372036854775807) (_ : (Lit.int .i64 sp).wf = true) (_ : (Lit.int .i64 pg).wf = true) :
    Calls Try.prog 7 #[.slice A n ca, .int .i64 sp, .int .i64 pg, .bool all] w fun e w' => e = .returned (.bool true) ∧ Below w.heap.size w w' := by
  have HA := hide hA
  clear hA
  by_cases h1 : 120 < n
  · go_enter Try.func7, Try.ntmps7
    go_wp2_with fail
    refine (awake6 _).mono ?_
    rintro e w1 ⟨rfl, hb⟩
    have HB := hide hb
    clear hb
    go_wp2_with fail
    go_ret
    exact ⟨rfl, HB.out⟩
  have hn1 : n ≤ 120 := by omega
  go_enter Try.func7, Try.ntmps7
  go_wp2_with fail
  refine (played_any w A n ca xs HA.out hn).mono ?_
  rintro e w1 ⟨rfl, ⟨c, hT, hG⟩, hb⟩
  have HT := hide hT
  have HG := hide hG
  have HB := hide hb
  have hl := hT.lt
  clear hT hG hb
  go_wp2_with fail
  refine (all_rows _ _ _ HT.out).mono ?_
  rintro e w2 ⟨R, cap, rfl, hr, hb⟩
  have HT2 := hide (HT.out.below hb hl)
  have HB2 := hide (HB.out.trans (hb.mono HB.out.size))
  have HR := hide hr
  have hl2 := HT2.out.lt
  obtain ⟨N, hN⟩ : ∃ N, (vis c 8).length = N := ⟨_, rfl⟩
  have hN8 : N ≤ 8 := by rw [← hN]; exact vis_len c 8
  rw [hN]
  have HN := hide hN
  obtain ⟨B0, hB0⟩ : ∃ B0, w1.heap.size = B0 := ⟨_, rfl⟩
  clear hr hb HT HB hN
  have hlB : w.heap.size < B0 := by omega
  rw [hB0, HN.out] at HR
  clear hB0 hl
  cases all with
  | true =>
    go_wp2_with fail
    refine (dropSpace_in _ _ sp _ HT2.out).mono ?_
    rintro e w3 ⟨rfl, hT3, hm3⟩
    have HT3 := hide hT3
    have HR3 := hide (HR.out.mod hm3 (fun k e => by omega))
    have HB3 := hide (below_mod HB2.out (Nat.le_refl _) hm3 (fun k e => by omega))
    clear hT3 hm3 HT2 HR HB2 hl2
    go_wp2_with fail
    go_loopw [11, 12] (fun s11 i wr => ∃ m : Nat, m ≤ N ∧ s11 = .int .i64 ((dropN c (isSpace sp) (vis c 8) : Nat) - (dropN c (isSpace sp) ((vis c 8).take m) : Nat) : Int) ∧ i = .int .i64 m ∧ TlbAt wr w.heap.size (dropAt c (isSpace sp) (vis c 8)) ∧ RowsAt wr B0 R N (ts c) ∧ Below w.heap.size w wr) (fun _ i _ => N - (intOf i).toNat)
    case atStart => exact ⟨0, Nat.zero_le _, by simp [dropN], rfl, HT3.out, HR3.out, HB3.out⟩
    case round =>
      obtain ⟨m, hm, rfl, rfl, hT, hr, hb⟩ := hrel
      have hd1 := dropN_take c (isSpace sp) m
      have hd2 : dropN c (isSpace sp) (vis c 8) ≤ 8 := Nat.le_trans (dropN_le _ _ _) (vis_len c 8)
      have hd3 : (0 : Int) ≤ ((dropN c (isSpace sp) (vis c 8) : Nat) : Int) - ((dropN c (isSpace sp) ((vis c 8).take m) : Nat) : Int) := by omega
      have hd4 : ((dropN c (isSpace sp) (vis c 8) : Nat) : Int) - ((dropN c (isSpace sp) ((vis c 8).take m) : Nat) : Int) ≤ 8 := by omega
      have HT4 := hide hT
      have HR4 := hide hr
      have HB4 := hide hb
      have hlg := hT.lt
      clear hT hr hb HT3 HR3 HB3
      by_cases hlt : m < N
      · have hfnd := HG.out.found (isSpace sp) (i := m) (by rw [HN.out]; exact hlt)
        have htk := take_nth (c := c) (i := m) (by rw [HN.out]; exact hlt)
        obtain ⟨gr, rfl, hBg, hgl, hcell⟩ := HR4.out.resolve_left (by omega)
        obtain ⟨p0, p1, _, _, _⟩ := hcell m hlt
        have i1 : (0 : Int) ≤ (m : Int) := by omega
        have i2 : (m : Int) < (N : Int) := by omega
        have HF := hide hfnd
        have HTK := hide htk
        clear hcell hfnd htk
        cases h1 : (ts c m).sp == sp with
        | true =>
          have hP : (isSpace sp) (ts c m) = true := h1
          have hf2 := HF.out
          rw [hP] at hf2
          have HF2 := hide (show findOk (dropAt c (isSpace sp) (vis c 8)) (ts c m).sp (ts c m).pg = false from hf2)
          have HPP := hide hP
          clear hf2 hP HF
          go_wp2
          have hz := ((Below.refl wr.heap.size wr).alloc (Nat.le_refl _) (.cells #[.int .i64 0, .int .i64 0, .int .i64 0, .bool false, .bool false] 28)).drew
          have HX5 := hide ((Blk.new wr 28 #[.int .i64 0, .int .i64 0, .int .i64 0, .bool false, .bool false]).drew)
          have HT5 := hide (HT4.out.below hz hlg)
          have HZ := hide hz
          clear hz
          go_region_held3 (fun w' => w'.cell? ⟨gr, m * 5, none⟩ = some (.int .i64 (ts c m).sp) ∧ w'.cell? ⟨gr, m * 5 + 1, none⟩ = some (.int .i64 (ts c m).pg) ∧ Mod (fun k => wr.heap.size ≤ k) wr w') (first | (with_reducible exact Two.start p0 p1) | (with_reducible exact Two.of p0 p1 hgl (((Mod.refl (fun k => wr.heap.size ≤ k) wr).alloc _).drew)) | (with_reducible exact Two.alloc hgl p0 p1 hS6) | (with_reducible exact Two.alloc hgl p0 p1 (by assumption)) | (with_reducible exact Two.alloc' hgl p0 p1 (by assumption)) | (with_reducible exact Two.call hgl p0 p1 hb6 (by assumption)) | (with_reducible exact Two.set5 hgl p0 p1 (Nat.le_refl _) (by assumption)) | (with_reducible exact Two.set5 hgl p0 p1 hle (by assumption))) ((first
            | (go_at_call 16; refine (find_in _ _ _ _ _ HT5.out).mono ?_; rintro e w6 ⟨rfl, hb6⟩; rw [HF2.out]; unfold Tr.row; have hx6 := HX5.out.below hb6 HX5.out.lt; have x0 := hx6.cell 0; have x1 := hx6.cell 1; have x2 := hx6.cell 2; have x3 := hx6.cell 3; have x4 := hx6.cell 4; have y0 := hx6.frozen 0; have y1 := hx6.frozen 1; have y2 := hx6.frozen 2; have y3 := hx6.frozen 3; have y4 := hx6.frozen 4)
            | (go_at_call 16; refine (find_in _ _ _ _ _ HT4.out.drew).mono ?_; rintro e w6 ⟨rfl, hb6⟩; rw [HF2.out]; unfold Tr.row; have hle : wr.heap.size ≤ w6.heap.size := hb6.size; have hS6 := Two.of p0 p1 hgl ((Mod.refl (fun k => wr.heap.size ≤ k) wr).drew.trans (Mod.of_below hb6 _)))))
          all_goals
            rename_i hH
            have HT6 := hide (HT4.out.mod hH.2.2 (by omega))
            have HR6 := hide (HR4.out.mods hH.2.2 (by omega))
            have HB6 := hide (below_mod HB4.out (Nat.le_refl _) hH.2.2 (fun k e => by omega))
            clear hH
            go_wp2
            go_roundw
            case rel => exact ⟨m + 1, by omega, by rw [HTK.out, dropN_yes HPP.out]; push_cast; congr 1; omega, by simp, HT6.out, HR6.out, HB6.out⟩
            case measure => simp [intOf]; omega
        | false =>
          have hP : (isSpace sp) (ts c m) = false := h1
          have hf2 := HF.out
          rw [hP] at hf2
          have HF2 := hide (show findOk (dropAt c (isSpace sp) (vis c 8)) (ts c m).sp (ts c m).pg = true from hf2)
          have HPP := hide hP
          clear hf2 hP HF
          go_wp2
          have hz := ((Below.refl wr.heap.size wr).alloc (Nat.le_refl _) (.cells #[.int .i64 0, .int .i64 0, .int .i64 0, .bool false, .bool false] 28)).drew
          have HX5 := hide ((Blk.new wr 28 #[.int .i64 0, .int .i64 0, .int .i64 0, .bool false, .bool false]).drew)
          have HT5 := hide (HT4.out.below hz hlg)
          have HZ := hide hz
          clear hz
          go_region_held3 (fun w' => w'.cell? ⟨gr, m * 5, none⟩ = some (.int .i64 (ts c m).sp) ∧ w'.cell? ⟨gr, m * 5 + 1, none⟩ = some (.int .i64 (ts c m).pg) ∧ Mod (fun k => wr.heap.size ≤ k) wr w') (first | (with_reducible exact Two.start p0 p1) | (with_reducible exact Two.of p0 p1 hgl (((Mod.refl (fun k => wr.heap.size ≤ k) wr).alloc _).drew)) | (with_reducible exact Two.alloc hgl p0 p1 hS6) | (with_reducible exact Two.alloc hgl p0 p1 (by assumption)) | (with_reducible exact Two.alloc' hgl p0 p1 (by assumption)) | (with_reducible exact Two.call hgl p0 p1 hb6 (by assumption)) | (with_reducible exact Two.set5 hgl p0 p1 (Nat.le_refl _) (by assumption)) | (with_reducible exact Two.set5 hgl p0 p1 hle (by assumption))) ((first
            | (go_at_call 16; refine (find_in _ _ _ _ _ HT5.out).mono ?_; rintro e w6 ⟨rfl, hb6⟩; rw [HF2.out]; unfold Tr.row; have hx6 := HX5.out.below hb6 HX5.out.lt; have x0 := hx6.cell 0; have x1 := hx6.cell 1; have x2 := hx6.cell 2; have x3 := hx6.cell 3; have x4 := hx6.cell 4; have y0 := hx6.frozen 0; have y1 := hx6.frozen 1; have y2 := hx6.frozen 2; have y3 := hx6.frozen 3; have y4 := hx6.frozen 4)
            | (go_at_call 16; refine (find_in _ _ _ _ _ HT4.out.drew).mono ?_; rintro e w6 ⟨rfl, hb6⟩; rw [HF2.out]; unfold Tr.row; have hle : wr.heap.size ≤ w6.heap.size := hb6.size; have hS6 := Two.of p0 p1 hgl ((Mod.refl (fun k => wr.heap.size ≤ k) wr).drew.trans (Mod.of_below hb6 _)))))
          all_goals
            rename_i hH
            have HT6 := hide (HT4.out.mod hH.2.2 (by omega))
            have HR6 := hide (HR4.out.mods hH.2.2 (by omega))
            have HB6 := hide (below_mod HB4.out (Nat.le_refl _) hH.2.2 (fun k e => by omega))
            clear hH
            go_wp2
            go_roundw
            case rel => exact ⟨m + 1, by omega, by rw [HTK.out, dropN_no HPP.out], by simp, HT6.out, HR6.out, HB6.out⟩
            case measure => simp [intOf]; omega
      · have e1 : dropN c (isSpace sp) ((vis c 8).take m) = dropN c (isSpace sp) (vis c 8) := take_len c _ (by rw [HN.out]; omega)
        rw [e1]
        have e2 : ((dropN c (isSpace sp) (vis c 8) : Nat) : Int) - ((dropN c (isSpace sp) (vis c 8) : Nat) : Int) = 0 := by omega
        rw [e2]
        clear e1 e2 hd1 hd2 hd3 hd4
        go_wp2_with fail
        refine (awake6 _).mono ?_
        rintro e w5 ⟨rfl, hb⟩
        have HB5 := hide (HB4.out.trans (hb.mono HB4.out.size))
        clear hb HB4
        go_wp2_with fail
        go_ret
        exact ⟨rfl, HB5.out⟩
  | false =>
    go_wp2_with fail
    refine (dropPage_in _ _ sp pg _ HT2.out).mono ?_
    rintro e w3 ⟨rfl, hT3, hm3⟩
    have HT3 := hide hT3
    have HR3 := hide (HR.out.mod hm3 (fun k e => by omega))
    have HB3 := hide (below_mod HB2.out (Nat.le_refl _) hm3 (fun k e => by omega))
    clear hT3 hm3 HT2 HR HB2 hl2
    go_wp2_with fail
    go_loopw [11, 12] (fun s11 i wr => ∃ m : Nat, m ≤ N ∧ s11 = .int .i64 ((dropN c (isPage sp pg) (vis c 8) : Nat) - (dropN c (isPage sp pg) ((vis c 8).take m) : Nat) : Int) ∧ i = .int .i64 m ∧ TlbAt wr w.heap.size (dropAt c (isPage sp pg) (vis c 8)) ∧ RowsAt wr B0 R N (ts c) ∧ Below w.heap.size w wr) (fun _ i _ => N - (intOf i).toNat)
    case atStart => exact ⟨0, Nat.zero_le _, by simp [dropN], rfl, HT3.out, HR3.out, HB3.out⟩
    case round =>
      obtain ⟨m, hm, rfl, rfl, hT, hr, hb⟩ := hrel
      have hd1 := dropN_take c (isPage sp pg) m
      have hd2 : dropN c (isPage sp pg) (vis c 8) ≤ 8 := Nat.le_trans (dropN_le _ _ _) (vis_len c 8)
      have hd3 : (0 : Int) ≤ ((dropN c (isPage sp pg) (vis c 8) : Nat) : Int) - ((dropN c (isPage sp pg) ((vis c 8).take m) : Nat) : Int) := by omega
      have hd4 : ((dropN c (isPage sp pg) (vis c 8) : Nat) : Int) - ((dropN c (isPage sp pg) ((vis c 8).take m) : Nat) : Int) ≤ 8 := by omega
      have HT4 := hide hT
      have HR4 := hide hr
      have HB4 := hide hb
      have hlg := hT.lt
      clear hT hr hb HT3 HR3 HB3
      by_cases hlt : m < N
      · have hfnd := HG.out.found (isPage sp pg) (i := m) (by rw [HN.out]; exact hlt)
        have htk := take_nth (c := c) (i := m) (by rw [HN.out]; exact hlt)
        obtain ⟨gr, rfl, hBg, hgl, hcell⟩ := HR4.out.resolve_left (by omega)
        obtain ⟨p0, p1, _, _, _⟩ := hcell m hlt
        have i1 : (0 : Int) ≤ (m : Int) := by omega
        have i2 : (m : Int) < (N : Int) := by omega
        have HF := hide hfnd
        have HTK := hide htk
        clear hcell hfnd htk
        cases h1 : (ts c m).sp == sp with
        | true =>
          cases h2 : (ts c m).pg == pg with
          | true =>
            have hP : (isPage sp pg) (ts c m) = true := by unfold isPage; rw [h1, h2]; rfl
            have hf2 := HF.out
            rw [hP] at hf2
            have HF2 := hide (show findOk (dropAt c (isPage sp pg) (vis c 8)) (ts c m).sp (ts c m).pg = false from hf2)
            have HPP := hide hP
            clear hf2 hP HF
            go_wp2
            have hz := ((Below.refl wr.heap.size wr).alloc (Nat.le_refl _) (.cells #[.int .i64 0, .int .i64 0, .int .i64 0, .bool false, .bool false] 28)).drew
            have HX5 := hide ((Blk.new wr 28 #[.int .i64 0, .int .i64 0, .int .i64 0, .bool false, .bool false]).drew)
            have HT5 := hide (HT4.out.below hz hlg)
            have HZ := hide hz
            clear hz
            go_region_held3 (fun w' => w'.cell? ⟨gr, m * 5, none⟩ = some (.int .i64 (ts c m).sp) ∧ w'.cell? ⟨gr, m * 5 + 1, none⟩ = some (.int .i64 (ts c m).pg) ∧ Mod (fun k => wr.heap.size ≤ k) wr w') (first | (with_reducible exact Two.start p0 p1) | (with_reducible exact Two.of p0 p1 hgl (((Mod.refl (fun k => wr.heap.size ≤ k) wr).alloc _).drew)) | (with_reducible exact Two.alloc hgl p0 p1 hS6) | (with_reducible exact Two.alloc hgl p0 p1 (by assumption)) | (with_reducible exact Two.alloc' hgl p0 p1 (by assumption)) | (with_reducible exact Two.call hgl p0 p1 hb6 (by assumption)) | (with_reducible exact Two.set5 hgl p0 p1 (Nat.le_refl _) (by assumption)) | (with_reducible exact Two.set5 hgl p0 p1 hle (by assumption))) ((first
              | (go_at_call 16; refine (find_in _ _ _ _ _ HT5.out).mono ?_; rintro e w6 ⟨rfl, hb6⟩; rw [HF2.out]; unfold Tr.row; have hx6 := HX5.out.below hb6 HX5.out.lt; have x0 := hx6.cell 0; have x1 := hx6.cell 1; have x2 := hx6.cell 2; have x3 := hx6.cell 3; have x4 := hx6.cell 4; have y0 := hx6.frozen 0; have y1 := hx6.frozen 1; have y2 := hx6.frozen 2; have y3 := hx6.frozen 3; have y4 := hx6.frozen 4)
              | (go_at_call 16; refine (find_in _ _ _ _ _ HT4.out.drew).mono ?_; rintro e w6 ⟨rfl, hb6⟩; rw [HF2.out]; unfold Tr.row; have hle : wr.heap.size ≤ w6.heap.size := hb6.size; have hS6 := Two.of p0 p1 hgl ((Mod.refl (fun k => wr.heap.size ≤ k) wr).drew.trans (Mod.of_below hb6 _)))))
            all_goals
              rename_i hH
              have HT6 := hide (HT4.out.mod hH.2.2 (by omega))
              have HR6 := hide (HR4.out.mods hH.2.2 (by omega))
              have HB6 := hide (below_mod HB4.out (Nat.le_refl _) hH.2.2 (fun k e => by omega))
              clear hH
              go_wp2
              go_roundw
              case rel => exact ⟨m + 1, by omega, by rw [HTK.out, dropN_yes HPP.out]; push_cast; congr 1; omega, by simp, HT6.out, HR6.out, HB6.out⟩
              case measure => simp [intOf]; omega
          | false =>
            have hP : (isPage sp pg) (ts c m) = false := by unfold isPage; rw [h1, h2]; rfl
            have hf2 := HF.out
            rw [hP] at hf2
            have HF2 := hide (show findOk (dropAt c (isPage sp pg) (vis c 8)) (ts c m).sp (ts c m).pg = true from hf2)
            have HPP := hide hP
            clear hf2 hP HF
            go_wp2
            have hz := ((Below.refl wr.heap.size wr).alloc (Nat.le_refl _) (.cells #[.int .i64 0, .int .i64 0, .int .i64 0, .bool false, .bool false] 28)).drew
            have HX5 := hide ((Blk.new wr 28 #[.int .i64 0, .int .i64 0, .int .i64 0, .bool false, .bool false]).drew)
            have HT5 := hide (HT4.out.below hz hlg)
            have HZ := hide hz
            clear hz
            go_region_held3 (fun w' => w'.cell? ⟨gr, m * 5, none⟩ = some (.int .i64 (ts c m).sp) ∧ w'.cell? ⟨gr, m * 5 + 1, none⟩ = some (.int .i64 (ts c m).pg) ∧ Mod (fun k => wr.heap.size ≤ k) wr w') (first | (with_reducible exact Two.start p0 p1) | (with_reducible exact Two.of p0 p1 hgl (((Mod.refl (fun k => wr.heap.size ≤ k) wr).alloc _).drew)) | (with_reducible exact Two.alloc hgl p0 p1 hS6) | (with_reducible exact Two.alloc hgl p0 p1 (by assumption)) | (with_reducible exact Two.alloc' hgl p0 p1 (by assumption)) | (with_reducible exact Two.call hgl p0 p1 hb6 (by assumption)) | (with_reducible exact Two.set5 hgl p0 p1 (Nat.le_refl _) (by assumption)) | (with_reducible exact Two.set5 hgl p0 p1 hle (by assumption))) ((first
              | (go_at_call 16; refine (find_in _ _ _ _ _ HT5.out).mono ?_; rintro e w6 ⟨rfl, hb6⟩; rw [HF2.out]; unfold Tr.row; have hx6 := HX5.out.below hb6 HX5.out.lt; have x0 := hx6.cell 0; have x1 := hx6.cell 1; have x2 := hx6.cell 2; have x3 := hx6.cell 3; have x4 := hx6.cell 4; have y0 := hx6.frozen 0; have y1 := hx6.frozen 1; have y2 := hx6.frozen 2; have y3 := hx6.frozen 3; have y4 := hx6.frozen 4)
              | (go_at_call 16; refine (find_in _ _ _ _ _ HT4.out.drew).mono ?_; rintro e w6 ⟨rfl, hb6⟩; rw [HF2.out]; unfold Tr.row; have hle : wr.heap.size ≤ w6.heap.size := hb6.size; have hS6 := Two.of p0 p1 hgl ((Mod.refl (fun k => wr.heap.size ≤ k) wr).drew.trans (Mod.of_below hb6 _)))))
            all_goals
              rename_i hH
              have HT6 := hide (HT4.out.mod hH.2.2 (by omega))
              have HR6 := hide (HR4.out.mods hH.2.2 (by omega))
              have HB6 := hide (below_mod HB4.out (Nat.le_refl _) hH.2.2 (fun k e => by omega))
              clear hH
              go_wp2
              go_roundw
              case rel => exact ⟨m + 1, by omega, by rw [HTK.out, dropN_no HPP.out], by simp, HT6.out, HR6.out, HB6.out⟩
              case measure => simp [intOf]; omega
        | false =>
          have hP : (isPage sp pg) (ts c m) = false := by unfold isPage; rw [h1]; rfl
          have hf2 := HF.out
          rw [hP] at hf2
          have HF2 := hide (show findOk (dropAt c (isPage sp pg) (vis c 8)) (ts c m).sp (ts c m).pg = true from hf2)
          have HPP := hide hP
          clear hf2 hP HF
          go_wp2
          have hz := ((Below.refl wr.heap.size wr).alloc (Nat.le_refl _) (.cells #[.int .i64 0, .int .i64 0, .int .i64 0, .bool false, .bool false] 28)).drew
          have HX5 := hide ((Blk.new wr 28 #[.int .i64 0, .int .i64 0, .int .i64 0, .bool false, .bool false]).drew)
          have HT5 := hide (HT4.out.below hz hlg)
          have HZ := hide hz
          clear hz
          go_region_held3 (fun w' => w'.cell? ⟨gr, m * 5, none⟩ = some (.int .i64 (ts c m).sp) ∧ w'.cell? ⟨gr, m * 5 + 1, none⟩ = some (.int .i64 (ts c m).pg) ∧ Mod (fun k => wr.heap.size ≤ k) wr w') (first | (with_reducible exact Two.start p0 p1) | (with_reducible exact Two.of p0 p1 hgl (((Mod.refl (fun k => wr.heap.size ≤ k) wr).alloc _).drew)) | (with_reducible exact Two.alloc hgl p0 p1 hS6) | (with_reducible exact Two.alloc hgl p0 p1 (by assumption)) | (with_reducible exact Two.alloc' hgl p0 p1 (by assumption)) | (with_reducible exact Two.call hgl p0 p1 hb6 (by assumption)) | (with_reducible exact Two.set5 hgl p0 p1 (Nat.le_refl _) (by assumption)) | (with_reducible exact Two.set5 hgl p0 p1 hle (by assumption))) ((first
            | (go_at_call 16; refine (find_in _ _ _ _ _ HT5.out).mono ?_; rintro e w6 ⟨rfl, hb6⟩; rw [HF2.out]; unfold Tr.row; have hx6 := HX5.out.below hb6 HX5.out.lt; have x0 := hx6.cell 0; have x1 := hx6.cell 1; have x2 := hx6.cell 2; have x3 := hx6.cell 3; have x4 := hx6.cell 4; have y0 := hx6.frozen 0; have y1 := hx6.frozen 1; have y2 := hx6.frozen 2; have y3 := hx6.frozen 3; have y4 := hx6.frozen 4)
            | (go_at_call 16; refine (find_in _ _ _ _ _ HT4.out.drew).mono ?_; rintro e w6 ⟨rfl, hb6⟩; rw [HF2.out]; unfold Tr.row; have hle : wr.heap.size ≤ w6.heap.size := hb6.size; have hS6 := Two.of p0 p1 hgl ((Mod.refl (fun k => wr.heap.size ≤ k) wr).drew.trans (Mod.of_below hb6 _)))))
          all_goals
            rename_i hH
            have HT6 := hide (HT4.out.mod hH.2.2 (by omega))
            have HR6 := hide (HR4.out.mods hH.2.2 (by omega))
            have HB6 := hide (below_mod HB4.out (Nat.le_refl _) hH.2.2 (fun k e => by omega))
            clear hH
            go_wp2
            go_roundw
            case rel => exact ⟨m + 1, by omega, by rw [HTK.out, dropN_no HPP.out], by simp, HT6.out, HR6.out, HB6.out⟩
            case measure => simp [intOf]; omega
      · have e1 : dropN c (isPage sp pg) ((vis c 8).take m) = dropN c (isPage sp pg) (vis c 8) := take_len c _ (by rw [HN.out]; omega)
        rw [e1]
        have e2 : ((dropN c (isPage sp pg) (vis c 8) : Nat) : Int) - ((dropN c (isPage sp pg) (vis c 8) : Nat) : Int) = 0 := by omega
        rw [e2]
        clear e1 e2 hd1 hd2 hd3 hd4
        go_wp2_with fail
        refine (awake6 _).mono ?_
        rintro e w5 ⟨rfl, hb⟩
        have HB5 := hide (HB4.out.trans (hb.mono HB4.out.size))
        clear hb HB4
        go_wp2_with fail
        go_ret
        exact ⟨rfl, HB5.out⟩
end Go.Proofs.Ytfjhchcnhmafkaa
