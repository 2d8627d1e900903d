/- The walk of TlbScript: it returns true. -/
import Derived.Test.YtfjhchcnhmafkaaLaw6e
import Derived.Test.YtfjhchcnhmafkaaRef6e
import Derived.Test.YtfjhchcnhmafkaaOver6
namespace Go.Proofs.Ytfjhchcnhmafkaa
open Go.RowKit Go.Shelf
theorem owns_below {w w' : World} {base : Nat} {e : TypeId} {size : Nat} {v : Value} {n : Nat} {xs : List Value} (h : w.ownsRow base e size v n xs) (hb : Below w.heap.size w w') : w'.ownsRow base e size v n xs :=
  ⟨h.1, h.2.imp id fun ⟨g, cap, cur, e1, e2, hg, r⟩ => ⟨g, cap, cur, e1, e2, (hb.block g (Array.getElem?_eq_some_iff.1 hg).1).trans hg, r⟩⟩
theorem isPage_R (sp pg : Int) (h : pg ≠ -1) : isPage sp pg = isDropR false sp pg := by
  funext y
  have e : (pg == -1) = false := by simpa using h
  simp [isPage, isDropR, e]
theorem isSpace_R (sp : Int) : isSpace sp = isDropR false sp (-1) := by
  funext y
  simp [isSpace, isDropR]
theorem isAll_R : (fun _ => true : Tr → Bool) = isDropR true 0 0 := by
  funext y
  rfl
theorem dropPage_R (g : Nat) (c : Cache) (sp pg : Int) (w : World) (hT : TlbAt w g c) (h : pg ≠ -1) :
    Calls Try.prog 30 #[.pointer (some ⟨g, 0, none⟩), .int .i64 sp, .int .i64 pg] w fun e w' => e = .returned (.int .i64 (dropN c (isDropR false sp pg) (vis c 8))) ∧ TlbAt w' g (dropAt c (isDropR false sp pg) (vis c 8)) ∧ Mod (· = g) w w' := by
  rw [← isPage_R sp pg h]
  exact dropPage_in g c sp pg w hT
theorem dropSpace_R (g : Nat) (c : Cache) (sp : Int) (w : World) (hT : TlbAt w g c) :
    Calls Try.prog 29 #[.pointer (some ⟨g, 0, none⟩), .int .i64 sp] w fun e w' => e = .returned (.int .i64 (dropN c (isDropR false sp (-1)) (vis c 8))) ∧ TlbAt w' g (dropAt c (isDropR false sp (-1)) (vis c 8)) ∧ Mod (· = g) w w' := by
  rw [← isSpace_R sp]
  exact dropSpace_in g c sp w hT
theorem dropAll_R (g : Nat) (c : Cache) (w : World) (hT : TlbAt w g c) :
    Calls Try.prog 37 #[.pointer (some ⟨g, 0, none⟩)] w fun e w' => e = .returned (.int .i64 (dropN c (isDropR true 0 0) (vis c 8))) ∧ TlbAt w' g (dropAt c (isDropR true 0 0) (vis c 8)) ∧ Mod (· = g) w w' := by
  rw [← isAll_R]
  exact dropAll_in g c w hT
set_option maxRecDepth 100000 in
set_option maxHeartbeats 16000000 in
theorem law_TlbScript (w : World) (A : Option Addr) (n ca : Nat) (xs : Nat → Act6) (hA : Acts6 w A n xs) (hn : n ≤ 9223372036854775807) :
    Calls Try.prog 9 #[.slice A n ca] w fun e w' => e = .returned (.bool true) ∧ Below w.heap.size w w' := by
  have HA := hide hA
  clear hA
  by_cases h1 : 120 < n
  · go_enter Try.func9, Try.ntmps9
    go_wp2_with fail
    refine (awake6 _).mono ?_
    rintro e w1 ⟨rfl, hb⟩
    have HB := hide hb
    clear hb
    go_wp2_with fail
    go_ret
    exact ⟨rfl, HB.out⟩
  have hn1 : n ≤ 120 := by omega
  go_enter Try.func9, Try.ntmps9
  go_wp2_with fail
  refine (tnew_any _).mono ?_
  rintro e w1 ⟨rfl, hT, hb⟩
  have hal := (Below.refl w1.heap.size w1).alloc (Nat.le_refl _) (.cells zeros44r 65)
  have HT := hide (hT.below hal hT.lt)
  have HR := hide (Ref6At.new w1)
  have HB := hide (hb.trans (hal.mono hb.size))
  have hl := hT.lt
  clear hT hb hal
  go_wp2_with fail
  obtain ⟨gr, hgr⟩ : ∃ gr, w1.heap.size = gr := ⟨_, rfl⟩
  rw [hgr] at HR hl ⊢
  clear hgr
  go_loopw [5] (fun i wr => ∃ (m : Nat) (c : Cache), m ≤ n ∧ i = .int .i64 m ∧ TlbAt wr w.heap.size c ∧ Ref6At wr gr c ∧ Good c ∧ Below w.heap.size w wr) (fun i _ => n - (intOf i).toNat)
  case atStart => exact ⟨0, _, Nat.zero_le _, rfl, HT.out, HR.out, Good.empty, HB.out⟩
  case round =>
    obtain ⟨m, c, hm, rfl, hT, hR, hG, hB⟩ := hrel
    have HT2 := hide hT
    have HR2 := hide hR
    have HG := hide hG
    have HB2 := hide hB
    clear hT hR hG hB HT HB HR
    by_cases hlt : m < n
    · obtain ⟨b, off, rfl, hbl, hc⟩ := HA.out.resolve_left (by omega)
      obtain ⟨c0, c1, c2, c3, c4, c5, c6, c7⟩ := hc m hlt
      rw [← cell_below HB2.out hbl] at c0 c1 c2 c3 c4 c5 c6 c7
      have i1 : (0 : Int) ≤ (m : Int) := by omega
      have i2 : (m : Int) < (n : Int) := by omega
      clear hc
      generalize hq : xs m = q at c0 c1 c2 c3 c4 c5 c6 c7
      clear hq
      obtain ⟨d, ⟨xa, xb, xc, xd, xe⟩, es, ek⟩ := q
      dsimp only at c0 c1 c2 c3 c4 c5 c6 c7
      go_upto_block 2 with fail
      go_cut [7] (fun s7 wx => s7 = .bool true ∧ (∃ c', TlbAt wx w.heap.size c' ∧ Ref6At wx gr c' ∧ Good c') ∧ Below w.heap.size w wx)
      case first =>
        have hx0 := Blk.new wr 67 #[.int .i64 d, .int .i64 xa, .int .i64 xb, .int .i64 xc, .bool xd, .bool xe, .int .i64 es, .int .i64 ek]
        have hal := (Below.refl wr.heap.size wr).alloc (Nat.le_refl _) (.cells #[.int .i64 d, .int .i64 xa, .int .i64 xb, .int .i64 xc, .bool xd, .bool xe, .int .i64 es, .int .i64 ek] 67)
        have HT3 := hide (HT2.out.below hal HT2.out.lt)
        have HR3 := hide (HR2.out.below hal HR2.out.lt)
        have HB3 := hide (HB2.out.trans (hal.mono HB2.out.size))
        have HX := hide hx0
        have hgw := HR2.out.lt
        have htw := HT2.out.lt
        clear HT2 HR2 HB2 c0 c1 c2 c3 c4 c5 c6 c7 hal hx0
        generalize wr.alloc (.cells #[.int .i64 d, .int .i64 xa, .int .i64 xb, .int .i64 xc, .bool xd, .bool xe, .int .i64 es, .int .i64 ek] 67) = W1 at HT3 HR3 HB3 HX ⊢
        have x0 := HX.out.cell 0
        have x1 := HX.out.cell 1
        have x2 := HX.out.cell 2
        have x3 := HX.out.cell 3
        have x4 := HX.out.cell 4
        have x5 := HX.out.cell 5
        have x6 := HX.out.cell 6
        have x7 := HX.out.cell 7
        have xl := HX.out.lt
        by_cases h0 : d = 0
        · subst h0
          go_wp2
          go_region_held3 (fun w' => w'.cell? ⟨wr.heap.size, 1, none⟩ = some (.int .i64 xa) ∧ w'.cell? ⟨wr.heap.size, 2, none⟩ = some (.int .i64 xb) ∧ w'.cell? ⟨wr.heap.size, 3, none⟩ = some (.int .i64 xc) ∧ w'.cell? ⟨wr.heap.size, 4, none⟩ = some (.bool xd) ∧ w'.cell? ⟨wr.heap.size, 5, none⟩ = some (.bool xe)) (first | (exact ⟨x1, x2, x3, x4, x5⟩) | (exact ⟨hq1, hq2, hq3, hq4, hq5⟩)) ((first
            | (go_at_call 15; refine (fill_any _ _ ⟨xa, xb, xc, xd, xe⟩ _ HT3.out.drew HG.out.ok).mono ?_; rintro e w2 ⟨rfl, hT4, hm4⟩; have hq1 := (hm4.cell (show ¬ wr.heap.size = w.heap.size by omega) (o := 1) xl).trans x1; have hq2 := (hm4.cell (show ¬ wr.heap.size = w.heap.size by omega) (o := 2) xl).trans x2; have hq3 := (hm4.cell (show ¬ wr.heap.size = w.heap.size by omega) (o := 3) xl).trans x3; have hq4 := (hm4.cell (show ¬ wr.heap.size = w.heap.size by omega) (o := 4) xl).trans x4; have hq5 := (hm4.cell (show ¬ wr.heap.size = w.heap.size by omega) (o := 5) xl).trans x5)
            | (go_at_call 31; refine (num_any _ _).mono ?_; rintro e w' ⟨rfl, rfl⟩)
            | (go_at_call 32; refine (rfill6 _ _ ⟨xa, xb, xc, xd, xe⟩ _ (HR3.out.drew.mod hm4 (show ¬ gr = w.heap.size by omega)) HG.out).mono ?_; rintro e w3 ⟨rfl, hR4, hm5⟩; have hq1 := (hm5.cell (show ¬ wr.heap.size = gr by omega) (o := 1) (Nat.lt_of_lt_of_le xl hm4.size)).trans hq1; have hq2 := (hm5.cell (show ¬ wr.heap.size = gr by omega) (o := 2) (Nat.lt_of_lt_of_le xl hm4.size)).trans hq2; have hq3 := (hm5.cell (show ¬ wr.heap.size = gr by omega) (o := 3) (Nat.lt_of_lt_of_le xl hm4.size)).trans hq3; have hq4 := (hm5.cell (show ¬ wr.heap.size = gr by omega) (o := 4) (Nat.lt_of_lt_of_le xl hm4.size)).trans hq4; have hq5 := (hm5.cell (show ¬ wr.heap.size = gr by omega) (o := 5) (Nat.lt_of_lt_of_le xl hm4.size)).trans hq5)))
          have HT5 := hide (hT4.mod hm5 (show ¬ w.heap.size = gr by omega))
          have HB5 := hide (below_mod (below_mod HB3.out (Nat.le_refl _) (S := (· = w.heap.size)) hm4.of_drew (fun k e => by omega)) (Nat.le_refl _) (S := (· = gr)) hm5 (fun k e => by omega))
          have HR5 := hide hR4
          clear hT4 hR4 hm4 hm5
          go_wp2
          go_meet
          case rel => exact ⟨by simp, ⟨_, HT5.out, HR5.out, HG.out.fill _⟩, HB5.out⟩
        by_cases h1 : d = 1
        · subst h1
          clear h0
          go_wp2_with fail
          refine (find_in _ _ _ _ _ HT3.out).mono ?_
          rintro e w2 ⟨rfl, hb⟩
          obtain ⟨row, hrow⟩ : ∃ row, (findTr c xa xb).row = row := ⟨_, rfl⟩
          obtain ⟨fo, hfo⟩ : ∃ fo, findOk c xa xb = fo := ⟨_, rfl⟩
          obtain ⟨⟨fa, fb, fc, fd, fe⟩, hft⟩ : ∃ y, findTr c xa xb = y := ⟨_, rfl⟩
          rw [hft, hfo]
          have HFT := hide hft
          have HFO := hide hfo
          unfold Tr.row
          have HT4 := hide (HT3.out.below hb HT3.out.lt)
          have HR4 := hide (HR3.out.below hb HR3.out.lt)
          have HB4 := hide (HB3.out.trans (hb.mono HB3.out.size))
          have hX4 := HX.out.below hb HX.out.lt
          have HX4 := hide hX4
          clear hb hft hfo hrow row HT3 HR3 HB3 HX x0 x1 x2 x3 x4 x5 x6 x7 xl hX4
          have xl := HX4.out.lt
          have x1 := HX4.out.cell 1
          have x2 := HX4.out.cell 2
          go_wp2_with fail
          have hal := (Below.refl w2.heap.size w2).alloc (Nat.le_refl _) (.cells #[.int .i64 fa, .int .i64 fb, .int .i64 fc, .bool fd, .bool fe] 28)
          have HT5 := hide (HT4.out.below hal HT4.out.lt)
          have HR5 := hide (HR4.out.below hal HR4.out.lt)
          have HB5 := hide (HB4.out.trans (hal.mono HB4.out.size))
          have HY5 := hide (Blk.new w2 28 #[.int .i64 fa, .int .i64 fb, .int .i64 fc, .bool fd, .bool fe])
          have HX5 := hide (HX4.out.below hal xl)
          clear hal HT4 HR4 HB4 x1 x2 xl HX4
          generalize w2.alloc (.cells #[.int .i64 fa, .int .i64 fb, .int .i64 fc, .bool fd, .bool fe] 28) = W5 at HT5 HR5 HB5 HY5 HX5 ⊢
          have x1 := HX5.out.cell 1
          have x2 := HX5.out.cell 2
          go_wp2_with fail
          refine (rfind6 _ _ _ _ _ HR5.out HG.out).mono ?_
          rintro e w6 ⟨rfl, hb⟩
          rw [HFT.out, HFO.out]
          unfold Tr.row
          have HT6 := hide (HT5.out.below hb HT5.out.lt)
          have HR6 := hide (HR5.out.below hb HR5.out.lt)
          have HB6 := hide (HB5.out.trans (hb.mono HB5.out.size))
          obtain ⟨y0, y1, y2, y3, y4⟩ := (HY5.out.below hb HY5.out.lt).c5
          have yl := (HY5.out.below hb HY5.out.lt).lt
          clear hb HT5 HR5 HB5 HY5 HX5 x1 x2
          go_wp2_with fail
          have hal := (Below.refl w6.heap.size w6).alloc (Nat.le_refl _) (.cells #[.int .i64 fa, .int .i64 fb, .int .i64 fc, .bool fd, .bool fe] 28)
          have HT7 := hide (HT6.out.below hal HT6.out.lt)
          have HR7 := hide (HR6.out.below hal HR6.out.lt)
          have HB7 := hide (HB6.out.trans (hal.mono HB6.out.size))
          clear hal
          go_meet
          case rel => exact ⟨by simp, ⟨_, HT7.out, HR7.out, HG.out⟩, HB7.out⟩
        by_cases h2 : d = 2
        · subst h2
          clear h0 h1
          go_wp2
          go_region_held3 (fun w' => w'.cell? ⟨wr.heap.size, 6, none⟩ = some (.int .i64 es) ∧ w'.cell? ⟨wr.heap.size, 7, none⟩ = some (.int .i64 ek)) (first | (exact ⟨x6, x7⟩) | (exact ⟨hq6, hq7⟩)) ((first
            | (go_at_call 34; refine (evict_any _ _ _ _ _ HT3.out.drew).mono ?_; rintro e w2 ⟨rfl, hT4, hm4⟩; have hq6 := (hm4.cell (show ¬ wr.heap.size = w.heap.size by omega) (o := 6) xl).trans x6; have hq7 := (hm4.cell (show ¬ wr.heap.size = w.heap.size by omega) (o := 7) xl).trans x7)
            | (go_at_call 31; refine (num_any _ _).mono ?_; rintro e w' ⟨rfl, rfl⟩)
            | (go_at_call 35; refine (revict6 _ _ _ _ _ (HR3.out.drew.mod hm4 (show ¬ gr = w.heap.size by omega)) HG.out).mono ?_; rintro e w3 ⟨rfl, hR4, hm5⟩; have hq6 := (hm5.cell (show ¬ wr.heap.size = gr by omega) (o := 6) (Nat.lt_of_lt_of_le xl hm4.size)).trans hq6; have hq7 := (hm5.cell (show ¬ wr.heap.size = gr by omega) (o := 7) (Nat.lt_of_lt_of_le xl hm4.size)).trans hq7)))
          have HT5 := hide (hT4.mod hm5 (show ¬ w.heap.size = gr by omega))
          have HB5 := hide (below_mod (below_mod HB3.out (Nat.le_refl _) (S := (· = w.heap.size)) hm4.of_drew (fun k e => by omega)) (Nat.le_refl _) (S := (· = gr)) hm5 (fun k e => by omega))
          have HR5 := hide hR4
          clear hT4 hR4 hm4 hm5
          go_wp2
          go_meet
          case rel => exact ⟨by simp, ⟨_, HT5.out, HR5.out, HG.out.evict _ _⟩, HB5.out⟩
        by_cases h3 : d = 3
        · subst h3
          clear h0 h1 h2
          go_wp2
          by_cases hpg : xb = -1
          · subst hpg
            go_quiet (fail)
            have HT5 := hide (show TlbAt (W1.drewN nq) w.heap.size c from HT3.out.same rfl)
            have HR5 := hide (show Ref6At (W1.drewN nq) gr c from HR3.out.same rfl)
            have HB5 := hide (HB3.out.trans ((Below.drewN6 W1 nq).mono HB3.out.size))
            go_wp2
            go_meet
            case rel => exact ⟨by simp, ⟨_, HT5.out, HR5.out, HG.out⟩, HB5.out⟩
          · have HPG := hide hpg
            have dpg : decide (xb = -1) = false := decide_eq_false hpg
            have dpg2 : (xb == -1) = false := beq_eq_false_iff_ne.2 hpg
            go_region_held3 (fun w' => w'.cell? ⟨wr.heap.size, 1, none⟩ = some (.int .i64 xa) ∧ w'.cell? ⟨wr.heap.size, 2, none⟩ = some (.int .i64 xb)) (first | (exact ⟨x1, x2⟩) | (exact ⟨hq1, hq2⟩)) ((first
              | (go_at_call 30; refine (dropPage_R _ _ _ _ _ HT3.out.drew HPG.out).mono ?_; rintro e w2 ⟨rfl, hT4, hm4⟩; have hq1 := (hm4.cell (show ¬ wr.heap.size = w.heap.size by omega) (o := 1) xl).trans x1; have hq2 := (hm4.cell (show ¬ wr.heap.size = w.heap.size by omega) (o := 2) xl).trans x2)
              | (go_at_call 31; refine (num_any _ _).mono ?_; rintro e w' ⟨rfl, rfl⟩)
              | (go_at_call 36; refine (rdrop6 _ _ _ _ false _ (HR3.out.drew.mod hm4 (show ¬ gr = w.heap.size by omega)) HG.out).mono ?_; rintro e w3 ⟨rfl, hR4, hm5⟩; have hq1 := (hm5.cell (show ¬ wr.heap.size = gr by omega) (o := 1) (Nat.lt_of_lt_of_le xl hm4.size)).trans hq1; have hq2 := (hm5.cell (show ¬ wr.heap.size = gr by omega) (o := 2) (Nat.lt_of_lt_of_le xl hm4.size)).trans hq2)))
            have HT5 := hide (hT4.mod hm5 (show ¬ w.heap.size = gr by omega))
            have HB5 := hide (below_mod (below_mod HB3.out (Nat.le_refl _) (S := (· = w.heap.size)) hm4.of_drew (fun k e => by omega)) (Nat.le_refl _) (S := (· = gr)) hm5 (fun k e => by omega))
            have HR5 := hide hR4
            clear hT4 hR4 hm4 hm5
            go_wp2
            go_meet
            case rel => exact ⟨by simp, ⟨_, HT5.out, HR5.out, HG.out.drop _ _⟩, HB5.out⟩
        by_cases h4 : d = 4
        · subst h4
          clear h0 h1 h2 h3
          go_wp2
          go_region_held3 (fun w' => w'.cell? ⟨wr.heap.size, 1, none⟩ = some (.int .i64 xa)) (first | (exact x1) | (exact hq1)) ((first
            | (go_at_call 29; refine (dropSpace_R _ _ _ _ HT3.out.drew).mono ?_; rintro e w2 ⟨rfl, hT4, hm4⟩; have hq1 := (hm4.cell (show ¬ wr.heap.size = w.heap.size by omega) (o := 1) xl).trans x1)
            | (go_at_call 31; refine (num_any _ _).mono ?_; rintro e w' ⟨rfl, rfl⟩)
            | (go_at_call 36; refine (rdrop6 _ _ _ (-1) false _ (HR3.out.drew.mod hm4 (show ¬ gr = w.heap.size by omega)) HG.out).mono ?_; rintro e w3 ⟨rfl, hR4, hm5⟩; have hq1 := (hm5.cell (show ¬ wr.heap.size = gr by omega) (o := 1) (Nat.lt_of_lt_of_le xl hm4.size)).trans hq1)))
          have HT5 := hide (hT4.mod hm5 (show ¬ w.heap.size = gr by omega))
          have HB5 := hide (below_mod (below_mod HB3.out (Nat.le_refl _) (S := (· = w.heap.size)) hm4.of_drew (fun k e => by omega)) (Nat.le_refl _) (S := (· = gr)) hm5 (fun k e => by omega))
          have HR5 := hide hR4
          clear hT4 hR4 hm4 hm5
          go_wp2
          go_meet
          case rel => exact ⟨by simp, ⟨_, HT5.out, HR5.out, HG.out.drop _ _⟩, HB5.out⟩
        by_cases h5 : d = 5
        · subst h5
          clear h0 h1 h2 h3 h4
          go_wp2_with fail
          refine (dropAll_R _ _ _ HT3.out).mono ?_
          rintro e w2 ⟨rfl, hT4, hm4⟩
          have HT4 := hide hT4
          have HR4 := hide (HR3.out.mod hm4 (show ¬ gr = w.heap.size by omega))
          have HB4 := hide (below_mod HB3.out (Nat.le_refl _) hm4 (fun k e => by omega))
          clear hT4 hm4 HT3 HR3 HB3 HX x0 x1 x2 x3 x4 x5 x6 x7 xl
          go_wp2_with fail
          refine (rdrop6 _ _ 0 0 true _ HR4.out HG.out).mono ?_
          rintro e w3 ⟨rfl, hR5, hm5⟩
          have HT5 := hide (HT4.out.mod hm5 (show ¬ w.heap.size = gr by omega))
          have HR5 := hide hR5
          have HB5 := hide (below_mod HB4.out (Nat.le_refl _) hm5 (fun k e => by omega))
          clear hR5 hm5 HT4 HR4 HB4
          go_wp2_with fail
          go_meet
          case rel => exact ⟨by simp, ⟨_, HT5.out, HR5.out, HG.out.drop _ _⟩, HB5.out⟩
        go_wp2_with fail
        go_meet
        case rel => exact ⟨by simp, ⟨_, HT3.out, HR3.out, HG.out⟩, HB3.out⟩
      case rest =>
        obtain ⟨rfl, ⟨c', hT, hR, hG⟩, hB⟩ := hcut
        have HT4 := hide hT
        have HR4 := hide hR
        have HG4 := hide hG
        have HB4 := hide hB
        have hgl := hR.lt
        clear hT hR hG hB HT2 HR2 HB2 c0 c1 c2 c3 c4 c5 c6 c7
        go_wp2_with fail
        refine (all_of _ _ _ HT4.out).mono ?_
        rintro e w5 ⟨v, rfl, hrow, hb⟩
        obtain ⟨A1, cap1, rfl, hr1⟩ := rows_of_owns hrow
        have HT5 := hide (HT4.out.below hb HT4.out.lt)
        have HR5 := hide (HR4.out.below hb HR4.out.lt)
        have HB5 := hide (HB4.out.trans (hb.mono HB4.out.size))
        have HRow5 := hide hrow
        have HR1 := hide hr1
        have hz5 := hb.size
        have htl := HT4.out.lt
        have hwl := HB4.out.size
        clear hb hrow hr1 HT4 HR4 HB4
        generalize wc.heap.size = B5 at *
        go_wp2_with fail
        refine (rall6_rows _ _ _ HR5.out HG4.out).mono ?_
        rintro e w6 ⟨A2, cap2, rfl, hr2, hb⟩
        have HT6 := hide (HT5.out.below hb HT5.out.lt)
        have HR6 := hide (HR5.out.below hb HR5.out.lt)
        have HB6 := hide (HB5.out.trans (hb.mono HB5.out.size))
        have HRow6 := hide (owns_below HRow5.out hb)
        have HR16 := hide (HR1.out.below hb)
        have HR2' := hide hr2
        have hz6 := Nat.le_trans hz5 hb.size
        clear hb hr2 HT5 HR5 HB5 HRow5 HR1 hz5
        have hv8 := vis_len c' 8
        go_wp2_with fail
        refine (sameTrans_yes _ _ _ _ _ _ _ _ _ (by omega) HR16.out HR2'.out).mono ?_
        rintro e w7 ⟨rfl, hb⟩
        have HT7 := hide (HT6.out.below hb HT6.out.lt)
        have HR7 := hide (HR6.out.below hb HR6.out.lt)
        have HB7 := hide (HB6.out.trans (hb.mono HB6.out.size))
        have HRow7 := hide (owns_below HRow6.out hb)
        have hz7 := Nat.le_trans hz6 hb.size
        clear hb HT6 HR6 HB6 HRow6 hz6 HR16 HR2'
        go_wp2_with fail
        refine (overTrans_any w7 B5 _ _ _ HRow7.out hz7 hv8).mono ?_
        rintro e w8 ⟨⟨u, rfl⟩, hb⟩
        have HT8 := hide (HT7.out.below hb htl)
        have HR8 := hide (HR7.out.below hb hgl)
        have HB8 := hide (HB7.out.trans (hb.mono hwl))
        clear hb HT7 HR7 HB7 HRow7
        go_wp2_with fail
        go_roundw
        case rel => exact ⟨m + 1, c', by omega, by simp, HT8.out, HR8.out, HG4.out, HB8.out⟩
        case measure => simp [intOf]; omega
    · go_wp2_with fail
      refine (all_rows _ _ _ HT2.out).mono ?_
      rintro e w5 ⟨A1, cap1, rfl, hr1, hb⟩
      have HR5 := hide (HR2.out.below hb HR2.out.lt)
      have HB5 := hide (HB2.out.trans (hb.mono HB2.out.size))
      have HR1 := hide hr1
      clear hb hr1 HT2 HR2 HB2
      go_wp2_with fail
      refine (rall6_rows _ _ _ HR5.out HG.out).mono ?_
      rintro e w6 ⟨A2, cap2, rfl, hr2, hb⟩
      have HB6 := hide (HB5.out.trans (hb.mono HB5.out.size))
      have HR16 := hide (HR1.out.below hb)
      have HR2' := hide hr2
      clear hb hr2 HR5 HB5 HR1
      have hv8 := vis_len c 8
      go_wp2_with fail
      refine (sameTrans_yes _ _ _ _ _ _ _ _ _ (by omega) HR16.out HR2'.out).mono ?_
      rintro e w7 ⟨rfl, hb⟩
      have HB7 := hide (HB6.out.trans (hb.mono HB6.out.size))
      clear hb HB6 HR16 HR2'
      go_wp2_with fail
      refine (awake6 _).mono ?_
      rintro e w8 ⟨rfl, hb⟩
      have HB8 := hide (HB7.out.trans (hb.mono HB7.out.size))
      clear hb HB7
      go_wp2_with fail
      go_ret
      exact ⟨rfl, HB8.out⟩
end Go.Proofs.Ytfjhchcnhmafkaa
