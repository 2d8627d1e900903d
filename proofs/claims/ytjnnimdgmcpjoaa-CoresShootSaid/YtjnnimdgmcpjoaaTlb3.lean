/- The walk of a cache's Find. -/
import Derived.Test.YtjnnimdgmcpjoaaTlb2
namespace Go.Proofs.Ytjnnimdgmcpjoaa
open Go.RowKit Go.Shelf
attribute [local go_sem] Oper.semAt_some
/-- Is it that page's translation? -/
def hit (c : Cache) (sp pg : Int) (i : Nat) : Bool := (c.way i).sp == sp && (c.way i).pg == pg
def findV (c : Cache) (sp pg : Int) : Option Nat := (vis c 8).find? (hit c sp pg)
def findTr (c : Cache) (sp pg : Int) : Tr := match findV c sp pg with | some i => c.way i | none => Tr.zero
def findOk (c : Cache) (sp pg : Int) : Bool := (findV c sp pg).isSome
theorem vis_split (c : Cache) {x n : Nat} (hx : x < n) (h : (c.way x).sp ≠ 0) : ∃ r, vis c n = vis c x ++ x :: r := by
  induction n with
  | zero => omega
  | succ n ih =>
    by_cases e : x = n
    · subst e
      exact ⟨[], by rw [vis_yes (by simpa using h)]⟩
    · obtain ⟨r, hr⟩ := ih (by omega)
      cases hn : (c.way n).sp != 0 with
      | true => exact ⟨r ++ [n], by rw [vis_yes hn, hr]; simp⟩
      | false => exact ⟨r, by rw [vis_no hn, hr]⟩
theorem findV_hit {c : Cache} {sp pg : Int} {x : Nat} (hx : x < 8) (h0 : (c.way x).sp ≠ 0) (hp : ∀ j ∈ vis c x, hit c sp pg j = false) (hh : hit c sp pg x = true) : findV c sp pg = some x := by
  obtain ⟨r, hr⟩ := vis_split c hx h0
  unfold findV
  rw [hr, List.find?_append, List.find?_eq_none.2 (fun j hj => by simp [hp j hj])]
  simp [hh]
theorem findV_none {c : Cache} {sp pg : Int} (hp : ∀ j ∈ vis c 8, hit c sp pg j = false) : findV c sp pg = none := by
  unfold findV
  exact List.find?_eq_none.2 (fun j hj => by simp [hp j hj])
theorem blk5_set {w : World} {b : Nat} {t : TypeId} {a0 a1 a2 a3 a4 : Value} (h : Blk w b t #[a0, a1, a2, a3, a4]) (y : Tr) : Blk (stored5 w b 0 y) b t y.row :=
  ((((h.set_ 0 (.int .i64 y.sp)).set_ 1 (.int .i64 y.pg)).set_ 2 (.int .i64 y.fr)).set_ 3 (.bool y.rd)).set_ 4 (.bool y.wr)
theorem blk_row {w : World} {b : Nat} {t : TypeId} {y : Tr} (h : Blk w b t y.row) : w.cell? ⟨b, 0, none⟩ = some (.int .i64 y.sp) ∧ w.cell? ⟨b, 1, none⟩ = some (.int .i64 y.pg) ∧ w.cell? ⟨b, 2, none⟩ = some (.int .i64 y.fr) ∧ w.cell? ⟨b, 3, none⟩ = some (.bool y.rd) ∧ w.cell? ⟨b, 4, none⟩ = some (.bool y.wr) :=
  ⟨h.cell 0, h.cell 1, h.cell 2, h.cell 3, h.cell 4⟩
theorem put_self (c : Cache) (x : Nat) : c.put x (c.way x) = c := by
  cases c
  simp only [Cache.put, Cache.mk.injEq, and_true]
  funext j
  split
  · subst_vars; rfl
  · rfl
theorem thereK_same {g Bt : Nat} {pre : List Nat} {x : Nat} {W W' : World} (h : W'.heap = W.heap) : thereK g Bt pre x W W' :=
  ⟨fun k o _ ho => by rw [h]; exact ho, fun c' hc => ⟨c'.way x, by rw [put_self]; exact hc.same (by rw [h])⟩⟩
set_option maxRecDepth 100000 in
set_option maxHeartbeats 4000000 in
theorem find_in_F (F : Fence) (q : Nat) (hF : WideF F Try.prog) (hro : F.round = none) (hq : 3 ≤ q) (g : Nat) (c : Cache) (sp pg : Int) (w : World) (hT : TlbAt w g c) :
    CallsIn F q Try.prog 51 #[.pointer (some ⟨g, 0, none⟩), .int .i64 sp, .int .i64 pg] w fun e w' => e = .returned (.tuple #[.agg (findTr c sp pg).row, .bool (findOk c sp pg)]) ∧ Below w.heap.size w w' := by
  have hlt := hT.lt
  have hq1 : 1 ≤ q := by omega
  have HT := hide hT
  have HF := hide hF
  have hfn := hF.fn
  refine callsIn_of_wp_marks Try.func51 rfl (hF.fn _) ?_ hro
  clear hF hT
  simp only [Try.ntmps51, List.size_toArray, List.length_cons, List.length_nil, Nat.reduceAdd, Nat.reduceSub, Array.replicate_succ, Array.replicate_zero, List.push_toArray, List.append_toArray, List.nil_append, List.cons_append]
  gi_wp2_with (gi_at_call 73; refine (there_in F (q - 1) HF.out hro _ _).mono ?_; rintro e w' ⟨rfl, rfl⟩)
  obtain ⟨W0, hW0⟩ : ∃ W0 : World, (((((w.alloc (.cells #[.int .i64 sp] 3)).alloc (.cells #[.int .i64 pg] 3)).alloc (.cells Tr.zero.row 42)).alloc (.cells #[.bool false] 4)).alloc (.cells #[.pointer (some ⟨g, 0, none⟩)] 99)) = W0 := ⟨_, rfl⟩
  have b0 : Blk W0 w.heap.size 3 #[.int .i64 sp] := by rw [← hW0]; exact ((((Blk.new w _ _).alloc _).alloc _).alloc _).alloc _
  have b1 : Blk W0 (w.heap.size + 1) 3 #[.int .i64 pg] := by
    have h := (((Blk.new (w.alloc (.cells #[.int .i64 sp] 3)) 3 #[.int .i64 pg]).alloc (.cells Tr.zero.row 42)).alloc (.cells #[.bool false] 4)).alloc (.cells #[.pointer (some ⟨g, 0, none⟩)] 99)
    simp only [World.size_alloc] at h
    rw [← hW0]; exact h
  have b2 : Blk W0 (w.heap.size + 1 + 1) 42 Tr.zero.row := by
    have h := ((Blk.new ((w.alloc (.cells #[.int .i64 sp] 3)).alloc (.cells #[.int .i64 pg] 3)) 42 Tr.zero.row).alloc (.cells #[.bool false] 4)).alloc (.cells #[.pointer (some ⟨g, 0, none⟩)] 99)
    simp only [World.size_alloc] at h
    rw [← hW0]; exact h
  have b3 : Blk W0 (w.heap.size + 1 + 1 + 1) 4 #[.bool false] := by
    have h := (Blk.new (((w.alloc (.cells #[.int .i64 sp] 3)).alloc (.cells #[.int .i64 pg] 3)).alloc (.cells Tr.zero.row 42)) 4 #[.bool false]).alloc (.cells #[.pointer (some ⟨g, 0, none⟩)] 99)
    simp only [World.size_alloc] at h
    rw [← hW0]; exact h
  have b4 : Blk W0 (w.heap.size + 1 + 1 + 1 + 1) 99 #[.pointer (some ⟨g, 0, none⟩)] := by
    have h := Blk.new ((((w.alloc (.cells #[.int .i64 sp] 3)).alloc (.cells #[.int .i64 pg] 3)).alloc (.cells Tr.zero.row 42)).alloc (.cells #[.bool false] 4)) 99 #[.pointer (some ⟨g, 0, none⟩)]
    simp only [World.size_alloc] at h
    rw [← hW0]; exact h
  have hb0 : Below w.heap.size w W0 := by rw [← hW0]; exact ((((((Below.refl _ w).alloc (Nat.le_refl _) _).alloc (by simp) _).alloc (by simp; omega) _).alloc (by simp; omega) _).alloc (by simp; omega) _)
  change Code.wpIn _ _ _ _ _ _ (((((w.alloc (.cells #[.int .i64 sp] 3)).alloc (.cells #[.int .i64 pg] 3)).alloc (.cells Tr.zero.row 42)).alloc (.cells #[.bool false] 4)).alloc (.cells #[.pointer (some ⟨g, 0, none⟩)] 99))
  rw [hW0]
  clear hW0
  have hT0 := HT.out.below hb0 hlt
  have hl4 := b4.lt
  refine' wpIn_iter1 hro hq1 (gf := 89) (lb := _) rfl (hfn _) (enters_of Try.func89 (by kernel_rfl) rfl) (there_iter F (q - 1) HF.out hro (by omega) g _ c W0 hT0 b4)
    (fun pre x A B C D h1 h2 h3 => ?hK) (fun _ _ _ _ h hk => ⟨h.1, h.2.1, h.2.2.1, by obtain ⟨c', h1, h2⟩ := h.2.2.2; exact ⟨c', h1.skips hk, h2⟩⟩) (fun _ _ _ h _ => h) (fun _ => rfl)
    (fun pre W => TlbAt W g c ∧ Blk W w.heap.size 3 #[.int .i64 sp] ∧ Blk W (w.heap.size + 1) 3 #[.int .i64 pg] ∧ Blk W (w.heap.size + 1 + 1) 42 Tr.zero.row ∧ Blk W (w.heap.size + 1 + 1 + 1) 4 #[.bool false] ∧ (∀ j ∈ pre, hit c sp pg j = false) ∧ Below w.heap.size w W)
    (fun k _ W => k = .ret ∧ ∃ i, findV c sp pg = some i ∧ Blk W (w.heap.size + 1 + 1) 42 (c.way i).row ∧ Blk W (w.heap.size + 1 + 1 + 1) 4 #[.bool true] ∧ Below w.heap.size w W)
    ?hI ?hIx ?h0 _ ?assign ?body ?done ?stop
  case hK =>
    refine ⟨KeepB.skips (fun k hk => by omega) h1 h2.1 h3, fun c' hc' => ?_⟩
    obtain ⟨y, hy⟩ := h2.2 c' (hc'.skips h1)
    exact ⟨y, hy.skips h3⟩
  case hI => exact fun s A C h hk => ⟨h.1.skips hk, hk.blk h.2.1, hk.blk h.2.2.1, hk.blk h.2.2.2.1, hk.blk h.2.2.2.2.1, h.2.2.2.2.2.1, below_skips h.2.2.2.2.2.2 hk hb0.size (Nat.le_refl _)⟩
  case hIx =>
    rintro k s A C ⟨hk1, i, h1, h2, h3, h4⟩ hk
    exact ⟨hk1, i, h1, hk.blk h2, hk.blk h3, below_skips h4 hk hb0.size (Nat.le_refl _)⟩
  case h0 => exact ⟨hT0, b0, b1, b2, b3, fun j hj => by simp at hj, hb0⟩
  case assign =>
    intro l x W K hK
    gi_wp2
    exact hK
  case body =>
    rintro l pre x W hl hr ⟨hT, hb0', hb1', hb2', hb3', hnot, hB⟩ ⟨hx8, hx0, hpre, _⟩
    obtain ⟨t0, t1, t2, t3, t4⟩ := hT.cell x hx8
    have p0 := hb0'.cell 0
    have p1 := hb1'.cell 0
    have HT2 := hide hT
    have HB2 := hide hb2'
    have HB3 := hide hb3'
    have HN := hide hnot
    have HX := hide hx0
    have HP := hide hpre
    have HR := hide hr
    have HBB := hide hB
    have HB0 := hide hb0'
    have HB1 := hide hb1'
    have hS : (fun w' : World => w'.cell? ⟨g, pos x, none⟩ = some (.int .i64 (c.way x).sp) ∧ w'.cell? ⟨g, pos x + 1, none⟩ = some (.int .i64 (c.way x).pg) ∧ w'.cell? ⟨w.heap.size, 0, none⟩ = some (.int .i64 sp) ∧ w'.cell? ⟨w.heap.size + 1, 0, none⟩ = some (.int .i64 pg)) W.drew := ⟨t0, t1, p0, p1⟩
    clear hT hb0' hb1' hb2' hb3' hnot hx0 hpre hr hB
    gi_wp2
    cases h1 : (c.way x).sp == sp with
    | false =>
      refine wpIn_region_held (S := fun w' => w'.cell? ⟨g, pos x, none⟩ = some (.int .i64 (c.way x).sp) ∧ w'.cell? ⟨g, pos x + 1, none⟩ = some (.int .i64 (c.way x).pg) ∧ w'.cell? ⟨w.heap.size, 0, none⟩ = some (.int .i64 sp) ∧ w'.cell? ⟨w.heap.size + 1, 0, none⟩ = some (.int .i64 pg)) (HF.out.inRound l) (by kernel_rfl) (fun ⟨_, _, h⟩ => h) (by kernel_rfl) hS (fun hS => ?_)
      refine' wpAnyH_take (i := 0) (oi := ⟨some 12, _, _, _, _, _⟩) (v := _) rfl (by kernel_rfl) (by kernel_rfl) (by kernel_rfl) (fun _ _ _ h => h) (Or.inl ⟨by rfl, ?_⟩) hS ?_
      rotate_left
      · intro w hSw
        try dsimp only at hSw
        go_simp
        all_goals with_reducible rfl
      simp only [Act.put, List.setIfInBounds_toArray, List.set_cons_zero, List.set_cons_succ]
      refine' wpAnyH_take (i := 1) (oi := ⟨some 13, _, _, _, _, _⟩) (v := _) rfl (by kernel_rfl) (by kernel_rfl) (by kernel_rfl) (fun _ _ _ h => h) (Or.inl ⟨by rfl, ?_⟩) hS ?_
      rotate_left
      · intro w hSw
        try dsimp only at hSw
        go_simp
        all_goals with_reducible rfl
      simp only [Act.put, List.setIfInBounds_toArray, List.set_cons_zero, List.set_cons_succ]
      refine' wpAnyH_take (i := 2) (oi := ⟨some 14, _, _, _, _, _⟩) (v := _) rfl (by kernel_rfl) (by kernel_rfl) (by kernel_rfl) (fun _ _ _ h => h) (Or.inl ⟨by rfl, ?_⟩) hS ?_
      rotate_left
      · intro w hSw
        try dsimp only at hSw
        go_simp
        all_goals with_reducible rfl
      simp only [Act.put, List.setIfInBounds_toArray, List.set_cons_zero, List.set_cons_succ]
      refine' wpAnyH_take (i := 3) (oi := ⟨some 15, _, _, _, _, _⟩) (v := _) rfl (by kernel_rfl) (by kernel_rfl) (by kernel_rfl) (fun _ _ _ h => h) (Or.inl ⟨by rfl, ?_⟩) hS ?_
      rotate_left
      · intro w hSw
        try dsimp only at hSw
        go_simp
        all_goals with_reducible rfl
      simp only [Act.put, List.setIfInBounds_toArray, List.set_cons_zero, List.set_cons_succ]
      refine' wpAnyH_take (i := 4) (oi := ⟨some 16, _, _, _, _, _⟩) (v := _) rfl (by kernel_rfl) (by kernel_rfl) (by kernel_rfl) (fun _ _ _ h => h) (Or.inl ⟨by rfl, ?_⟩) hS ?_
      rotate_left
      · intro w hSw
        try dsimp only at hSw
        go_simp
        all_goals with_reducible rfl
      simp only [Act.put, List.setIfInBounds_toArray, List.set_cons_zero, List.set_cons_succ]
      refine' wpAnyH_take (i := 5) (oi := ⟨some 17, _, _, _, _, _⟩) (v := _) rfl (by kernel_rfl) (by kernel_rfl) (by kernel_rfl) (fun _ _ _ h => h) (Or.inl ⟨by rfl, ?_⟩) hS ?_
      rotate_left
      · intro w hSw
        try dsimp only at hSw
        go_simp
        all_goals with_reducible rfl
      simp only [Act.put, List.setIfInBounds_toArray, List.set_cons_zero, List.set_cons_succ]
      refine' wpAnyH_take (i := 6) (oi := ⟨some 18, _, _, _, _, _⟩) (v := _) rfl (by kernel_rfl) (by kernel_rfl) (by kernel_rfl) (fun _ _ _ h => h) (Or.inl ⟨by rfl, ?_⟩) hS ?_
      rotate_left
      · intro w hSw
        try dsimp only at hSw
        go_simp
        all_goals with_reducible rfl
      simp only [Act.put, List.setIfInBounds_toArray, List.set_cons_zero, List.set_cons_succ]
      refine wpAnyH_take (i := 7) (oi := ⟨some 19, _, _, _, _, _⟩) (v := undef) rfl (by kernel_rfl) (by kernel_rfl) (by kernel_rfl) (fun _ _ _ h => h) (Or.inr ⟨by rfl, rfl⟩) hS ?_
      simp only [Act.put, List.setIfInBounds_toArray, List.set_cons_zero, List.set_cons_succ]
      refine wpAnyH_take (i := 8) (oi := ⟨some 20, _, _, _, _, _⟩) (v := undef) rfl (by kernel_rfl) (by kernel_rfl) (by kernel_rfl) (fun _ _ _ h => h) (Or.inr ⟨by rfl, rfl⟩) hS ?_
      simp only [Act.put, List.setIfInBounds_toArray, List.set_cons_zero, List.set_cons_succ]
      refine wpAnyH_take (i := 9) (oi := ⟨some 21, _, _, _, _, _⟩) (v := undef) rfl (by kernel_rfl) (by kernel_rfl) (by kernel_rfl) (fun _ _ _ h => h) (Or.inr ⟨by rfl, rfl⟩) hS ?_
      simp only [Act.put, List.setIfInBounds_toArray, List.set_cons_zero, List.set_cons_succ]
      refine wpAnyH_take (i := 10) (oi := ⟨some 22, _, _, _, _, _⟩) (v := undef) rfl (by kernel_rfl) (by kernel_rfl) (by kernel_rfl) (fun _ _ _ h => h) (Or.inr ⟨by rfl, rfl⟩) hS ?_
      simp only [Act.put, List.setIfInBounds_toArray, List.set_cons_zero, List.set_cons_succ]
      refine wpAnyH_take (i := 11) (oi := ⟨some 23, _, _, _, _, _⟩) (v := undef) rfl (by kernel_rfl) (by kernel_rfl) (by kernel_rfl) (fun _ _ _ h => h) (Or.inr ⟨by rfl, rfl⟩) hS ?_
      simp only [Act.put, List.setIfInBounds_toArray, List.set_cons_zero, List.set_cons_succ]
      refine wpAnyH_take (i := 12) (oi := ⟨some 24, _, _, _, _, _⟩) (v := undef) rfl (by kernel_rfl) (by kernel_rfl) (by kernel_rfl) (fun _ _ _ h => h) (Or.inr ⟨by rfl, rfl⟩) hS ?_
      simp only [Act.put, List.setIfInBounds_toArray, List.set_cons_zero, List.set_cons_succ]
      refine' wpAnyH_take (i := 13) (oi := ⟨some 25, _, _, _, _, _⟩) (v := _) rfl (by kernel_rfl) (by kernel_rfl) (by kernel_rfl) (fun _ _ _ h => h) (Or.inl ⟨by rfl, ?_⟩) hS ?_
      rotate_left
      · intro w hSw
        try dsimp only at hSw
        go_simp
        all_goals with_reducible rfl
      simp only [Act.put, List.setIfInBounds_toArray, List.set_cons_zero, List.set_cons_succ]
      refine wpAnyH_done (by kernel_rfl) ?_ _
      have H1 := hide h1
      clear h1
      gi_wp2
      refine ⟨(KeepsOthers.drew W).from _, thereK_same rfl, HT2.out.drew, HB0.out, HB1.out, HB2.out, HB3.out, fun j hj => ?_, HBB.out.drew⟩
      rcases List.mem_append.1 hj with hj | hj
      · exact HN.out j hj
      · simp at hj
        subst hj
        simp [hit, H1.out]
    | true =>
      cases h2 : (c.way x).pg == pg with
      | false =>
        refine wpIn_region_held (S := fun w' => w'.cell? ⟨g, pos x, none⟩ = some (.int .i64 (c.way x).sp) ∧ w'.cell? ⟨g, pos x + 1, none⟩ = some (.int .i64 (c.way x).pg) ∧ w'.cell? ⟨w.heap.size, 0, none⟩ = some (.int .i64 sp) ∧ w'.cell? ⟨w.heap.size + 1, 0, none⟩ = some (.int .i64 pg)) (HF.out.inRound l) (by kernel_rfl) (fun ⟨_, _, h⟩ => h) (by kernel_rfl) hS (fun hS => ?_)
        refine' wpAnyH_take (i := 0) (oi := ⟨some 12, _, _, _, _, _⟩) (v := _) rfl (by kernel_rfl) (by kernel_rfl) (by kernel_rfl) (fun _ _ _ h => h) (Or.inl ⟨by rfl, ?_⟩) hS ?_
        rotate_left
        · intro w hSw
          try dsimp only at hSw
          go_simp
          all_goals with_reducible rfl
        simp only [Act.put, List.setIfInBounds_toArray, List.set_cons_zero, List.set_cons_succ]
        refine' wpAnyH_take (i := 1) (oi := ⟨some 13, _, _, _, _, _⟩) (v := _) rfl (by kernel_rfl) (by kernel_rfl) (by kernel_rfl) (fun _ _ _ h => h) (Or.inl ⟨by rfl, ?_⟩) hS ?_
        rotate_left
        · intro w hSw
          try dsimp only at hSw
          go_simp
          all_goals with_reducible rfl
        simp only [Act.put, List.setIfInBounds_toArray, List.set_cons_zero, List.set_cons_succ]
        refine' wpAnyH_take (i := 2) (oi := ⟨some 14, _, _, _, _, _⟩) (v := _) rfl (by kernel_rfl) (by kernel_rfl) (by kernel_rfl) (fun _ _ _ h => h) (Or.inl ⟨by rfl, ?_⟩) hS ?_
        rotate_left
        · intro w hSw
          try dsimp only at hSw
          go_simp
          all_goals with_reducible rfl
        simp only [Act.put, List.setIfInBounds_toArray, List.set_cons_zero, List.set_cons_succ]
        refine' wpAnyH_take (i := 3) (oi := ⟨some 15, _, _, _, _, _⟩) (v := _) rfl (by kernel_rfl) (by kernel_rfl) (by kernel_rfl) (fun _ _ _ h => h) (Or.inl ⟨by rfl, ?_⟩) hS ?_
        rotate_left
        · intro w hSw
          try dsimp only at hSw
          go_simp
          all_goals with_reducible rfl
        simp only [Act.put, List.setIfInBounds_toArray, List.set_cons_zero, List.set_cons_succ]
        refine' wpAnyH_take (i := 4) (oi := ⟨some 16, _, _, _, _, _⟩) (v := _) rfl (by kernel_rfl) (by kernel_rfl) (by kernel_rfl) (fun _ _ _ h => h) (Or.inl ⟨by rfl, ?_⟩) hS ?_
        rotate_left
        · intro w hSw
          try dsimp only at hSw
          go_simp
          all_goals with_reducible rfl
        simp only [Act.put, List.setIfInBounds_toArray, List.set_cons_zero, List.set_cons_succ]
        refine' wpAnyH_take (i := 5) (oi := ⟨some 17, _, _, _, _, _⟩) (v := _) rfl (by kernel_rfl) (by kernel_rfl) (by kernel_rfl) (fun _ _ _ h => h) (Or.inl ⟨by rfl, ?_⟩) hS ?_
        rotate_left
        · intro w hSw
          try dsimp only at hSw
          go_simp
          all_goals with_reducible rfl
        simp only [Act.put, List.setIfInBounds_toArray, List.set_cons_zero, List.set_cons_succ]
        refine' wpAnyH_take (i := 6) (oi := ⟨some 18, _, _, _, _, _⟩) (v := _) rfl (by kernel_rfl) (by kernel_rfl) (by kernel_rfl) (fun _ _ _ h => h) (Or.inl ⟨by rfl, ?_⟩) hS ?_
        rotate_left
        · intro w hSw
          try dsimp only at hSw
          go_simp
          all_goals with_reducible rfl
        simp only [Act.put, List.setIfInBounds_toArray, List.set_cons_zero, List.set_cons_succ]
        refine' wpAnyH_take (i := 7) (oi := ⟨some 19, _, _, _, _, _⟩) (v := _) rfl (by kernel_rfl) (by kernel_rfl) (by kernel_rfl) (fun _ _ _ h => h) (Or.inl ⟨by rfl, ?_⟩) hS ?_
        rotate_left
        · intro w hSw
          try dsimp only at hSw
          go_simp
          all_goals with_reducible rfl
        simp only [Act.put, List.setIfInBounds_toArray, List.set_cons_zero, List.set_cons_succ]
        refine' wpAnyH_take (i := 8) (oi := ⟨some 20, _, _, _, _, _⟩) (v := _) rfl (by kernel_rfl) (by kernel_rfl) (by kernel_rfl) (fun _ _ _ h => h) (Or.inl ⟨by rfl, ?_⟩) hS ?_
        rotate_left
        · intro w hSw
          try dsimp only at hSw
          go_simp
          all_goals with_reducible rfl
        simp only [Act.put, List.setIfInBounds_toArray, List.set_cons_zero, List.set_cons_succ]
        refine' wpAnyH_take (i := 9) (oi := ⟨some 21, _, _, _, _, _⟩) (v := _) rfl (by kernel_rfl) (by kernel_rfl) (by kernel_rfl) (fun _ _ _ h => h) (Or.inl ⟨by rfl, ?_⟩) hS ?_
        rotate_left
        · intro w hSw
          try dsimp only at hSw
          go_simp
          all_goals with_reducible rfl
        simp only [Act.put, List.setIfInBounds_toArray, List.set_cons_zero, List.set_cons_succ]
        refine' wpAnyH_take (i := 10) (oi := ⟨some 22, _, _, _, _, _⟩) (v := _) rfl (by kernel_rfl) (by kernel_rfl) (by kernel_rfl) (fun _ _ _ h => h) (Or.inl ⟨by rfl, ?_⟩) hS ?_
        rotate_left
        · intro w hSw
          try dsimp only at hSw
          go_simp
          all_goals with_reducible rfl
        simp only [Act.put, List.setIfInBounds_toArray, List.set_cons_zero, List.set_cons_succ]
        refine' wpAnyH_take (i := 11) (oi := ⟨some 23, _, _, _, _, _⟩) (v := _) rfl (by kernel_rfl) (by kernel_rfl) (by kernel_rfl) (fun _ _ _ h => h) (Or.inl ⟨by rfl, ?_⟩) hS ?_
        rotate_left
        · intro w hSw
          try dsimp only at hSw
          go_simp
          all_goals with_reducible rfl
        simp only [Act.put, List.setIfInBounds_toArray, List.set_cons_zero, List.set_cons_succ]
        refine' wpAnyH_take (i := 12) (oi := ⟨some 24, _, _, _, _, _⟩) (v := _) rfl (by kernel_rfl) (by kernel_rfl) (by kernel_rfl) (fun _ _ _ h => h) (Or.inl ⟨by rfl, ?_⟩) hS ?_
        rotate_left
        · intro w hSw
          try dsimp only at hSw
          go_simp
          all_goals with_reducible rfl
        simp only [Act.put, List.setIfInBounds_toArray, List.set_cons_zero, List.set_cons_succ]
        refine' wpAnyH_take (i := 13) (oi := ⟨some 25, _, _, _, _, _⟩) (v := _) rfl (by kernel_rfl) (by kernel_rfl) (by kernel_rfl) (fun _ _ _ h => h) (Or.inl ⟨by rfl, ?_⟩) hS ?_
        rotate_left
        · intro w hSw
          try dsimp only at hSw
          go_simp
          all_goals with_reducible rfl
        simp only [Act.put, List.setIfInBounds_toArray, List.set_cons_zero, List.set_cons_succ]
        refine wpAnyH_done (by kernel_rfl) ?_ _
        have H1 := hide h1
        have H2 := hide h2
        clear h1 h2
        gi_wp2
        refine ⟨(KeepsOthers.drew W).from _, thereK_same rfl, HT2.out.drew, HB0.out, HB1.out, HB2.out, HB3.out, fun j hj => ?_, HBB.out.drew⟩
        rcases List.mem_append.1 hj with hj | hj
        · exact HN.out j hj
        · simp at hj
          subst hj
          simp [hit, H1.out, H2.out]
      | true =>
        refine wpIn_region_held (S := fun w' => w'.cell? ⟨g, pos x, none⟩ = some (.int .i64 (c.way x).sp) ∧ w'.cell? ⟨g, pos x + 1, none⟩ = some (.int .i64 (c.way x).pg) ∧ w'.cell? ⟨w.heap.size, 0, none⟩ = some (.int .i64 sp) ∧ w'.cell? ⟨w.heap.size + 1, 0, none⟩ = some (.int .i64 pg)) (HF.out.inRound l) (by kernel_rfl) (fun ⟨_, _, h⟩ => h) (by kernel_rfl) hS (fun hS => ?_)
        refine' wpAnyH_take (i := 0) (oi := ⟨some 12, _, _, _, _, _⟩) (v := _) rfl (by kernel_rfl) (by kernel_rfl) (by kernel_rfl) (fun _ _ _ h => h) (Or.inl ⟨by rfl, ?_⟩) hS ?_
        rotate_left
        · intro w hSw
          try dsimp only at hSw
          go_simp
          all_goals with_reducible rfl
        simp only [Act.put, List.setIfInBounds_toArray, List.set_cons_zero, List.set_cons_succ]
        refine' wpAnyH_take (i := 1) (oi := ⟨some 13, _, _, _, _, _⟩) (v := _) rfl (by kernel_rfl) (by kernel_rfl) (by kernel_rfl) (fun _ _ _ h => h) (Or.inl ⟨by rfl, ?_⟩) hS ?_
        rotate_left
        · intro w hSw
          try dsimp only at hSw
          go_simp
          all_goals with_reducible rfl
        simp only [Act.put, List.setIfInBounds_toArray, List.set_cons_zero, List.set_cons_succ]
        refine' wpAnyH_take (i := 2) (oi := ⟨some 14, _, _, _, _, _⟩) (v := _) rfl (by kernel_rfl) (by kernel_rfl) (by kernel_rfl) (fun _ _ _ h => h) (Or.inl ⟨by rfl, ?_⟩) hS ?_
        rotate_left
        · intro w hSw
          try dsimp only at hSw
          go_simp
          all_goals with_reducible rfl
        simp only [Act.put, List.setIfInBounds_toArray, List.set_cons_zero, List.set_cons_succ]
        refine' wpAnyH_take (i := 3) (oi := ⟨some 15, _, _, _, _, _⟩) (v := _) rfl (by kernel_rfl) (by kernel_rfl) (by kernel_rfl) (fun _ _ _ h => h) (Or.inl ⟨by rfl, ?_⟩) hS ?_
        rotate_left
        · intro w hSw
          try dsimp only at hSw
          go_simp
          all_goals with_reducible rfl
        simp only [Act.put, List.setIfInBounds_toArray, List.set_cons_zero, List.set_cons_succ]
        refine' wpAnyH_take (i := 4) (oi := ⟨some 16, _, _, _, _, _⟩) (v := _) rfl (by kernel_rfl) (by kernel_rfl) (by kernel_rfl) (fun _ _ _ h => h) (Or.inl ⟨by rfl, ?_⟩) hS ?_
        rotate_left
        · intro w hSw
          try dsimp only at hSw
          go_simp
          all_goals with_reducible rfl
        simp only [Act.put, List.setIfInBounds_toArray, List.set_cons_zero, List.set_cons_succ]
        refine' wpAnyH_take (i := 5) (oi := ⟨some 17, _, _, _, _, _⟩) (v := _) rfl (by kernel_rfl) (by kernel_rfl) (by kernel_rfl) (fun _ _ _ h => h) (Or.inl ⟨by rfl, ?_⟩) hS ?_
        rotate_left
        · intro w hSw
          try dsimp only at hSw
          go_simp
          all_goals with_reducible rfl
        simp only [Act.put, List.setIfInBounds_toArray, List.set_cons_zero, List.set_cons_succ]
        refine' wpAnyH_take (i := 6) (oi := ⟨some 18, _, _, _, _, _⟩) (v := _) rfl (by kernel_rfl) (by kernel_rfl) (by kernel_rfl) (fun _ _ _ h => h) (Or.inl ⟨by rfl, ?_⟩) hS ?_
        rotate_left
        · intro w hSw
          try dsimp only at hSw
          go_simp
          all_goals with_reducible rfl
        simp only [Act.put, List.setIfInBounds_toArray, List.set_cons_zero, List.set_cons_succ]
        refine' wpAnyH_take (i := 7) (oi := ⟨some 19, _, _, _, _, _⟩) (v := _) rfl (by kernel_rfl) (by kernel_rfl) (by kernel_rfl) (fun _ _ _ h => h) (Or.inl ⟨by rfl, ?_⟩) hS ?_
        rotate_left
        · intro w hSw
          try dsimp only at hSw
          go_simp
          all_goals with_reducible rfl
        simp only [Act.put, List.setIfInBounds_toArray, List.set_cons_zero, List.set_cons_succ]
        refine' wpAnyH_take (i := 8) (oi := ⟨some 20, _, _, _, _, _⟩) (v := _) rfl (by kernel_rfl) (by kernel_rfl) (by kernel_rfl) (fun _ _ _ h => h) (Or.inl ⟨by rfl, ?_⟩) hS ?_
        rotate_left
        · intro w hSw
          try dsimp only at hSw
          go_simp
          all_goals with_reducible rfl
        simp only [Act.put, List.setIfInBounds_toArray, List.set_cons_zero, List.set_cons_succ]
        refine' wpAnyH_take (i := 9) (oi := ⟨some 21, _, _, _, _, _⟩) (v := _) rfl (by kernel_rfl) (by kernel_rfl) (by kernel_rfl) (fun _ _ _ h => h) (Or.inl ⟨by rfl, ?_⟩) hS ?_
        rotate_left
        · intro w hSw
          try dsimp only at hSw
          go_simp
          all_goals with_reducible rfl
        simp only [Act.put, List.setIfInBounds_toArray, List.set_cons_zero, List.set_cons_succ]
        refine' wpAnyH_take (i := 10) (oi := ⟨some 22, _, _, _, _, _⟩) (v := _) rfl (by kernel_rfl) (by kernel_rfl) (by kernel_rfl) (fun _ _ _ h => h) (Or.inl ⟨by rfl, ?_⟩) hS ?_
        rotate_left
        · intro w hSw
          try dsimp only at hSw
          go_simp
          all_goals with_reducible rfl
        simp only [Act.put, List.setIfInBounds_toArray, List.set_cons_zero, List.set_cons_succ]
        refine' wpAnyH_take (i := 11) (oi := ⟨some 23, _, _, _, _, _⟩) (v := _) rfl (by kernel_rfl) (by kernel_rfl) (by kernel_rfl) (fun _ _ _ h => h) (Or.inl ⟨by rfl, ?_⟩) hS ?_
        rotate_left
        · intro w hSw
          try dsimp only at hSw
          go_simp
          all_goals with_reducible rfl
        simp only [Act.put, List.setIfInBounds_toArray, List.set_cons_zero, List.set_cons_succ]
        refine' wpAnyH_take (i := 12) (oi := ⟨some 24, _, _, _, _, _⟩) (v := _) rfl (by kernel_rfl) (by kernel_rfl) (by kernel_rfl) (fun _ _ _ h => h) (Or.inl ⟨by rfl, ?_⟩) hS ?_
        rotate_left
        · intro w hSw
          try dsimp only at hSw
          go_simp
          all_goals with_reducible rfl
        simp only [Act.put, List.setIfInBounds_toArray, List.set_cons_zero, List.set_cons_succ]
        refine' wpAnyH_take (i := 13) (oi := ⟨some 25, _, _, _, _, _⟩) (v := _) rfl (by kernel_rfl) (by kernel_rfl) (by kernel_rfl) (fun _ _ _ h => h) (Or.inl ⟨by rfl, ?_⟩) hS ?_
        rotate_left
        · intro w hSw
          try dsimp only at hSw
          go_simp
          all_goals with_reducible rfl
        simp only [Act.put, List.setIfInBounds_toArray, List.set_cons_zero, List.set_cons_succ]
        refine wpAnyH_done (by kernel_rfl) ?_ _
        have hfv := findV_hit hx8 HX.out (by rw [← HP.out]; exact HN.out) (show hit c sp pg x = true by simp [hit, h1, h2])
        have H1 := hide hfv
        clear h1 h2 hfv
        obtain ⟨r0, r1, r2, r3, r4⟩ := blk_row HB2.out
        have q0 := HB2.out.frozen 0
        have q1 := HB2.out.frozen 1
        have q2 := HB2.out.frozen 2
        have q3 := HB2.out.frozen 3
        have q4 := HB2.out.frozen 4
        have r5 := HB3.out.cell 0
        have q5 := HB3.out.frozen 0
        gi_wp2
        have hz2 := ((blk5_set HB2.out (c.way x)).far (p := ⟨w.heap.size + 1 + 1 + 1, 0, none⟩) (show w.heap.size + 1 + 1 ≠ w.heap.size + 1 + 1 + 1 by omega) (.bool true)).drew
        have hm3 := stored5_mod (Mod.refl (· = w.heap.size + 1 + 1) W) (g := w.heap.size + 1 + 1) (.inl rfl) 0 (c.way x)
        have hz3 := ((HB3.out.mod hm3 (by omega)).set_ 0 (.bool true)).drew
        have hmz := ((stored5_mod (Mod.refl (fun k => k = w.heap.size + 1 + 1 ∨ k = w.heap.size + 1 + 1 + 1) W) (g := w.heap.size + 1 + 1) (.inl (.inl rfl)) 0 (c.way x)).setCell (p := ⟨w.heap.size + 1 + 1 + 1, 0, none⟩) (.inl (.inr rfl)) (.bool true)).drew
        exact ⟨((keeps_set (stored5_keeps (KeepsOthers.refl W) (w.heap.size + 1 + 1) 0 (c.way x))).trans (KeepsOthers.drew _)).from _, rfl, x, H1.out, hz2, hz3, below_mod HBB.out (Nat.le_refl _) hmz (fun k hk => by omega)⟩
  case done =>
    rintro D xs W hD hxs ⟨hT, hb0', hb1', hb2', hb3', hnot, hB⟩ hd
    subst hxs
    have HB2 := hide hb2'
    have HB3 := hide hb3'
    have HN := hide hnot
    have HBB := hide hB
    have HDD := hide hd
    obtain ⟨r0, r1, r2, r3, r4⟩ := blk_row hb2'
    have q0 := hb2'.frozen 0
    have q1 := hb2'.frozen 1
    have q2 := hb2'.frozen 2
    have q3 := hb2'.frozen 3
    have q4 := hb2'.frozen 4
    have r5 := hb3'.cell 0
    have q5 := hb3'.frozen 0
    clear hT hb0' hb1' hb2' hb3' hnot hB hd
    gi_wp2
    have hz2 := (blk5_set HB2.out Tr.zero).far (p := ⟨w.heap.size + 1 + 1 + 1, 0, none⟩) (show w.heap.size + 1 + 1 ≠ w.heap.size + 1 + 1 + 1 by omega) (.bool false)
    have hm3 := stored5_mod (Mod.refl (· = w.heap.size + 1 + 1) W) (g := w.heap.size + 1 + 1) (.inl rfl) 0 Tr.zero
    have hz3 := (HB3.out.mod hm3 (by omega)).set_ 0 (.bool false)
    have hmz := (stored5_mod (Mod.refl (fun k => k = w.heap.size + 1 + 1 ∨ k = w.heap.size + 1 + 1 + 1) W) (g := w.heap.size + 1 + 1) (.inl (.inl rfl)) 0 Tr.zero).setCell (p := ⟨w.heap.size + 1 + 1 + 1, 0, none⟩) (.inl (.inr rfl)) (.bool false)
    have hBz := below_mod HBB.out (Nat.le_refl _) hmz (fun k hk => by omega)
    have hdz := (keeps_set (p := ⟨w.heap.size + 1 + 1 + 1, 0, none⟩) (u := .bool false) (stored5_keeps (KeepsOthers.refl W) (w.heap.size + 1 + 1) 0 Tr.zero)).same D _ HDD.out rfl
    change bodyPostM F q Try.prog Try.f51 _ _ _ ((stored5 W (w.heap.size + 1 + 1) 0 Tr.zero).setCell ⟨w.heap.size + 1 + 1 + 1, 0, none⟩ (.bool false))
    clear hm3 hmz
    generalize (stored5 W (w.heap.size + 1 + 1) 0 Tr.zero).setCell ⟨w.heap.size + 1 + 1 + 1, 0, none⟩ (.bool false) = Wz at *
    have hz3 : Blk Wz (w.heap.size + 1 + 1 + 1) 4 #[.bool false] := hz3
    have skf := Skips.putObj (B := W0.heap.size) hdz rfl hD (.deferred none)
    refine ⟨by simp, .inl ⟨_, _, rfl, run_takeDeferred hdz, ?_⟩⟩
    have zr := skf.blk hz2
    have zb := skf.blk hz3
    obtain ⟨z0, z1, z2, z3, z4⟩ := blk_row zr
    have z5 := zb.cell 0
    refine ⟨.tuple #[.agg Tr.zero.row, .bool false], ?_, ?_, below_skips hBz skf hb0.size (Nat.le_refl _)⟩
    · simp [results, Try.f51, go_sem, z0, z1, z2, z3, z4, z5, Tr.row]
    · rw [show findTr c sp pg = Tr.zero by unfold findTr; rw [findV_none HN.out], show findOk c sp pg = false by unfold findOk; rw [findV_none HN.out]; rfl]
  case stop =>
    rintro D k pre W hD ⟨rfl, i, hi, hz2, hz3, hBz⟩ hdz
    gi_wp2
    have skf := Skips.putObj (B := W0.heap.size) hdz rfl hD (.deferred none)
    refine ⟨by simp, .inl ⟨_, _, rfl, run_takeDeferred hdz, ?_⟩⟩
    have zr := skf.blk hz2
    have zb := skf.blk hz3
    obtain ⟨z0, z1, z2, z3, z4⟩ := blk_row zr
    have z5 := zb.cell 0
    refine ⟨.tuple #[.agg (c.way i).row, .bool true], ?_, ?_, below_skips hBz skf hb0.size (Nat.le_refl _)⟩
    · simp [results, Try.f51, go_sem, z0, z1, z2, z3, z4, z5, Tr.row]
    · rw [show findTr c sp pg = c.way i by unfold findTr; rw [hi], show findOk c sp pg = true by unfold findOk; rw [hi]; rfl]
theorem find_in (g : Nat) (c : Cache) (sp pg : Int) (w : World) (hT : TlbAt w g c) :
    Calls Try.prog 51 #[.pointer (some ⟨g, 0, none⟩), .int .i64 sp, .int .i64 pg] w fun e w' => e = .returned (.tuple #[.agg (findTr c sp pg).row, .bool (findOk c sp pg)]) ∧ Below w.heap.size w w' :=
  callsIn_wide.1 (find_in_F Fence.wide 10 (wideF _) rfl (by omega) g c sp pg w hT)
end Go.Proofs.Ytjnnimdgmcpjoaa
