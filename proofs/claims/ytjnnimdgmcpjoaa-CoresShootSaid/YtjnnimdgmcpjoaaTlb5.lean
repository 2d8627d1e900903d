/- The walks of a cache's drop, DropPage, DropSpace, DropAll. -/
import Derived.Test.YtjnnimdgmcpjoaaTlb4
namespace Go.Proofs.Ytjnnimdgmcpjoaa
open Go.RowKit Go.Shelf
attribute [local go_sem] Oper.semAt_some
/-- Those of a list that P takes are gone. -/
def dropAt (c : Cache) (P : Tr → Bool) (l : List Nat) : Cache := ⟨fun i => if i ∈ l ∧ P (c.way i) = true then Tr.zero else c.way i, c.due⟩
def dropN (c : Cache) (P : Tr → Bool) (l : List Nat) : Nat := (l.filter fun i => P (c.way i)).length
theorem dropAt_nil (c : Cache) (P : Tr → Bool) : dropAt c P [] = c := by
  cases c
  simp [dropAt]
theorem dropAt_yes {c : Cache} {P : Tr → Bool} {l : List Nat} {x : Nat} (h : P (c.way x) = true) : (dropAt c P l).put x Tr.zero = dropAt c P (l ++ [x]) := by
  simp only [dropAt, Cache.put, Cache.mk.injEq, and_true]
  funext j
  by_cases e : j = x
  · subst e
    rw [if_pos rfl, if_pos ⟨by simp, h⟩]
  · rw [if_neg e]
    have : (j ∈ l ++ [x]) ↔ j ∈ l := by simp [e]
    simp only [this]
theorem dropAt_no {c : Cache} {P : Tr → Bool} {l : List Nat} {x : Nat} (h : P (c.way x) = false) : dropAt c P (l ++ [x]) = dropAt c P l := by
  simp only [dropAt, Cache.mk.injEq, and_true]
  funext j
  by_cases e : j = x
  · subst e
    rw [if_neg (by simp [h]), if_neg (by simp [h])]
  · have : (j ∈ l ++ [x]) ↔ j ∈ l := by simp [e]
    simp only [this]
theorem dropN_yes {c : Cache} {P : Tr → Bool} {l : List Nat} {x : Nat} (h : P (c.way x) = true) : dropN c P (l ++ [x]) = dropN c P l + 1 := by simp [dropN, List.filter_append, h]
theorem dropN_no {c : Cache} {P : Tr → Bool} {l : List Nat} {x : Nat} (h : P (c.way x) = false) : dropN c P (l ++ [x]) = dropN c P l := by simp [dropN, List.filter_append, h]
theorem dropN_le (c : Cache) (P : Tr → Bool) (l : List Nat) : dropN c P l ≤ l.length := List.length_filter_le _ _
set_option maxRecDepth 100000 in
set_option maxHeartbeats 4000000 in
theorem drop_in_F (F : Fence) (q : Nat) (hF : WideF F Try.prog) (hro : F.round = none) (hq : 3 ≤ q) (g : Nat) (c : Cache) (P : Tr → Bool) (f : FuncId) (lb : Array Value) (w : World) (hT : TlbAt w g c)
    (hcall : ∀ args w, (callFunc f args).run Try.prog w = .ok (.enter f args) w)
    (hspec : ∀ (y : Tr) (W : World), Mod (· = g) w W → Calls Try.prog f (#[.agg y.row] ++ lb) W fun e W' => e = .returned (.bool (P y)) ∧ Below W.heap.size W W') :
    CallsIn F q Try.prog 75 #[.pointer (some ⟨g, 0, none⟩), .func (.func f) #[] lb] w fun e w' => e = .returned (.int .i64 (dropN c P (vis c 8))) ∧ TlbAt w' g (dropAt c P (vis c 8)) ∧ Mod (· = g) w w' := by
  have hlt := hT.lt
  have hq1 : 1 ≤ q := by omega
  have HT := hide hT
  have HF := hide hF
  have HS := hide hspec
  have HC := hide hcall
  have hfn := hF.fn
  refine callsIn_of_wp_marks Try.func75 rfl (hF.fn _) ?_ hro
  clear hF hT hspec hcall
  simp only [Try.ntmps75, List.size_toArray, List.length_cons, List.length_nil, Nat.reduceAdd, Nat.reduceSub, Array.replicate_succ, Array.replicate_zero, List.push_toArray, List.append_toArray, List.nil_append, List.cons_append]
  gi_wp2_with (gi_at_call 73; refine (there_in F (q - 1) HF.out hro _ _).mono ?_; rintro e w' ⟨rfl, rfl⟩)
  obtain ⟨W0, hW0⟩ : ∃ W0 : World, (((w.alloc (.cells #[.func (.func f) #[] lb] 164)).alloc (.cells #[.int .i64 0] 3)).alloc (.cells #[.pointer (some ⟨g, 0, none⟩)] 99)) = W0 := ⟨_, rfl⟩
  have b0 : Blk W0 w.heap.size 164 #[.func (.func f) #[] lb] := by rw [← hW0]; exact ((Blk.new w _ _).alloc _).alloc _
  have b1 : Blk W0 (w.heap.size + 1) 3 #[.int .i64 0] := by
    have h := (Blk.new (w.alloc (.cells #[.func (.func f) #[] lb] 164)) 3 #[.int .i64 0]).alloc (.cells #[.pointer (some ⟨g, 0, none⟩)] 99)
    simp only [World.size_alloc] at h
    rw [← hW0]; exact h
  have b2 : Blk W0 (w.heap.size + 1 + 1) 99 #[.pointer (some ⟨g, 0, none⟩)] := by
    have h := Blk.new ((w.alloc (.cells #[.func (.func f) #[] lb] 164)).alloc (.cells #[.int .i64 0] 3)) 99 #[.pointer (some ⟨g, 0, none⟩)]
    simp only [World.size_alloc] at h
    rw [← hW0]; exact h
  have hbw : Below w.heap.size w W0 := by rw [← hW0]; exact (((Below.refl _ w).alloc (Nat.le_refl _) _).alloc (by simp) _).alloc (by simp; omega) _
  have hb0 : Mod (· = g) w W0 := by rw [← hW0]; exact (((Mod.refl _ w).alloc _).alloc _).alloc _
  change Code.wpIn _ _ _ _ _ _ (((w.alloc (.cells #[.func (.func f) #[] lb] 164)).alloc (.cells #[.int .i64 0] 3)).alloc (.cells #[.pointer (some ⟨g, 0, none⟩)] 99))
  rw [hW0]
  clear hW0
  have hT0 := HT.out.below hbw hlt
  have hl4 := b2.lt
  refine' wpIn_iter1 hro hq1 (gf := 89) (lb := _) rfl (hfn _) (enters_of Try.func89 (by kernel_rfl) rfl) (there_iter F (q - 1) HF.out hro (by omega) g _ c W0 hT0 b2)
    (fun pre x A B C D h1 h2 h3 => ?hK) (fun _ _ _ _ h hk => ⟨h.1, h.2.1, h.2.2.1, by obtain ⟨c', h1, h2⟩ := h.2.2.2; exact ⟨c', h1.skips hk, h2⟩⟩) (fun _ _ _ h _ => h) (fun _ => rfl)
    (fun pre W => TlbAt W g (dropAt c P pre) ∧ Blk W w.heap.size 164 #[.func (.func f) #[] lb] ∧ Blk W (w.heap.size + 1) 3 #[.int .i64 (dropN c P pre : Nat)] ∧ Blk W (w.heap.size + 1 + 1) 99 #[.pointer (some ⟨g, 0, none⟩)] ∧ Mod (· = g) w W)
    (fun _ _ _ => False)
    ?hI (fun _ _ _ _ h _ => h) ?h0 _ ?assign ?body ?done (fun _ _ _ _ _ h _ => h.elim)
  case hK =>
    refine ⟨KeepB.skips (fun k hk => by omega) h1 h2.1 h3, fun c' hc' => ?_⟩
    obtain ⟨y, hy⟩ := h2.2 c' (hc'.skips h1)
    exact ⟨y, hy.skips h3⟩
  case hI =>
    rintro s A C ⟨h1, h2, h3, h4, h5⟩ hk
    exact ⟨h1.skips hk, hk.blk h2, hk.blk h3, hk.blk h4, h5.skips hk hb0.size⟩
  case h0 => exact ⟨by rw [dropAt_nil]; exact hT0, b0, b1, b2, hb0⟩
  case assign =>
    intro l x W K hK
    gi_wp2
    exact hK
  case body =>
    rintro l pre x W hl hr ⟨hT, hb, hn, hbt, hm⟩ ⟨hx8, hx0, hpre, _⟩
    have hxp : x ∉ pre := by rw [hpre]; exact fun h => by have := (mem_vis.1 h).1; omega
    have hway : (dropAt c P pre).way x = c.way x := by simp only [dropAt]; rw [if_neg (fun h => hxp h.1)]
    obtain ⟨t0, t1, t2, t3, t4⟩ := hT.cell x hx8
    rw [hway] at t0 t1 t2 t3 t4
    have hplen : dropN c P pre ≤ 8 := Nat.le_trans (dropN_le c P pre) (by rw [hpre]; exact Nat.le_trans (vis_len c x) (by omega))
    have hS : (fun w' : World => w'.cell? ⟨w.heap.size, 0, none⟩ = some (.func (.func f) #[] lb) ∧ w'.cell? ⟨g, pos x, none⟩ = some (.int .i64 (c.way x).sp) ∧ w'.cell? ⟨g, pos x + 1, none⟩ = some (.int .i64 (c.way x).pg) ∧ w'.cell? ⟨g, pos x + 2, none⟩ = some (.int .i64 (c.way x).fr) ∧ w'.cell? ⟨g, pos x + 3, none⟩ = some (.bool (c.way x).rd) ∧ w'.cell? ⟨g, pos x + 4, none⟩ = some (.bool (c.way x).wr)) W.drew := ⟨hb.cell 0, t0, t1, t2, t3, t4⟩
    have HT2 := hide hT
    have Hr := hide hr
    have HP := hide hpre
    have HB := hide hb
    have HN := hide hn
    have HBT := hide hbt
    have HM := hide hm
    clear hT hr hb hn hbt hm t0 t1 t2 t3 t4 hpre hway
    gi_wp2
    have hcall := HC.out
    refine wpIn_region_D 4 (fun w' => w'.cell? ⟨w.heap.size, 0, none⟩ = some (.func (.func f) #[] lb) ∧ w'.cell? ⟨g, pos x, none⟩ = some (.int .i64 (c.way x).sp) ∧ w'.cell? ⟨g, pos x + 1, none⟩ = some (.int .i64 (c.way x).pg) ∧ w'.cell? ⟨g, pos x + 2, none⟩ = some (.int .i64 (c.way x).fr) ∧ w'.cell? ⟨g, pos x + 3, none⟩ = some (.bool (c.way x).rd) ∧ w'.cell? ⟨g, pos x + 4, none⟩ = some (.bool (c.way x).wr)) (HF.out.inRound l) (by kernel_rfl) (fun ⟨_, _, h⟩ => h) (by kernel_rfl) ?_
    refine' wpAnyD_take (i := 0) (oi := ⟨some 10, _, _, _, _, _⟩) (v := _) rfl (by kernel_rfl) (by kernel_rfl) (by kernel_rfl) (by kernel_rfl) (fun _ _ _ h => h) (Or.inl ⟨by rfl, ?_⟩) hS ?_
    rotate_left
    · intro w hSw
      try dsimp only at hSw
      go_simp
      all_goals with_reducible rfl
    simp only [Act.put, List.setIfInBounds_toArray, List.set_cons_zero, List.set_cons_succ]
    refine wpAnyD_ready (rs := [1]) (by kernel_rfl) (by simp) ?_
    refine AllReadyD.cons (o := ⟨some 11, _, _, _, _, _⟩) rfl (fun K hK => ?_) AllReadyD.nil
    go_simp
    refine hK.out _ _ (fun _ => hS) (fun _ => ?_)
    clear hK K
    refine wpAnyD_ready (rs := [2]) (by kernel_rfl) (by simp) ?_
    refine AllReadyD.cons (o := ⟨some 12, _, _, _, _, _⟩) rfl (fun K hK => ?_) AllReadyD.nil
    go_simp
    refine hK.out _ _ (fun _ => hS) (fun _ => ?_)
    clear hK K
    refine wpAnyD_ready (rs := [3]) (by kernel_rfl) (by simp) ?_
    refine AllReadyD.cons (o := ⟨some 13, _, _, _, _, _⟩) rfl (fun K hK => ?_) AllReadyD.nil
    go_simp
    refine hK.out _ _ (fun _ => hS) (fun _ => ?_)
    clear hK K
    refine wpAnyD_ready (rs := [4]) (by kernel_rfl) (by simp) ?_
    refine AllReadyD.cons (o := ⟨some 14, _, _, _, _, _⟩) rfl (fun K hK => ?_) AllReadyD.nil
    go_simp
    refine (HS.out (c.way x) _ HM.out.drew).mono ?_
    rintro e w2 ⟨rfl, hb2⟩
    have hz2 := hb2.size
    have hltW : g < W.heap.size := HT2.out.lt
    have HT3 := hide (HT2.out.drew.below hb2 hltW)
    have HB3 := hide (HB.out.drew.below hb2 HB.out.lt)
    have HN3 := hide (HN.out.drew.below hb2 HN.out.lt)
    have HBT3 := hide (HBT.out.drew.below hb2 HBT.out.lt)
    have HM3 := hide (HM.out.drew.trans ((Mod.of_below hb2 (· = g))))
    have HK3 := hide ((KeepsOthers.drew W).trans ⟨hb2.size, fun k o hk _ => (hb2.block k (Array.getElem?_eq_some_iff.1 hk).1).trans hk⟩)
    have HE3 := hide (show Mod (fun _ => False) W w2 from (Mod.refl (fun _ => False) W).drew.trans (Mod.of_below hb2 _))
    refine hK.out _ _ (fun h => absurd h (by decide)) (fun _ => ?_)
    clear hK K hS hcall hb2
    refine wpAnyD_done (by kernel_rfl) ?_ _
    cases hP : P (c.way x) with
    | true =>
      have HPP := hide hP
      obtain ⟨r0, r1, r2, r3, r4⟩ := HT3.out.cell x hx8
      have q0 := HT3.out.frozen (pos x)
      have q1 := HT3.out.frozen (pos x + 1)
      have q2 := HT3.out.frozen (pos x + 2)
      have q3 := HT3.out.frozen (pos x + 3)
      have q4 := HT3.out.frozen (pos x + 4)
      have r5 := HN3.out.cell 0
      have q5 := HN3.out.frozen 0
      clear hP
      gi_wp2
      have hput := HT3.out.put x hx8 Tr.zero
      rw [dropAt_yes HPP.out] at hput
      have hmp := stored5_mod (Mod.refl (· = g) w2) (g := g) (.inl rfl) (pos x) Tr.zero
      have hgH : ¬ w.heap.size = g := by omega
      have hgH1 : ¬ w.heap.size + 1 = g := by omega
      have hgH2 : ¬ w.heap.size + 1 + 1 = g := by omega
      have hn2 := (HN3.out.mod hmp hgH1).set_ 0 (.int .i64 ((dropN c P pre : Nat) + 1 : Int))
      have hm1 := Mod.one (w.heap.size + 1) (stored5 w2 g (pos x) Tr.zero) 0 (.int .i64 ((dropN c P pre : Nat) + 1 : Int))
      refine ⟨(HK3.out.trans (keeps_set (stored5_keeps (KeepsOthers.refl w2) g (pos x) Tr.zero))).from _, ⟨fun k o hk ho => ?_, fun c' hc' => ⟨Tr.zero, ?_⟩⟩, hput.mod hm1 (by omega), ((HB3.out.mod hmp hgH).mod hm1 (by omega)), ?_, ((HBT3.out.mod hmp hgH2).mod hm1 (by omega)), ?_⟩
      · subst hk
        have hk2 : w.heap.size + 1 + 1 < W.heap.size := (Array.getElem?_eq_some_iff.1 ho).1
        have e1 := HE3.out.block _ hk2 (fun h => h)
        have e2 := hmp.block _ (Nat.lt_of_lt_of_le hk2 HE3.out.size) hgH2
        have e3 := hm1.block (w.heap.size + 1 + 1) (Nat.lt_of_lt_of_le (Nat.lt_of_lt_of_le hk2 HE3.out.size) hmp.size) (by omega)
        exact e3.trans (e2.trans (e1.trans ho))
      · exact ((hc'.mod HE3.out (fun h => h)).put x hx8 Tr.zero).mod hm1 (by omega)
      · rw [dropN_yes HPP.out]
        rw [show (((dropN c P pre + 1 : Nat)) : Int) = ((dropN c P pre : Nat) : Int) + 1 from by push_cast; rfl]
        exact hn2
      · exact ((stored5_mod HM3.out (.inl rfl) (pos x) Tr.zero (g := g)).setCell (p := ⟨w.heap.size + 1, 0, none⟩) (.inr (by simp)) _)
    | false =>
      have HPP := hide hP
      clear hP
      gi_wp2
      refine ⟨HK3.out.from _, ⟨fun k o hk ho => ?_, fun c' hc' => ⟨c'.way x, ?_⟩⟩, ?_, HB3.out, ?_, HBT3.out, HM3.out⟩
      · exact (HE3.out.block _ (Array.getElem?_eq_some_iff.1 ho).1 (fun h => h)).trans ho
      · rw [put_self]; exact hc'.mod HE3.out (fun h => h)
      · rw [dropAt_no HPP.out]; exact HT3.out
      · rw [dropN_no HPP.out]; exact HN3.out
  case done =>
    rintro D xs W hD rfl ⟨hT, hb, hn, hbt, hm⟩ hd
    have c1 := hn.cell 0
    have HT2 := hide hT
    have HM := hide hm
    clear hT hb hn hbt hm
    gi_wp2
    have sk := Skips.putObj (B := W0.heap.size) hd rfl hD (.deferred none)
    refine ⟨by simp, .inl ⟨_, _, rfl, run_takeDeferred hd, ?_⟩⟩
    exact ⟨_, by simp [results, Try.f75, go_sem], rfl, HT2.out.skips sk, HM.out.skips sk hb0.size⟩
theorem drop_in (g : Nat) (c : Cache) (P : Tr → Bool) (f : FuncId) (lb : Array Value) (w : World) (hT : TlbAt w g c)
    (hcall : ∀ args w, (callFunc f args).run Try.prog w = .ok (.enter f args) w)
    (hspec : ∀ (y : Tr) (W : World), Mod (· = g) w W → Calls Try.prog f (#[.agg y.row] ++ lb) W fun e W' => e = .returned (.bool (P y)) ∧ Below W.heap.size W W') :
    Calls Try.prog 75 #[.pointer (some ⟨g, 0, none⟩), .func (.func f) #[] lb] w fun e w' => e = .returned (.int .i64 (dropN c P (vis c 8))) ∧ TlbAt w' g (dropAt c P (vis c 8)) ∧ Mod (· = g) w w' :=
  callsIn_wide.1 (drop_in_F Fence.wide 10 (wideF _) rfl (by omega) g c P f lb w hT hcall hspec)

theorem mod_keeps {g : Nat} {w W : World} {b : Nat} {t : TypeId} {cs : Array Value} (h : Blk w b t cs) (hm : Mod (· = g) w W) (hne : b ≠ g) : Blk W b t cs := h.mod hm hne
set_option maxHeartbeats 1000000 in
theorem dropPage_fn (sp pg : Int) (b1 b2 : Nat) (y : Tr) (W : World) (h1 : Blk W b1 3 #[.int .i64 sp]) (h2 : Blk W b2 3 #[.int .i64 pg]) :
    Calls Try.prog 76 #[.agg y.row, .pointer (some ⟨b1, 0, none⟩), .pointer (some ⟨b2, 0, none⟩)] W fun e W' => e = .returned (.bool (y.sp == sp && y.pg == pg)) ∧ Below W.heap.size W W' := by
  have l1 := h1.lt
  have l2 := h2.lt
  have c1 := h1.cell 0
  have c2 := h2.cell 0
  obtain ⟨a, b, c, d, e⟩ := y
  unfold Tr.row
  dsimp only
  have H1 := hide h1
  have H2 := hide h2
  clear h1 h2
  cases h3 : a == sp with
  | false =>
    go_enter Try.func76, Try.ntmps76
    go_wp2
    go_ret
    exact ⟨rfl, (Below.refl _ _).alloc (Nat.le_refl _) _⟩
  | true =>
    cases h4 : b == pg with
    | false =>
      go_enter Try.func76, Try.ntmps76
      go_wp2
      go_ret
      exact ⟨rfl, (Below.refl _ _).alloc (Nat.le_refl _) _⟩
    | true =>
      go_enter Try.func76, Try.ntmps76
      go_wp2
      go_ret
      exact ⟨rfl, (Below.refl _ _).alloc (Nat.le_refl _) _⟩
set_option maxHeartbeats 1000000 in
theorem dropSpace_fn (sp : Int) (b1 : Nat) (y : Tr) (W : World) (h1 : Blk W b1 3 #[.int .i64 sp]) :
    Calls Try.prog 80 #[.agg y.row, .pointer (some ⟨b1, 0, none⟩)] W fun e W' => e = .returned (.bool (y.sp == sp)) ∧ Below W.heap.size W W' := by
  have l1 := h1.lt
  have c1 := h1.cell 0
  obtain ⟨a, b, c, d, e⟩ := y
  unfold Tr.row
  dsimp only
  have H1 := hide h1
  clear h1
  go_enter Try.func80, Try.ntmps80
  go_wp2
  go_ret
  exact ⟨rfl, (Below.refl _ _).alloc (Nat.le_refl _) _⟩
def isPage (sp pg : Int) (y : Tr) : Bool := y.sp == sp && y.pg == pg
def isSpace (sp : Int) (y : Tr) : Bool := y.sp == sp
set_option maxHeartbeats 1000000 in
theorem dropPage_in (g : Nat) (c : Cache) (sp pg : Int) (w : World) (hT : TlbAt w g c) :
    Calls Try.prog 50 #[.pointer (some ⟨g, 0, none⟩), .int .i64 sp, .int .i64 pg] w fun e w' => e = .returned (.int .i64 (dropN c (isPage sp pg) (vis c 8))) ∧ TlbAt w' g (dropAt c (isPage sp pg) (vis c 8)) ∧ Mod (· = g) w w' := by
  have hlt := hT.lt
  have HT := hide hT
  clear hT
  go_enter Try.func50, Try.ntmps50
  go_wp2_with fail
  have b0 := (Blk.new w 3 #[.int .i64 sp]).alloc (.cells #[.int .i64 pg] 3)
  have b1 := Blk.new (w.alloc (.cells #[.int .i64 sp] 3)) 3 #[.int .i64 pg]
  simp only [World.size_alloc] at b1
  have hm0 : Mod (· = g) w ((w.alloc (.cells #[.int .i64 sp] 3)).alloc (.cells #[.int .i64 pg] 3)) := ((Mod.refl _ w).alloc _).alloc _
  have hT0 := HT.out.below (((Below.refl _ w).alloc (Nat.le_refl _) (.cells #[.int .i64 sp] 3)).alloc (by simp) (.cells #[.int .i64 pg] 3)) hlt
  refine (drop_in g c (isPage sp pg) 76 #[.pointer (some ⟨w.heap.size, 0, none⟩), .pointer (some ⟨w.heap.size + 1, 0, none⟩)] _ hT0 (enters_of Try.func76 (by kernel_rfl) rfl)
    (fun y W hm => dropPage_fn sp pg _ _ y W (b0.mod hm (by omega)) (b1.mod hm (by omega)))).mono ?_
  rintro e w1 ⟨rfl, hT1, hm1⟩
  have HT1 := hide hT1
  have HM1 := hide (hm0.trans hm1)
  clear hT1 hm1 hm0 hT0 b0 b1
  go_wp2_with fail
  go_ret
  exact ⟨rfl, HT1.out, HM1.out⟩
set_option maxHeartbeats 1000000 in
theorem dropSpace_in (g : Nat) (c : Cache) (sp : Int) (w : World) (hT : TlbAt w g c) :
    Calls Try.prog 55 #[.pointer (some ⟨g, 0, none⟩), .int .i64 sp] w fun e w' => e = .returned (.int .i64 (dropN c (isSpace sp) (vis c 8))) ∧ TlbAt w' g (dropAt c (isSpace sp) (vis c 8)) ∧ Mod (· = g) w w' := by
  have hlt := hT.lt
  have HT := hide hT
  clear hT
  go_enter Try.func55, Try.ntmps55
  go_wp2_with fail
  have b0 := Blk.new w 3 #[.int .i64 sp]
  have hm0 : Mod (· = g) w (w.alloc (.cells #[.int .i64 sp] 3)) := (Mod.refl _ w).alloc _
  have hT0 := HT.out.below ((Below.refl _ w).alloc (Nat.le_refl _) (.cells #[.int .i64 sp] 3)) hlt
  refine (drop_in g c (isSpace sp) 80 #[.pointer (some ⟨w.heap.size, 0, none⟩)] _ hT0 (enters_of Try.func80 (by kernel_rfl) rfl)
    (fun y W hm => dropSpace_fn sp _ y W (b0.mod hm (by omega)))).mono ?_
  rintro e w1 ⟨rfl, hT1, hm1⟩
  have HT1 := hide hT1
  have HM1 := hide (hm0.trans hm1)
  clear hT1 hm1 hm0 hT0 b0
  go_wp2_with fail
  go_ret
  exact ⟨rfl, HT1.out, HM1.out⟩
end Go.Proofs.Ytjnnimdgmcpjoaa
