/- The walks of package cores: caches, DropPage, DropSpace. -/
import Derived.Test.YtlfenakabedmfaaCores4
import Derived.Test.YtlfenakabedmfaaWalks
namespace Go.Proofs.Ytlfenakabedmfaa
open Go.RowKit Go.Shelf
attribute [local go_sem] Oper.semAt_some
theorem caches_any (p : Option Addr) (w : World) :
    Calls Try.prog 49 #[.pointer p] w fun e w' => e = .returned (.func (.func 74) #[] #[.pointer (some ⟨w.heap.size, 0, none⟩)]) ∧ w' = w.alloc (.cells #[.pointer p] 28) := by
  go_enter Try.func49, Try.ntmps49
  go_wp2
  go_ret
  exact ⟨rfl, rfl⟩
set_option maxHeartbeats 1000000 in
theorem caches_none (F : Fence) (n : Nat) (hF : WideF F Try.prog) (hro : F.round = none) (Bt : Nat) (w : World) (bt : Blk w Bt 28 #[.pointer none]) :
    Iter F n Try.prog 74 #[.pointer (some ⟨Bt, 0, none⟩)] (fun _ : Nat => #[.pointer none]) (fun _ _ _ => False) (fun _ _ _ _ => True) (fun xs _ => xs = []) w := by
  intro l J Jx W hsk hl hJ hJx hY h0
  replace bt := hsk.blk bt
  have c0 := bt.cell 0
  refine callsIn_of_wp Try.func74 rfl (hF.fn _) ?_ hro
  simp only [Try.ntmps74, List.size_toArray, List.length_cons, List.length_nil, Nat.reduceAdd, Nat.reduceSub, Array.replicate_succ, Array.replicate_zero, List.push_toArray, List.append_toArray, List.nil_append, List.cons_append]
  clear hF hY hJ hJx bt
  gi_wp2
  refine bodyPost_ret (results_none rfl _ _ _) rfl ?_
  exact ⟨⟨_, rfl⟩, .inl ⟨_, rfl, h0⟩⟩
def RowC (w : World) (gb N : Nat) (tl : Nat → Nat) : Prop := ∃ cs, Blk w gb 102 cs ∧ ∀ i, i < N → cs[i * 3 + 2]? = some (.pointer (some ⟨tl i, 0, none⟩))
theorem RowC.cell {w : World} {gb N : Nat} {tl : Nat → Nat} (h : RowC w gb N tl) {i : Nat} (hi : i < N) : w.cell? ⟨gb, i * 3 + 2, none⟩ = some (.pointer (some ⟨tl i, 0, none⟩)) := by
  obtain ⟨cs, hb, r⟩ := h
  exact (hb.cell _).trans (r i hi)
theorem RowC.keep {T : Nat → Prop} {w w' : World} {gb N : Nat} {tl : Nat → Nat} (h : RowC w gb N tl) (hk : KeepB T w w') (hs : T gb) : RowC w' gb N tl := by
  obtain ⟨cs, hb, r⟩ := h
  exact ⟨cs, hk.blk hb hs, r⟩
theorem RowC.skips {B : Nat} {w w' : World} {gb N : Nat} {tl : Nat → Nat} (h : RowC w gb N tl) (hk : Skips B w w') : RowC w' gb N tl := by
  obtain ⟨cs, hb, r⟩ := h
  exact ⟨cs, hk.blk hb, r⟩
theorem CrAt.rowC {w : World} {g gb cap n : Nat} {tl : Nat → Nat} {K : Nat → Core} (h : CoresAt w g gb cap n tl K) : RowC w gb n tl := by
  obtain ⟨cs, hb, r⟩ := h.row
  exact ⟨cs, hb, fun i hi => (r i hi).2.2⟩
set_option maxRecDepth 100000 in
set_option maxHeartbeats 2000000 in
theorem caches_iter (F : Fence) (n : Nat) (hF : WideF F Try.prog) (hro : F.round = none) (hn : 1 ≤ n) (g gb N cp Bt : Nat) (tl : Nat → Nat) (w : World) (hd : Blk w g 98 #[.slice (some ⟨gb, 0, none⟩) N cp]) (hN : N ≤ 3)
    (hr : RowC w gb N tl) (bt : Blk w Bt 28 #[.pointer (some ⟨g, 0, none⟩)]) :
    Iter F n Try.prog 74 #[.pointer (some ⟨Bt, 0, none⟩)] (fun x : Nat => #[.pointer (some ⟨tl x, 0, none⟩)])
      (fun pre x _ => x = pre.length ∧ x < N) (fun _ _ => KeepB fun k => k = g ∨ k = gb ∨ k = Bt) (fun xs _ => xs.length = N) w := by
  intro l J Jx W hsk hl hJ hJx hY h0
  replace hd := hsk.blk hd
  replace hr := hr.skips hsk
  replace bt := hsk.blk bt
  have c0 := bt.cell 0
  have c1 := hd.cell 0
  have HR := hide hr
  clear hr
  refine callsIn_of_wp Try.func74 rfl (hF.fn _) ?_ hro
  simp only [Try.ntmps74, List.size_toArray, List.length_cons, List.length_nil, Nat.reduceAdd, Nat.reduceSub, Array.replicate_succ, Array.replicate_zero, List.push_toArray, List.append_toArray, List.nil_append, List.cons_append]
  have HF := hide hF
  have HY := hide hY
  clear hF hY hJ hJx
  gi_wp2
  gi_loopw [11] (fun i wr => ∃ (k : Nat) (ys : List Nat), k ≤ N ∧ i = .int .i64 k ∧ ys.length = k ∧ J ys wr ∧ Blk wr g 98 #[.slice (some ⟨gb, 0, none⟩) N cp] ∧ RowC wr gb N tl ∧ Blk wr Bt 28 #[.pointer (some ⟨g, 0, none⟩)]) (fun i _ => N - (intOf i).toNat)
  case atStart => exact ⟨0, [], Nat.zero_le _, rfl, rfl, h0, hd, HR.out, bt⟩
  case round =>
    obtain ⟨k, ys, hk1, rfl, hlen, hj, hd', hr', bt'⟩ := hrel
    have d0 := hd'.cell 0
    have m0 := bt'.cell 0
    have HL := hide hlen
    have HR' := hide hr'
    clear hlen hr'
    by_cases hlt : k < N
    · have r0 := HR'.out.cell hlt
      obtain ⟨fn, tmps, assign, body, hy, hR⟩ := HY.out ys k wr hj ⟨HL.out.symm, hlt⟩
      gi_wp2
      refine hR.mono ?_
      rintro e W3 (⟨rfl, hJ3, hk3⟩ | ⟨rfl, hJx3⟩)
      · gi_wp2
        go_roundw
        case rel => exact ⟨k + 1, ys ++ [k], by omega, by simp, by simp [HL.out], hJ3, hk3.blk hd' (.inl rfl), HR'.out.keep hk3 (.inr (.inl rfl)), hk3.blk bt' (.inr (.inr rfl))⟩
        case measure => simp [intOf]; omega
      · gi_wp2
        refine bodyPost_ret (results_none rfl _ _ _) rfl ?_
        exact ⟨⟨_, rfl⟩, .inr ⟨_, hJx3⟩⟩
    · gi_wp2
      go_end0
      exact ⟨⟨_, rfl⟩, .inl ⟨ys, by have := HL.out; omega, hj⟩⟩
/-- The first k cores' caches without what P holds of. -/
def dropK (K : Nat → Core) (P : Tr → Bool) (k : Nat) : Nat → Core := fun i => if i < k then ⟨(K i).rt, (K i).sp, dropAt (K i).c P (vis (K i).c 8)⟩ else K i
/-- How many these were. -/
def dropC (K : Nat → Core) (P : Tr → Bool) : Nat → Nat
  | 0 => 0
  | k + 1 => dropC K P k + dropN (K k).c P (vis (K k).c 8)
theorem dropK_zero (K : Nat → Core) (P : Tr → Bool) : dropK K P 0 = K := by
  funext i; simp [dropK]
theorem dropK_at (K : Nat → Core) (P : Tr → Bool) (k : Nat) : dropK K P k k = K k := by simp [dropK]
theorem dropK_succ (K : Nat → Core) (P : Tr → Bool) (k : Nat) : upd (dropK K P k) k ⟨(K k).rt, (K k).sp, dropAt (K k).c P (vis (K k).c 8)⟩ = dropK K P (k + 1) := by
  funext i
  unfold upd dropK
  by_cases h : i = k
  · subst h; rw [if_pos rfl, if_pos (by omega)]
  · rw [if_neg h]
    by_cases h2 : i < k
    · rw [if_pos h2, if_pos (by omega)]
    · rw [if_neg h2, if_neg (by omega)]
theorem dropC_le (K : Nat → Core) (P : Tr → Bool) : ∀ k, dropC K P k ≤ 8 * k
  | 0 => Nat.le_refl _
  | k + 1 => by
    have := dropC_le K P k
    have h2 := dropN_le (K k).c P (vis (K k).c 8)
    have h3 := vis_len (K k).c 8
    unfold dropC
    omega
set_option maxRecDepth 100000 in
set_option maxHeartbeats 2000000 in
theorem cdropPage_nil (s q : Int) (w : World) : Calls Try.prog 22 #[.pointer none, .int .i64 s, .int .i64 q] w fun e w' => e = .returned (.int .i64 0) ∧ Below w.heap.size w w' := by
  refine calls_marks Try.func22 rfl ?_
  simp only [Try.ntmps22, List.size_toArray, List.length_cons, List.length_nil, Nat.reduceAdd, Nat.reduceSub, Array.replicate_succ, Array.replicate_zero, List.push_toArray, List.append_toArray, List.nil_append, List.cons_append]
  go_wp2_with fail
  refine (caches_any none _).mono ?_
  rintro e w' ⟨rfl, rfl⟩
  go_wp2
  rename_i K hK
  obtain ⟨W0, hW0⟩ : ∃ W0 : World, ((((w).alloc (.cells #[.int .i64 s] 3)).alloc (.cells #[.int .i64 q] 3)).alloc (.cells #[.int .i64 0] 3)).alloc (.cells #[.pointer none] 28) = W0 := ⟨_, rfl⟩
  have bt : Blk W0 (w.heap.size + 1 + 1 + 1) 28 #[.pointer none] := by
    have h := Blk.new ((((w).alloc (.cells #[.int .i64 s] 3)).alloc (.cells #[.int .i64 q] 3)).alloc (.cells #[.int .i64 0] 3)) 28 #[.pointer none]
    simp only [World.size_alloc] at h
    rw [← hW0]; exact h
  have bn : Blk W0 (w.heap.size + 1 + 1) 3 #[.int .i64 0] := by
    have h := (Blk.new (((w).alloc (.cells #[.int .i64 s] 3)).alloc (.cells #[.int .i64 q] 3)) 3 #[.int .i64 0]).alloc (.cells #[.pointer none] 28)
    simp only [World.size_alloc] at h
    rw [← hW0]; exact h
  have hb0 : Below w.heap.size w W0 := by rw [← hW0]; exact (((((Below.refl _ w).alloc (Nat.le_refl _) _).alloc (by simp; try omega) _).alloc (by simp; try omega) _).alloc (by simp; try omega) _)
  have hlt := bt.lt
  rw [hW0]
  clear hW0
  refine (wpIn_wide (n := 10)).1 ?_
  refine' wpIn_iter1 (F := Fence.wide) rfl (by decide) (gf := 74) (lb := _) rfl trivial (enters_of Try.func74 (by kernel_rfl) rfl) (caches_none Fence.wide 9 (wideF _) rfl _ W0 bt)
    (fun _ _ _ _ _ _ _ _ _ => trivial) (fun _ _ _ _ h _ => h) (fun _ _ _ h _ => h) (fun _ => rfl)
    (fun pre W => pre = [] → Blk W (w.heap.size + 1 + 1) 3 #[.int .i64 0] ∧ Below w.heap.size w W)
    (fun _ _ _ => False)
    (fun s A C h hk hs => ⟨hk.blk (h hs).1, below_skips (h hs).2 hk (by omega) (Nat.le_refl _)⟩) (fun _ _ _ _ h _ => h) (fun _ => ⟨bn, hb0⟩) _ ?assign (fun _ _ _ _ _ _ _ h => h.elim) ?done (fun _ _ _ _ _ h _ => h.elim)
  case assign =>
    intro l x W K hK
    gi_wp2
    exact hK
  case done =>
    rintro D xs W hD hxs hI hd
    obtain ⟨hn, hb⟩ := hI hxs
    have c1 := hn.cell 0
    have HB := hide hb
    have Hd := hide hd
    clear hd hI hxs hn hb bt bn
    go_wp2
    have sk := Skips.putObj (B := W0.heap.size) Hd.out rfl hD (.deferred none)
    refine marks_ret1 (v := .int .i64 0) rfl Hd.out (by simp [results, Try.f22, go_sem]) ⟨rfl, below_skips HB.out sk (by omega) (Nat.le_refl _)⟩
set_option maxRecDepth 100000 in
set_option maxHeartbeats 4000000 in
theorem cdropPage_any (g gb cap n : Nat) (tl : Nat → Nat) (Kc : Nat → Core) (s q : Int) (w : World) (hC : CoresAt w g gb cap n tl Kc) :
    Calls Try.prog 22 #[.pointer (some ⟨g, 0, none⟩), .int .i64 s, .int .i64 q] w fun e w' => e = .returned (.int .i64 (dropC Kc (isPage s q) n)) ∧ CoresAt w' g gb cap n tl (dropK Kc (isPage s q) n) ∧ Mod (crS g gb n tl) w w' := by
  have hlt0 := fun k hk => hC.lt (k := k) hk
  have hn3 := hC.le
  have HC := hide hC
  have HL := hide hlt0
  clear hC hlt0
  refine calls_marks Try.func22 rfl ?_
  simp only [Try.ntmps22, List.size_toArray, List.length_cons, List.length_nil, Nat.reduceAdd, Nat.reduceSub, Array.replicate_succ, Array.replicate_zero, List.push_toArray, List.append_toArray, List.nil_append, List.cons_append]
  go_wp2_with fail
  refine (caches_any (some ⟨g, 0, none⟩) _).mono ?_
  rintro e w' ⟨rfl, rfl⟩
  go_wp2
  rename_i Kt hKt
  obtain ⟨W0, hW0⟩ : ∃ W0 : World, ((((w).alloc (.cells #[.int .i64 s] 3)).alloc (.cells #[.int .i64 q] 3)).alloc (.cells #[.int .i64 0] 3)).alloc (.cells #[.pointer (some ⟨g, 0, none⟩)] 28) = W0 := ⟨_, rfl⟩
  have bx0 : Blk W0 (w.heap.size) 3 #[.int .i64 s] := by
    have h := ((((Blk.new (w) 3 #[.int .i64 s]).alloc (.cells #[.int .i64 q] 3)).alloc (.cells #[.int .i64 0] 3)).alloc (.cells #[.pointer (some ⟨g, 0, none⟩)] 28))
    try simp only [World.size_alloc] at h
    rw [← hW0]; exact h
  have bx1 : Blk W0 (w.heap.size + 1) 3 #[.int .i64 q] := by
    have h := (((Blk.new ((w).alloc (.cells #[.int .i64 s] 3)) 3 #[.int .i64 q]).alloc (.cells #[.int .i64 0] 3)).alloc (.cells #[.pointer (some ⟨g, 0, none⟩)] 28))
    try simp only [World.size_alloc] at h
    rw [← hW0]; exact h
  have bt : Blk W0 (w.heap.size + 1 + 1 + 1) 28 #[.pointer (some ⟨g, 0, none⟩)] := by
    have h := Blk.new ((((w).alloc (.cells #[.int .i64 s] 3)).alloc (.cells #[.int .i64 q] 3)).alloc (.cells #[.int .i64 0] 3)) 28 #[.pointer (some ⟨g, 0, none⟩)]
    simp only [World.size_alloc] at h
    rw [← hW0]; exact h
  have bn : Blk W0 (w.heap.size + 1 + 1) 3 #[.int .i64 0] := by
    have h := (Blk.new (((w).alloc (.cells #[.int .i64 s] 3)).alloc (.cells #[.int .i64 q] 3)) 3 #[.int .i64 0]).alloc (.cells #[.pointer (some ⟨g, 0, none⟩)] 28)
    simp only [World.size_alloc] at h
    rw [← hW0]; exact h
  have hb0 : Below w.heap.size w W0 := by rw [← hW0]; exact (((((Below.refl _ w).alloc (Nat.le_refl _) _).alloc (by simp; try omega) _).alloc (by simp; try omega) _).alloc (by simp; try omega) _)
  have hlt := bt.lt
  rw [hW0]
  clear hW0
  have HC0 := hide (HC.out.on hb0)
  refine (wpIn_wide (n := 10)).1 ?_
  refine' wpIn_iter1 (F := Fence.wide) rfl (by decide) (gf := 74) (lb := _) rfl trivial (enters_of Try.func74 (by kernel_rfl) rfl) (caches_iter Fence.wide 9 (wideF _) rfl (by omega) g gb n cap _ tl W0 HC0.out.hd hn3 HC0.out.rowC bt)
    (fun pre x A B C D h1 h2 h3 => ?hK) (fun _ _ _ _ h _ => h) (fun _ _ _ h _ => h) (fun _ => rfl)
    (fun pre W => CoresAt W g gb cap n tl (dropK Kc (isPage s q) pre.length) ∧ Blk W (w.heap.size) 3 #[.int .i64 s] ∧ Blk W (w.heap.size + 1) 3 #[.int .i64 q] ∧ Blk W (w.heap.size + 1 + 1 + 1) 28 #[.pointer (some ⟨g, 0, none⟩)] ∧ Blk W (w.heap.size + 1 + 1) 3 #[.int .i64 (dropC Kc (isPage s q) pre.length : Nat)] ∧ Mod (crS g gb n tl) w W)
    (fun _ _ _ => False)
    ?hI (fun _ _ _ _ h _ => h) ?h0 _ ?assign ?body ?done (fun _ _ _ _ _ h _ => h.elim)
  case hK =>
    have h1' := HL.out g (.inl rfl)
    have h2' := HL.out gb (.inr (.inl rfl))
    exact KeepB.skips (fun k hk => by omega) h1 h2 h3
  case hI =>
    rintro s A C ⟨h1, vb0, vb1, h4, h5, h6⟩ hk
    exact ⟨h1.skips hk (fun k hk' => by have := HL.out k hk'; omega), hk.blk vb0, hk.blk vb1, hk.blk h4, hk.blk h5, h6.skips hk hb0.size⟩
  case h0 => exact ⟨by rw [show dropK Kc (isPage s q) ([] : List Nat).length = Kc from dropK_zero _ _]; exact HC0.out, bx0, bx1, bt, bn, Mod.of_below hb0 _⟩
  case assign =>
    intro l x W K hK
    gi_wp2
    exact hK
  case body =>
    rintro l pre x W hl hr ⟨h1, vb0, vb1, h4, h5, h6⟩ ⟨hx1, hx2⟩
    have HX := hide hx1
    have ht := h1.tlb x hx2
    rw [← hx1, dropK_at] at ht
    have HT := hide ht
    have H1 := hide h1
    have H6 := hide h6
    have Hr := hide hr
    have htl := HL.out (tl x) (.inr (.inr ⟨x, hx2, rfl⟩))
    have hdl := dropC_le Kc (isPage s q) pre.length
    have hdn := Nat.le_trans (dropN_le (Kc x).c (isPage s q) (vis (Kc x).c 8)) (vis_len _ 8)
    have hp3 : pre.length ≤ 3 := by omega
    have q0 := vb0.cell 0
    have hzb0 := vb0.lt
    have q1 := vb1.cell 0
    have hzb1 := vb1.lt
    have c5 := h5.cell 0
    have f5 := h5.frozen 0
    have hz5 := h5.lt
    have hz4 := h4.lt
    have hS : (fun w' : World => w'.cell? ⟨w.heap.size + 1 + 1, 0, none⟩ = some (.int .i64 (dropC Kc (isPage s q) pre.length : Nat)) ∧ w'.cell? ⟨w.heap.size, 0, none⟩ = some (.int .i64 s) ∧ w'.cell? ⟨w.heap.size + 1, 0, none⟩ = some (.int .i64 q)) W.drew := ⟨c5, q0, q1⟩
    clear hx1 ht h1 h6 hr
    gi_wp2
    refine wpIn_region_D 6 (fun w' : World => w'.cell? ⟨w.heap.size + 1 + 1, 0, none⟩ = some (.int .i64 (dropC Kc (isPage s q) pre.length : Nat)) ∧ w'.cell? ⟨w.heap.size, 0, none⟩ = some (.int .i64 s) ∧ w'.cell? ⟨w.heap.size + 1, 0, none⟩ = some (.int .i64 q)) ((wideF _).inRound l) (by kernel_rfl) (fun ⟨_, _, h⟩ => h) (by kernel_rfl) ?_
    refine' wpAnyD_take (i := 0) (oi := ⟨some 12, _, _, _, _, _⟩) (v := _) rfl (by kernel_rfl) (by kernel_rfl) (by kernel_rfl) (by kernel_rfl) (fun _ _ _ h => h) (Or.inl ⟨by rfl, ?_⟩) hS ?_
    rotate_left
    · intro w hSw
      try dsimp only at hSw
      go_simp
      all_goals with_reducible rfl
    simp only [Act.put, List.setIfInBounds_toArray, List.set_cons_zero, List.set_cons_succ]
    refine' wpAnyD_take (i := 1) (oi := ⟨some 13, _, _, _, _, _⟩) (v := _) rfl (by kernel_rfl) (by kernel_rfl) (by kernel_rfl) (by kernel_rfl) (fun _ _ _ h => h) (Or.inl ⟨by rfl, ?_⟩) hS ?_
    rotate_left
    · intro w hSw
      try dsimp only at hSw
      go_simp
      all_goals with_reducible rfl
    simp only [Act.put, List.setIfInBounds_toArray, List.set_cons_zero, List.set_cons_succ]
    refine' wpAnyD_take (i := 2) (oi := ⟨some 14, _, _, _, _, _⟩) (v := _) rfl (by kernel_rfl) (by kernel_rfl) (by kernel_rfl) (by kernel_rfl) (fun _ _ _ h => h) (Or.inl ⟨by rfl, ?_⟩) hS ?_
    rotate_left
    · intro w hSw
      try dsimp only at hSw
      go_simp
      all_goals with_reducible rfl
    simp only [Act.put, List.setIfInBounds_toArray, List.set_cons_zero, List.set_cons_succ]
    refine' wpAnyD_take (i := 3) (oi := ⟨some 15, _, _, _, _, _⟩) (v := _) rfl (by kernel_rfl) (by kernel_rfl) (by kernel_rfl) (by kernel_rfl) (fun _ _ _ h => h) (Or.inl ⟨by rfl, ?_⟩) hS ?_
    rotate_left
    · intro w hSw
      try dsimp only at hSw
      go_simp
      all_goals with_reducible rfl
    simp only [Act.put, List.setIfInBounds_toArray, List.set_cons_zero, List.set_cons_succ]
    refine wpAnyD_ready (rs := [4]) (by kernel_rfl) (by simp) ?_
    refine AllReadyD.cons (o := ⟨some 16, _, _, _, _, _⟩) rfl (fun K hK => ?_) AllReadyD.nil
    go_simp
    refine (dropPage_in (tl x) (Kc x).c s q _ HT.out.drew).mono ?_
    rintro e w2 ⟨rfl, ht2, hm2⟩
    have hm2' := Mod.of_drew hm2
    have HC2 := hide (H1.out.setC x hx2 (c := dropAt (Kc x).c (isPage s q) (vis (Kc x).c 8)) ht2 hm2')
    have HM2 := hide hm2'
    have b5 := h5.mod hm2' (by omega)
    have b4 := h4.mod hm2' (by omega)
    have bm0 := vb0.mod hm2' (by omega)
    have p0 := bm0.cell 0
    have bm1 := vb1.mod hm2' (by omega)
    have p1 := bm1.cell 0
    have e5 := b5.cell 0
    have g5 := b5.frozen 0
    refine hK.out _ _ (fun _ => ⟨e5, p0, p1⟩) (fun hS2 => ?_)
    clear hK K hS ht2 hm2
    replace hS2 := hS2 rfl
    generalize hDN : dropN (Kc x).c (isPage s q) (vis (Kc x).c 8) = dn at hdn ⊢
    generalize hDC : dropC Kc (isPage s q) pre.length = dc at hdl c5 b5 e5 hS2 h5 ⊢
    have hwrap : IntKind.i64.wrap ((dc : Int) + (dn : Int)) = ((dc + dn : Nat) : Int) := by rw [IntWalk.i64_in _ (by omega)]; push_cast; rfl
    have HDN := hide hDN
    have HDC := hide hDC
    clear hDN hDC
    refine wpAnyD_ready (rs := [5]) (by kernel_rfl) (by simp) ?_
    refine AllReadyD.cons (o := ⟨some 17, _, _, _, _, _⟩) rfl (fun K hK => ?_) AllReadyD.nil
    go_simp
    refine hK.out _ _ (fun _ => hS2) (fun _ => ?_)
    clear hK K
    refine wpAnyD_ready (rs := [6]) (by kernel_rfl) (by simp) ?_
    refine AllReadyD.cons (o := ⟨none, _, _, _, _, _⟩) rfl (fun K hK => ?_) AllReadyD.nil
    go_simp
    refine hK.out _ _ (fun h => absurd h (by decide)) (fun _ => ?_)
    clear hK K
    refine wpAnyD_done (by kernel_rfl) ?_ _
    have hms := Mod.one (w.heap.size + 1 + 1) w2 0 (.int .i64 ((dc : Int) + (dn : Int)))
    have hm3 : Mod (fun k => k = tl x ∨ k = w.heap.size + 1 + 1) W (w2.setCell ⟨w.heap.size + 1 + 1, 0, none⟩ (.int .i64 ((dc : Int) + (dn : Int)))) := (HM2.out.mono (fun _ e => .inl (.inl e))).setCell (p := ⟨w.heap.size + 1 + 1, 0, none⟩) (.inl (.inr rfl)) _
    have hoff := HC.out.off x hx2
    have hg := HL.out g (.inl rfl)
    have hgb := HL.out gb (.inr (.inl rfl))
    have hx := HX.out
    have hle : (pre ++ [x]).length = pre.length + 1 := by rw [List.length_append]; rfl
    have hc3 : CoresAt w2 g gb cap n tl (dropK Kc (isPage s q) (pre ++ [x]).length) := by
      have h := HC2.out
      rw [hle]
      subst hx
      rw [dropK_at, dropK_succ] at h
      exact h
    have hn3' : dropC Kc (isPage s q) (pre ++ [x]).length = dc + dn := by
      rw [hle, ← HDC.out, ← HDN.out, hx]
      rfl
    have hb5 := b5.set_ 0 (.int .i64 ((dc : Int) + (dn : Int)))
    have hge := hlt
    gi_wp2
    refine ⟨⟨hm3.size, fun k o hk ho _ => (hm3.block k (Array.getElem?_eq_some_iff.1 ho).1 (fun e => by omega)).trans ho⟩, KeepB.of_mod hm3 (fun k hk e => by omega), hc3.mod hms (fun k hk e => by have := HL.out k hk; omega), bm0.mod hms (by omega), bm1.mod hms (by omega), b4.mod hms (by omega), ?_, ?_⟩
    · rw [hn3', show (((dc + dn : Nat)) : Int) = (dc : Int) + (dn : Int) from by push_cast; rfl]
      exact hb5
    · exact (H6.out.trans (Mod.crT hx2 HM2.out)).setCell (p := ⟨w.heap.size + 1 + 1, 0, none⟩) (.inr (show w.heap.size ≤ w.heap.size + 1 + 1 by omega)) _
  case done =>
    rintro D xs W hD hlen ⟨h1, vb0, vb1, h4, h5, h6⟩ hd
    rw [hlen] at h1 h5
    have c1 := h5.cell 0
    have H1 := hide h1
    have H6 := hide h6
    have Hd := hide hd
    clear hd h1 h6 hlen h5 h4 bt bn
    go_wp2
    have sk := Skips.putObj (B := W0.heap.size) Hd.out rfl hD (.deferred none)
    refine marks_ret1 (v := .int .i64 (dropC Kc (isPage s q) n : Nat)) rfl Hd.out (by simp [results, Try.f22, go_sem]) ⟨rfl, H1.out.skips sk (fun k hk => by have := HL.out k hk; omega), H6.out.skips sk (by omega)⟩
set_option maxRecDepth 100000 in
set_option maxHeartbeats 2000000 in
theorem cdropSpace_nil (s : Int) (w : World) : Calls Try.prog 25 #[.pointer none, .int .i64 s] w fun e w' => e = .returned (.int .i64 0) ∧ Below w.heap.size w w' := by
  refine calls_marks Try.func25 rfl ?_
  simp only [Try.ntmps25, List.size_toArray, List.length_cons, List.length_nil, Nat.reduceAdd, Nat.reduceSub, Array.replicate_succ, Array.replicate_zero, List.push_toArray, List.append_toArray, List.nil_append, List.cons_append]
  go_wp2_with fail
  refine (caches_any none _).mono ?_
  rintro e w' ⟨rfl, rfl⟩
  go_wp2
  rename_i K hK
  obtain ⟨W0, hW0⟩ : ∃ W0 : World, (((w).alloc (.cells #[.int .i64 s] 3)).alloc (.cells #[.int .i64 0] 3)).alloc (.cells #[.pointer none] 28) = W0 := ⟨_, rfl⟩
  have bt : Blk W0 (w.heap.size + 1 + 1) 28 #[.pointer none] := by
    have h := Blk.new (((w).alloc (.cells #[.int .i64 s] 3)).alloc (.cells #[.int .i64 0] 3)) 28 #[.pointer none]
    simp only [World.size_alloc] at h
    rw [← hW0]; exact h
  have bn : Blk W0 (w.heap.size + 1) 3 #[.int .i64 0] := by
    have h := (Blk.new ((w).alloc (.cells #[.int .i64 s] 3)) 3 #[.int .i64 0]).alloc (.cells #[.pointer none] 28)
    simp only [World.size_alloc] at h
    rw [← hW0]; exact h
  have hb0 : Below w.heap.size w W0 := by rw [← hW0]; exact ((((Below.refl _ w).alloc (Nat.le_refl _) _).alloc (by simp; try omega) _).alloc (by simp; try omega) _)
  have hlt := bt.lt
  rw [hW0]
  clear hW0
  refine (wpIn_wide (n := 10)).1 ?_
  refine' wpIn_iter1 (F := Fence.wide) rfl (by decide) (gf := 74) (lb := _) rfl trivial (enters_of Try.func74 (by kernel_rfl) rfl) (caches_none Fence.wide 9 (wideF _) rfl _ W0 bt)
    (fun _ _ _ _ _ _ _ _ _ => trivial) (fun _ _ _ _ h _ => h) (fun _ _ _ h _ => h) (fun _ => rfl)
    (fun pre W => pre = [] → Blk W (w.heap.size + 1) 3 #[.int .i64 0] ∧ Below w.heap.size w W)
    (fun _ _ _ => False)
    (fun s A C h hk hs => ⟨hk.blk (h hs).1, below_skips (h hs).2 hk (by omega) (Nat.le_refl _)⟩) (fun _ _ _ _ h _ => h) (fun _ => ⟨bn, hb0⟩) _ ?assign (fun _ _ _ _ _ _ _ h => h.elim) ?done (fun _ _ _ _ _ h _ => h.elim)
  case assign =>
    intro l x W K hK
    gi_wp2
    exact hK
  case done =>
    rintro D xs W hD hxs hI hd
    obtain ⟨hn, hb⟩ := hI hxs
    have c1 := hn.cell 0
    have HB := hide hb
    have Hd := hide hd
    clear hd hI hxs hn hb bt bn
    go_wp2
    have sk := Skips.putObj (B := W0.heap.size) Hd.out rfl hD (.deferred none)
    refine marks_ret1 (v := .int .i64 0) rfl Hd.out (by simp [results, Try.f25, go_sem]) ⟨rfl, below_skips HB.out sk (by omega) (Nat.le_refl _)⟩
set_option maxRecDepth 100000 in
set_option maxHeartbeats 4000000 in
theorem cdropSpace_any (g gb cap n : Nat) (tl : Nat → Nat) (Kc : Nat → Core) (s : Int) (w : World) (hC : CoresAt w g gb cap n tl Kc) :
    Calls Try.prog 25 #[.pointer (some ⟨g, 0, none⟩), .int .i64 s] w fun e w' => e = .returned (.int .i64 (dropC Kc (isSpace s) n)) ∧ CoresAt w' g gb cap n tl (dropK Kc (isSpace s) n) ∧ Mod (crS g gb n tl) w w' := by
  have hlt0 := fun k hk => hC.lt (k := k) hk
  have hn3 := hC.le
  have HC := hide hC
  have HL := hide hlt0
  clear hC hlt0
  refine calls_marks Try.func25 rfl ?_
  simp only [Try.ntmps25, List.size_toArray, List.length_cons, List.length_nil, Nat.reduceAdd, Nat.reduceSub, Array.replicate_succ, Array.replicate_zero, List.push_toArray, List.append_toArray, List.nil_append, List.cons_append]
  go_wp2_with fail
  refine (caches_any (some ⟨g, 0, none⟩) _).mono ?_
  rintro e w' ⟨rfl, rfl⟩
  go_wp2
  rename_i Kt hKt
  obtain ⟨W0, hW0⟩ : ∃ W0 : World, (((w).alloc (.cells #[.int .i64 s] 3)).alloc (.cells #[.int .i64 0] 3)).alloc (.cells #[.pointer (some ⟨g, 0, none⟩)] 28) = W0 := ⟨_, rfl⟩
  have bx0 : Blk W0 (w.heap.size) 3 #[.int .i64 s] := by
    have h := (((Blk.new (w) 3 #[.int .i64 s]).alloc (.cells #[.int .i64 0] 3)).alloc (.cells #[.pointer (some ⟨g, 0, none⟩)] 28))
    try simp only [World.size_alloc] at h
    rw [← hW0]; exact h
  have bt : Blk W0 (w.heap.size + 1 + 1) 28 #[.pointer (some ⟨g, 0, none⟩)] := by
    have h := Blk.new (((w).alloc (.cells #[.int .i64 s] 3)).alloc (.cells #[.int .i64 0] 3)) 28 #[.pointer (some ⟨g, 0, none⟩)]
    simp only [World.size_alloc] at h
    rw [← hW0]; exact h
  have bn : Blk W0 (w.heap.size + 1) 3 #[.int .i64 0] := by
    have h := (Blk.new ((w).alloc (.cells #[.int .i64 s] 3)) 3 #[.int .i64 0]).alloc (.cells #[.pointer (some ⟨g, 0, none⟩)] 28)
    simp only [World.size_alloc] at h
    rw [← hW0]; exact h
  have hb0 : Below w.heap.size w W0 := by rw [← hW0]; exact ((((Below.refl _ w).alloc (Nat.le_refl _) _).alloc (by simp; try omega) _).alloc (by simp; try omega) _)
  have hlt := bt.lt
  rw [hW0]
  clear hW0
  have HC0 := hide (HC.out.on hb0)
  refine (wpIn_wide (n := 10)).1 ?_
  refine' wpIn_iter1 (F := Fence.wide) rfl (by decide) (gf := 74) (lb := _) rfl trivial (enters_of Try.func74 (by kernel_rfl) rfl) (caches_iter Fence.wide 9 (wideF _) rfl (by omega) g gb n cap _ tl W0 HC0.out.hd hn3 HC0.out.rowC bt)
    (fun pre x A B C D h1 h2 h3 => ?hK) (fun _ _ _ _ h _ => h) (fun _ _ _ h _ => h) (fun _ => rfl)
    (fun pre W => CoresAt W g gb cap n tl (dropK Kc (isSpace s) pre.length) ∧ Blk W (w.heap.size) 3 #[.int .i64 s] ∧ Blk W (w.heap.size + 1 + 1) 28 #[.pointer (some ⟨g, 0, none⟩)] ∧ Blk W (w.heap.size + 1) 3 #[.int .i64 (dropC Kc (isSpace s) pre.length : Nat)] ∧ Mod (crS g gb n tl) w W)
    (fun _ _ _ => False)
    ?hI (fun _ _ _ _ h _ => h) ?h0 _ ?assign ?body ?done (fun _ _ _ _ _ h _ => h.elim)
  case hK =>
    have h1' := HL.out g (.inl rfl)
    have h2' := HL.out gb (.inr (.inl rfl))
    exact KeepB.skips (fun k hk => by omega) h1 h2 h3
  case hI =>
    rintro s A C ⟨h1, vb0, h4, h5, h6⟩ hk
    exact ⟨h1.skips hk (fun k hk' => by have := HL.out k hk'; omega), hk.blk vb0, hk.blk h4, hk.blk h5, h6.skips hk hb0.size⟩
  case h0 => exact ⟨by rw [show dropK Kc (isSpace s) ([] : List Nat).length = Kc from dropK_zero _ _]; exact HC0.out, bx0, bt, bn, Mod.of_below hb0 _⟩
  case assign =>
    intro l x W K hK
    gi_wp2
    exact hK
  case body =>
    rintro l pre x W hl hr ⟨h1, vb0, h4, h5, h6⟩ ⟨hx1, hx2⟩
    have HX := hide hx1
    have ht := h1.tlb x hx2
    rw [← hx1, dropK_at] at ht
    have HT := hide ht
    have H1 := hide h1
    have H6 := hide h6
    have Hr := hide hr
    have htl := HL.out (tl x) (.inr (.inr ⟨x, hx2, rfl⟩))
    have hdl := dropC_le Kc (isSpace s) pre.length
    have hdn := Nat.le_trans (dropN_le (Kc x).c (isSpace s) (vis (Kc x).c 8)) (vis_len _ 8)
    have hp3 : pre.length ≤ 3 := by omega
    have q0 := vb0.cell 0
    have hzb0 := vb0.lt
    have c5 := h5.cell 0
    have f5 := h5.frozen 0
    have hz5 := h5.lt
    have hz4 := h4.lt
    have hS : (fun w' : World => w'.cell? ⟨w.heap.size + 1, 0, none⟩ = some (.int .i64 (dropC Kc (isSpace s) pre.length : Nat)) ∧ w'.cell? ⟨w.heap.size, 0, none⟩ = some (.int .i64 s)) W.drew := ⟨c5, q0⟩
    clear hx1 ht h1 h6 hr
    gi_wp2
    refine wpIn_region_D 5 (fun w' : World => w'.cell? ⟨w.heap.size + 1, 0, none⟩ = some (.int .i64 (dropC Kc (isSpace s) pre.length : Nat)) ∧ w'.cell? ⟨w.heap.size, 0, none⟩ = some (.int .i64 s)) ((wideF _).inRound l) (by kernel_rfl) (fun ⟨_, _, h⟩ => h) (by kernel_rfl) ?_
    refine' wpAnyD_take (i := 0) (oi := ⟨some 10, _, _, _, _, _⟩) (v := _) rfl (by kernel_rfl) (by kernel_rfl) (by kernel_rfl) (by kernel_rfl) (fun _ _ _ h => h) (Or.inl ⟨by rfl, ?_⟩) hS ?_
    rotate_left
    · intro w hSw
      try dsimp only at hSw
      go_simp
      all_goals with_reducible rfl
    simp only [Act.put, List.setIfInBounds_toArray, List.set_cons_zero, List.set_cons_succ]
    refine' wpAnyD_take (i := 1) (oi := ⟨some 11, _, _, _, _, _⟩) (v := _) rfl (by kernel_rfl) (by kernel_rfl) (by kernel_rfl) (by kernel_rfl) (fun _ _ _ h => h) (Or.inl ⟨by rfl, ?_⟩) hS ?_
    rotate_left
    · intro w hSw
      try dsimp only at hSw
      go_simp
      all_goals with_reducible rfl
    simp only [Act.put, List.setIfInBounds_toArray, List.set_cons_zero, List.set_cons_succ]
    refine' wpAnyD_take (i := 2) (oi := ⟨some 12, _, _, _, _, _⟩) (v := _) rfl (by kernel_rfl) (by kernel_rfl) (by kernel_rfl) (by kernel_rfl) (fun _ _ _ h => h) (Or.inl ⟨by rfl, ?_⟩) hS ?_
    rotate_left
    · intro w hSw
      try dsimp only at hSw
      go_simp
      all_goals with_reducible rfl
    simp only [Act.put, List.setIfInBounds_toArray, List.set_cons_zero, List.set_cons_succ]
    refine wpAnyD_ready (rs := [3]) (by kernel_rfl) (by simp) ?_
    refine AllReadyD.cons (o := ⟨some 13, _, _, _, _, _⟩) rfl (fun K hK => ?_) AllReadyD.nil
    go_simp
    refine (dropSpace_in (tl x) (Kc x).c s _ HT.out.drew).mono ?_
    rintro e w2 ⟨rfl, ht2, hm2⟩
    have hm2' := Mod.of_drew hm2
    have HC2 := hide (H1.out.setC x hx2 (c := dropAt (Kc x).c (isSpace s) (vis (Kc x).c 8)) ht2 hm2')
    have HM2 := hide hm2'
    have b5 := h5.mod hm2' (by omega)
    have b4 := h4.mod hm2' (by omega)
    have bm0 := vb0.mod hm2' (by omega)
    have p0 := bm0.cell 0
    have e5 := b5.cell 0
    have g5 := b5.frozen 0
    refine hK.out _ _ (fun _ => ⟨e5, p0⟩) (fun hS2 => ?_)
    clear hK K hS ht2 hm2
    replace hS2 := hS2 rfl
    generalize hDN : dropN (Kc x).c (isSpace s) (vis (Kc x).c 8) = dn at hdn ⊢
    generalize hDC : dropC Kc (isSpace s) pre.length = dc at hdl c5 b5 e5 hS2 h5 ⊢
    have hwrap : IntKind.i64.wrap ((dc : Int) + (dn : Int)) = ((dc + dn : Nat) : Int) := by rw [IntWalk.i64_in _ (by omega)]; push_cast; rfl
    have HDN := hide hDN
    have HDC := hide hDC
    clear hDN hDC
    refine wpAnyD_ready (rs := [4]) (by kernel_rfl) (by simp) ?_
    refine AllReadyD.cons (o := ⟨some 14, _, _, _, _, _⟩) rfl (fun K hK => ?_) AllReadyD.nil
    go_simp
    refine hK.out _ _ (fun _ => hS2) (fun _ => ?_)
    clear hK K
    refine wpAnyD_ready (rs := [5]) (by kernel_rfl) (by simp) ?_
    refine AllReadyD.cons (o := ⟨none, _, _, _, _, _⟩) rfl (fun K hK => ?_) AllReadyD.nil
    go_simp
    refine hK.out _ _ (fun h => absurd h (by decide)) (fun _ => ?_)
    clear hK K
    refine wpAnyD_done (by kernel_rfl) ?_ _
    have hms := Mod.one (w.heap.size + 1) w2 0 (.int .i64 ((dc : Int) + (dn : Int)))
    have hm3 : Mod (fun k => k = tl x ∨ k = w.heap.size + 1) W (w2.setCell ⟨w.heap.size + 1, 0, none⟩ (.int .i64 ((dc : Int) + (dn : Int)))) := (HM2.out.mono (fun _ e => .inl (.inl e))).setCell (p := ⟨w.heap.size + 1, 0, none⟩) (.inl (.inr rfl)) _
    have hoff := HC.out.off x hx2
    have hg := HL.out g (.inl rfl)
    have hgb := HL.out gb (.inr (.inl rfl))
    have hx := HX.out
    have hle : (pre ++ [x]).length = pre.length + 1 := by rw [List.length_append]; rfl
    have hc3 : CoresAt w2 g gb cap n tl (dropK Kc (isSpace s) (pre ++ [x]).length) := by
      have h := HC2.out
      rw [hle]
      subst hx
      rw [dropK_at, dropK_succ] at h
      exact h
    have hn3' : dropC Kc (isSpace s) (pre ++ [x]).length = dc + dn := by
      rw [hle, ← HDC.out, ← HDN.out, hx]
      rfl
    have hb5 := b5.set_ 0 (.int .i64 ((dc : Int) + (dn : Int)))
    have hge := hlt
    gi_wp2
    refine ⟨⟨hm3.size, fun k o hk ho _ => (hm3.block k (Array.getElem?_eq_some_iff.1 ho).1 (fun e => by omega)).trans ho⟩, KeepB.of_mod hm3 (fun k hk e => by omega), hc3.mod hms (fun k hk e => by have := HL.out k hk; omega), bm0.mod hms (by omega), b4.mod hms (by omega), ?_, ?_⟩
    · rw [hn3', show (((dc + dn : Nat)) : Int) = (dc : Int) + (dn : Int) from by push_cast; rfl]
      exact hb5
    · exact (H6.out.trans (Mod.crT hx2 HM2.out)).setCell (p := ⟨w.heap.size + 1, 0, none⟩) (.inr (show w.heap.size ≤ w.heap.size + 1 by omega)) _
  case done =>
    rintro D xs W hD hlen ⟨h1, vb0, h4, h5, h6⟩ hd
    rw [hlen] at h1 h5
    have c1 := h5.cell 0
    have H1 := hide h1
    have H6 := hide h6
    have Hd := hide hd
    clear hd h1 h6 hlen h5 h4 bt bn
    go_wp2
    have sk := Skips.putObj (B := W0.heap.size) Hd.out rfl hD (.deferred none)
    refine marks_ret1 (v := .int .i64 (dropC Kc (isSpace s) n : Nat)) rfl Hd.out (by simp [results, Try.f25, go_sem]) ⟨rfl, H1.out.skips sk (fun k hk => by have := HL.out k hk; omega), H6.out.skips sk (by omega)⟩
end Go.Proofs.Ytlfenakabedmfaa
