/- The walks of package walk: At. -/
import Derived.Test.YtjnnimdgmcpjoaaWalk4
namespace Go.Proofs.Ytjnnimdgmcpjoaa
open Go.RowKit Go.Shelf
attribute [local go_sem] Oper.semAt_some

theorem badV_ok {n root page level : Nat} (hr : root < n) (hp : page < 512) (h1 : 1 ≤ level) (h3 : level ≤ 3) : badV n root page level = 0 := by
  unfold badV
  rw [if_neg (by omega)]
structure AtI (w : World) (L Hl level : Nat) (n : Nat) (m : Nat → Int) (root page : Nat) (k : Nat) (W : World) : Prop where
  lt : k + 1 ≤ level
  zero : ∀ (j : Nat) (y : Nat × Int × Int), j < k → (stepL n m root page)[j]? = some y → y.2.2 = 0
  last : ∃ u v : Int, Blk W L 169 #[.int .u64 u, .int .i64 v]
  lev : Blk W Hl 3 #[.int .i64 (level : Int)]
  below : Below Hl w W
  size : Hl + 5 ≤ W.heap.size
set_option maxRecDepth 100000 in
set_option maxHeartbeats 2000000 in
theorem wat_in (g gf N cp : Nat) (m : Nat → Int) (root page level : Nat) (w : World) (hM : MemAt w g gf N cp m) (hr : root < N) (hp : page < 512) (h1 : 1 ≤ level) (h3 : level ≤ 3) :
    Calls Try.prog 53 #[.pointer (some ⟨g, 0, none⟩), .int .i64 (root : Int), .int .i64 (page : Int), .int .i64 (level : Int)] w fun e w' => e = .returned (.tuple #[.int .u64 (atF N m root page level).1, .int .i64 (atF N m root page level).2]) ∧ Below w.heap.size w w' := by
  have hbad := badV_ok hr hp h1 h3
  have hM0 := hM.on ((Below.refl _ w).alloc (Nat.le_refl _) (.cells #[.int .i64 (level : Int)] 3))
  have HM0 := hide hM0
  have hg1 := hM.hd.lt
  have hg2 := hM.ltf
  have HM := hide hM
  clear hM hM0
  refine calls_marks Try.func53 rfl ?_
  simp only [Try.ntmps53, List.size_toArray, List.length_cons, List.length_nil, Nat.reduceAdd, Nat.reduceSub, Array.replicate_succ, Array.replicate_zero, List.push_toArray, List.append_toArray, List.nil_append, List.cons_append]
  go_wp2
  go_step3
  go_wp2_with fail
  refine (bad_any g gf N cp m root page level _ HM0.out).mono ?_
  rintro e w2 ⟨rfl, rfl⟩
  rw [hbad]
  clear hbad
  go_wp2
  go_step3
  go_wp2_with fail
  refine (levels_any _ _ _ _).mono ?_
  rintro e w' ⟨rfl, rfl⟩
  go_wp2
  rename_i K hK
  obtain ⟨b0, b1, b2, b3, b4, hB, hz⟩ := walk_w5 (w := w) (t0 := 3) (t1 := 169) (t2 := 24) (t3 := 3) (t4 := 3) #[.int .i64 (level : Int)] #[.int .u64 0, .int .i64 0] #[.pointer (some ⟨g, 0, none⟩)] #[.int .i64 (root : Int)] #[.int .i64 (page : Int)]
  generalize ((((w.alloc (.cells #[.int .i64 (level : Int)] 3)).alloc (.cells #[.int .u64 0, .int .i64 0] 169)).alloc (.cells #[.pointer (some ⟨g, 0, none⟩)] 24)).alloc (.cells #[.int .i64 (root : Int)] 3)).alloc (.cells #[.int .i64 (page : Int)] 3) = W1 at *
  have hM1 := HM.out.on hB
  clear HM0
  generalize hH : w.heap.size = H at *
  have hH' : H ≤ w.heap.size := Nat.le_of_eq hH.symm
  have HH := hide hH
  clear hH
  refine (wpIn_wide (n := 10)).1 ?_
  refine' wpIn_iter2 (F := Fence.wide) rfl (by decide) (gf := 90) (lb := _) rfl trivial (enters_of Try.func90 (by kernel_rfl) rfl) (levels_iter Fence.wide 9 (wideF _) rfl (by omega) g gf N cp m root page _ _ _ W1 hM1 b3 b4 b2 hr hp (fun k => k = H + 1) (fun k hk => by have hk' : k = H + 1 := hk; omega))
    (fun pre x A B C D h1 h2 h3 => KeepC.skips h1 h2 h3) (fun _ _ _ _ h _ => h) (fun _ _ _ h _ => h) (fun _ => rfl)
    (fun pre W => AtI w (H + 1) H level N m root page pre.length W)
    (fun c _ W => c = .exit 0 ∧ Blk W (H + 1) 169 #[.int .u64 (atF N m root page level).1, .int .i64 (atF N m root page level).2] ∧ Below H w W)
    ?hI ?hIx ?h0 _ (fun x s W => Blk W s 169 #[.int .u64 x.2.1, .int .i64 x.2.2]) (fun x s A C h hk => hk.blk h) ?assign ?body ?done ?stop
  case assign =>
    intro l pre x W K hi hK
    have hs := hi.size
    have hK2 := hK W.heap.size (W.alloc (.cells #[.int .u64 x.2.1, .int .i64 x.2.2] 169)) (Ext.of_below ((Below.refl _ _).alloc (Nat.le_refl _) _)) (by omega) (Blk.new _ _ _)
    gi_wp2
    generalize W.heap.size = s at *
    exact hK2
  case hI => exact fun s A C h hk => ⟨h.lt, h.zero, by obtain ⟨u, v, hb⟩ := h.last; exact ⟨u, v, hk.blk hb⟩, hk.blk h.lev, below_skips h.below hk (by omega) hH', Nat.le_trans h.size hk.size⟩
  case hIx => exact fun c s A C h hk => ⟨h.1, hk.blk h.2.1, below_skips h.2.2 hk (by omega) hH'⟩
  case h0 => exact ⟨by show 0 + 1 ≤ level; omega, fun j y hj _ => absurd hj (Nat.not_lt_zero _), ⟨0, 0, b1⟩, b0, hB, by omega⟩
  case body =>
    rintro l pre x s W hl hr hI hG hs hBx
    clear b0 b1 b2 b3 b4 hM1 hB hK
    obtain ⟨a, u, c⟩ := x
    dsimp only at hBx
    obtain ⟨hx1, hx3⟩ := step_fst hG
    dsimp only at hx1
    obtain ⟨s0, s1⟩ := hBx.c2
    obtain ⟨u0, v0, hL⟩ := hI.last
    obtain ⟨l0, l1⟩ := hL.c2
    have z0 := hL.frozen 0
    have z1 := hL.frozen 1
    have v0' := hI.lev.cell 0
    have hlL := hL.lt
    have hls := hBx.lt
    have hne : s ≠ H + 1 := by omega
    have hne' : H + 1 ≠ s := by omega
    have hne2 : H ≠ H + 1 := by omega
    have hlH := hI.lev.lt
    have hm0 : Mod (fun k => k = H + 1) W W := Mod.refl _ W
    have hmod : Mod (fun k => k = H + 1) W ((W.setCell ⟨H + 1, 0, none⟩ (.int .u64 u)).setCell ⟨H + 1, 1, none⟩ (.int .i64 c)) := (hm0.setCell (p := ⟨H + 1, 0, none⟩) (.inl rfl) _).setCell (p := ⟨H + 1, 1, none⟩) (.inl rfl) _
    clear hm0
    have hLn : Blk ((W.setCell ⟨H + 1, 0, none⟩ (.int .u64 u)).setCell ⟨H + 1, 1, none⟩ (.int .i64 c)) (H + 1) 169 #[.int .u64 u, .int .i64 c] := by
      have := (hL.set_ 0 (.int .u64 u)).set_ 1 (.int .i64 c)
      simpa only [List.setIfInBounds_toArray, List.set_cons_zero, List.set_cons_succ] using this
    have hkf : KeepsFrom W1.heap.size W ((W.setCell ⟨H + 1, 0, none⟩ (.int .u64 u)).setCell ⟨H + 1, 1, none⟩ (.int .i64 c)) := (keeps_set (keeps_set (KeepsOthers.refl _))).from _
    have hbn : Below H w ((W.setCell ⟨H + 1, 0, none⟩ (.int .u64 u)).setCell ⟨H + 1, 1, none⟩ (.int .i64 c)) := (hI.below.setCell (p := ⟨H + 1, 0, none⟩) (by show H ≤ H + 1; omega) _).setCell (p := ⟨H + 1, 1, none⟩) (by show H ≤ H + 1; omega) _
    have hln : Blk ((W.setCell ⟨H + 1, 0, none⟩ (.int .u64 u)).setCell ⟨H + 1, 1, none⟩ (.int .i64 c)) H 3 #[.int .i64 (level : Int)] := hI.lev.mod hmod (by omega)
    have hst : a = level ∨ c ≠ 0 → atF N m root page level = (u, c) := fun h => step_stop hG hI.lt h3 h
    have hIn : ¬ (a = level) → c = 0 → AtI w (H + 1) H level N m root page (pre ++ [(a, u, c)]).length ((W.setCell ⟨H + 1, 0, none⟩ (.int .u64 u)).setCell ⟨H + 1, 1, none⟩ (.int .i64 c)) := fun ha hc => by
      have hle : (pre ++ [(a, u, c)]).length = pre.length + 1 := by rw [List.length_append]; rfl
      refine ⟨by have := hI.lt; omega, fun j y hj hy => ?_, ⟨u, c, hLn⟩, hln, hbn, by simpa [World.setCell] using hI.size⟩
      by_cases e : j = pre.length
      · rw [e, hG] at hy; cases hy; exact hc
      · exact hI.zero j y (by omega) hy
    have HIN := hide hIn
    have HST := hide hst
    have HMOD := hide hmod
    have HLN := hide hLn
    have HKF := hide hkf
    have HBN := hide hbn
    have Hr := hide hr
    have HZ := hide hz
    clear hIn hst hmod hLn hkf hbn hln hL hI hG hBx hr hx1 hx3 hz
    by_cases ha : a = level
    · have HAT := hide (HST.out (.inl ha))
      subst ha
      gi_wp2
      exact ⟨HKF.out, rfl, by rw [HAT.out]; exact HLN.out, HBN.out⟩
    · have d1 : ((a : Int) == (level : Int)) = false := beq_eq_false_iff_ne.2 (by omega)
      by_cases hc : c = 0
      · have HA := hide (HIN.out ha hc)
        have HC := hide hc
        subst hc
        clear ha
        gi_wp2
        exact ⟨HKF.out, KeepC.of_mod HMOD.out, HA.out⟩
      · have d3 : (c == 0) = false := by simpa using hc
        have HAT := hide (HST.out (.inr hc))
        clear ha
        gi_wp2
        exact ⟨HKF.out, rfl, by rw [HAT.out]; exact HLN.out, HBN.out⟩
  case done =>
    rintro D xs W hD hlen hI hd
    have h5 := step_full (n := N) (m := m) (root := root) (page := page) (fun j y hy => hI.zero j y (by rw [hlen]; exact (List.getElem?_eq_some_iff.1 hy).1) hy)
    have := hI.lt
    omega
  case stop =>
    rintro D c pre W hD ⟨rfl, hL, hBW⟩ hd
    clear b0 b1 b2 b3 b4 hM1 hB
    obtain ⟨A, hA⟩ : ∃ A, atF N m root page level = A := ⟨_, rfl⟩
    rw [hA] at hL
    have HA := hide hA
    obtain ⟨l0, l1⟩ := hL.c2
    have hlL := hL.lt
    have Hd := hide hd
    have HBW := hide hBW
    clear hL hd hBW hA
    refine (wpIn_wide (n := 10)).2 ?_
    go_wp2
    go_quiet (fail)
    rename_i nq
    go_wp2
    rw [Exit.noGoto_ret]
    have hdD : (W.drewN nq).heap[D]? = some (.deferred (some [])) := Hd.out
    have sk := Skips.putObj (B := H + 1 + 1) hdD rfl (by omega) (.deferred none)
    refine marks_ret1 (v := .tuple #[.int .u64 A.1, .int .i64 A.2]) rfl hdD (by simp [results, Try.f53, go_sem]) ⟨by rw [HA.out], ?_⟩
    rw [HH.out]
    exact below_skips (below_drewN HBW.out nq) sk (by omega) hH'
end Go.Proofs.Ytjnnimdgmcpjoaa
