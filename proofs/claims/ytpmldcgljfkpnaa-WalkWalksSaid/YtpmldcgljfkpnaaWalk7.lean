/- The walks of package walk: Depth. -/
import Derived.Test.YtpmldcgljfkpnaaWalk6
namespace Go.Proofs.Ytpmldcgljfkpnaa
open Go.RowKit Go.Shelf
attribute [local go_sem] Oper.semAt_some

def okN (l : List (Nat × Int × Int)) (k : Nat) : Nat := ((l.take k).filter fun x => x.2.2 == 0).length
def depV (n : Nat) (m : Nat → Int) (root page : Int) : Int := if badV n root page 1 = 0 then (depF n m root.toNat page.toNat : Int) else 0
section
variable {n : Nat} {m : Nat → Int} {root page : Nat}
theorem ok_step {k : Nat} {x : Nat × Int × Int} (hx : (stepL n m root page)[k]? = some x) : okN (stepL n m root page) (k + 1) = okN (stepL n m root page) k + (if x.2.2 = 0 then 1 else 0) := by
  have hk := (List.getElem?_eq_some_iff.1 hx).1
  unfold okN
  rw [List.take_add_one, hx, List.filter_append, List.length_append]
  by_cases h : x.2.2 = 0
  · simp [h]
  · simp [h]
theorem ok_lev {k : Nat} {x : Nat × Int × Int} (hx : (stepL n m root page)[k]? = some x) : okN (stepL n m root page) k = k := by
  by_cases h1 : erN n m root page 1 = 0
  · by_cases h2 : erN n m root page 2 = 0
    · rw [step_yy h1 h2] at hx ⊢
      match k, hx with
      | 0, _ => rfl
      | 1, _ => rfl
      | 2, _ => rfl
    · rw [step_yn h1 h2] at hx ⊢
      match k, hx with
      | 0, _ => rfl
      | 1, _ => rfl
      | 2, _ => rfl
  · rw [step_n h1] at hx ⊢
    match k, hx with
    | 0, _ => rfl
    | 1, _ => rfl
theorem ok_all : okN (stepL n m root page) (stepL n m root page).length = depF n m root page := by
  unfold depF
  by_cases h1 : erN n m root page 1 = 0
  · rw [if_pos h1]
    by_cases h2 : erN n m root page 2 = 0
    · rw [if_pos h2, step_yy h1 h2]; rfl
    · rw [if_neg h2, step_yn h1 h2]
      simp [okN, h2]
  · rw [if_neg h1, step_n h1]
    simp [okN, h1]
end
structure DepI (w : World) (H : Nat) (n : Nat) (m : Nat → Int) (root page : Nat) (k : Nat) (W : World) : Prop where
  dep : Blk W H 3 #[.int .i64 (okN (stepL n m root page) k : Int)]
  below : Below H w W
  size : H + 4 ≤ W.heap.size
theorem walk_w4 {w : World} {t0 t1 t2 t3 : TypeId} (c0 c1 c2 c3 : Array Value) : Blk ((((w.alloc (.cells c0 t0)).alloc (.cells c1 t1)).alloc (.cells c2 t2)).alloc (.cells c3 t3)) w.heap.size t0 c0 ∧ Blk ((((w.alloc (.cells c0 t0)).alloc (.cells c1 t1)).alloc (.cells c2 t2)).alloc (.cells c3 t3)) (w.heap.size + 1) t1 c1 ∧
    Blk ((((w.alloc (.cells c0 t0)).alloc (.cells c1 t1)).alloc (.cells c2 t2)).alloc (.cells c3 t3)) (w.heap.size + 1 + 1) t2 c2 ∧ Blk ((((w.alloc (.cells c0 t0)).alloc (.cells c1 t1)).alloc (.cells c2 t2)).alloc (.cells c3 t3)) (w.heap.size + 1 + 1 + 1) t3 c3 ∧ Below w.heap.size w ((((w.alloc (.cells c0 t0)).alloc (.cells c1 t1)).alloc (.cells c2 t2)).alloc (.cells c3 t3)) ∧
    ((((w.alloc (.cells c0 t0)).alloc (.cells c1 t1)).alloc (.cells c2 t2)).alloc (.cells c3 t3)).heap.size = w.heap.size + 4 := by
  have b0 := (((Blk.new w t0 c0).alloc (.cells c1 t1)).alloc (.cells c2 t2)).alloc (.cells c3 t3)
  have b1 := ((Blk.new (w.alloc (.cells c0 t0)) t1 c1).alloc (.cells c2 t2)).alloc (.cells c3 t3)
  have b2 := (Blk.new ((w.alloc (.cells c0 t0)).alloc (.cells c1 t1)) t2 c2).alloc (.cells c3 t3)
  have b3 := Blk.new (((w.alloc (.cells c0 t0)).alloc (.cells c1 t1)).alloc (.cells c2 t2)) t3 c3
  have hb := ((((Below.refl _ w).alloc (Nat.le_refl _) (.cells c0 t0)).alloc (by simp) (.cells c1 t1)).alloc (by simp; omega) (.cells c2 t2)).alloc (by simp; omega) (.cells c3 t3)
  simp only [World.size_alloc] at b1 b2 b3
  exact ⟨b0, b1, b2, b3, hb, by simp⟩
set_option maxHeartbeats 1000000 in
theorem wdep_bad (g gf N cp : Nat) (m : Nat → Int) (root page : Int) (w : World) (hM : MemAt w g gf N cp m) (hb : badV N root page 1 = 3) :
    Calls Try.prog 16 #[.pointer (some ⟨g, 0, none⟩), .int .i64 root, .int .i64 page] w fun e w' => e = .returned (.int .i64 0) ∧ Below w.heap.size w w' := by
  have HM := hide hM
  have HB := hide hb
  clear hM hb
  refine calls_marks Try.func16 rfl ?_
  simp only [Try.ntmps16, List.size_toArray, List.length_cons, List.length_nil, Nat.reduceAdd, Nat.reduceSub, Array.replicate_succ, Array.replicate_zero, List.push_toArray, List.append_toArray, List.nil_append, List.cons_append]
  go_wp2_with fail
  refine (bad_any g gf N cp m root page 1 _ HM.out).mono ?_
  rintro e w2 ⟨rfl, rfl⟩
  rw [HB.out]
  go_wp2
  refine marks_ret (v := .int .i64 0) rfl (by simp [results, Try.f16, go_sem]) ⟨rfl, Below.refl _ _⟩
theorem wdep_nil (root page : Int) (w : World) :
    Calls Try.prog 16 #[.pointer none, .int .i64 root, .int .i64 page] w fun e w' => e = .returned (.int .i64 0) ∧ Below w.heap.size w w' := by
  refine calls_marks Try.func16 rfl ?_
  simp only [Try.ntmps16, List.size_toArray, List.length_cons, List.length_nil, Nat.reduceAdd, Nat.reduceSub, Array.replicate_succ, Array.replicate_zero, List.push_toArray, List.append_toArray, List.nil_append, List.cons_append]
  go_wp2_with fail
  refine (bad_nil root page 1 _).mono ?_
  rintro e w2 ⟨rfl, rfl⟩
  go_wp2
  refine marks_ret (v := .int .i64 0) rfl (by simp [results, Try.f16, go_sem]) ⟨rfl, Below.refl _ _⟩
set_option maxRecDepth 100000 in
set_option maxHeartbeats 2000000 in
theorem wdep_in (g gf N cp : Nat) (m : Nat → Int) (root page : Nat) (w : World) (hM : MemAt w g gf N cp m) (hr : root < N) (hp : page < 512) :
    Calls Try.prog 16 #[.pointer (some ⟨g, 0, none⟩), .int .i64 (root : Int), .int .i64 (page : Int)] w fun e w' => e = .returned (.int .i64 (depF N m root page : Int)) ∧ Below w.heap.size w w' := by
  have hbad := badV_ok hr hp (level := 1) (by decide) (by decide)
  rw [show ((1 : Nat) : Int) = 1 from rfl] at hbad
  have hg1 := hM.hd.lt
  have hg2 := hM.ltf
  have HM := hide hM
  clear hM
  refine calls_marks Try.func16 rfl ?_
  simp only [Try.ntmps16, List.size_toArray, List.length_cons, List.length_nil, Nat.reduceAdd, Nat.reduceSub, Array.replicate_succ, Array.replicate_zero, List.push_toArray, List.append_toArray, List.nil_append, List.cons_append]
  go_wp2_with fail
  refine (bad_any g gf N cp m root page 1 _ HM.out).mono ?_
  rintro e w2 ⟨rfl, rfl⟩
  rw [hbad]
  clear hbad
  go_wp2_with fail
  refine (levels_any _ _ _ _).mono ?_
  rintro e w' ⟨rfl, rfl⟩
  go_wp2
  rename_i K hK
  obtain ⟨b0, b1, b2, b3, hB, hz⟩ := walk_w4 (w := w) (t0 := 3) (t1 := 23) (t2 := 3) (t3 := 3) #[.int .i64 0] #[.pointer (some ⟨g, 0, none⟩)] #[.int .i64 (root : Int)] #[.int .i64 (page : Int)]
  generalize (((w.alloc (.cells #[.int .i64 0] 3)).alloc (.cells #[.pointer (some ⟨g, 0, none⟩)] 23)).alloc (.cells #[.int .i64 (root : Int)] 3)).alloc (.cells #[.int .i64 (page : Int)] 3) = W1 at *
  have hM1 := HM.out.on hB
  generalize hH : w.heap.size = H at *
  have hH' : H ≤ w.heap.size := Nat.le_of_eq hH.symm
  have HH := hide hH
  clear hH
  refine (wpIn_wide (n := 10)).1 ?_
  refine' wpIn_iter2 (F := Fence.wide) rfl (by decide) (gf := 35) (lb := _) rfl trivial (enters_of Try.func35 (by kernel_rfl) rfl) (levels_iter Fence.wide 9 (wideF _) rfl (by omega) g gf N cp m root page _ _ _ W1 hM1 b2 b3 b1 hr hp (fun k => k = H) (fun k hk => by have hk' : k = H := hk; omega))
    (fun pre x A B C D h1 h2 h3 => KeepC.skips h1 h2 h3) (fun _ _ _ _ h _ => h) (fun _ _ _ h _ => h) (fun _ => rfl)
    (fun pre W => DepI w H N m root page pre.length W)
    (fun _ _ _ => False)
    ?hI ?hIx ?h0 _ (fun x s W => Blk W s 69 #[.int .u64 x.2.1, .int .i64 x.2.2]) (fun x s A C h hk => hk.blk h) ?assign ?body ?done ?stop
  case assign =>
    intro l pre x W K hi hK
    have hs := hi.size
    have hK2 := hK W.heap.size (W.alloc (.cells #[.int .u64 x.2.1, .int .i64 x.2.2] 69)) (Ext.of_below ((Below.refl _ _).alloc (Nat.le_refl _) _)) (by omega) (Blk.new _ _ _)
    gi_wp2
    generalize W.heap.size = s at *
    exact hK2
  case hI => exact fun s A C h hk => ⟨hk.blk h.dep, below_skips h.below hk (by omega) hH', Nat.le_trans h.size hk.size⟩
  case hIx => exact fun c s A C h hk => h
  case h0 => exact ⟨b0, hB, by omega⟩
  case body =>
    rintro l pre x s W hl hr hI hG hs hBx
    clear b0 b1 b2 b3 hM1 hB hK
    obtain ⟨a, u, c⟩ := x
    dsimp only at hBx
    obtain ⟨hx1, hx3⟩ := step_fst hG
    dsimp only at hx1
    obtain ⟨s0, s1⟩ := hBx.c2
    have l0 := hI.dep.cell 0
    have z0 := hI.dep.frozen 0
    have hlL := hI.dep.lt
    have hls := hBx.lt
    have hm0 : Mod (fun k => k = H) W W := Mod.refl _ W
    have hmod : Mod (fun k => k = H) W (W.setCell ⟨H, 0, none⟩ (.int .i64 (a : Int))) := hm0.setCell (p := ⟨H, 0, none⟩) (.inl rfl) _
    have hkf : KeepsFrom W1.heap.size W (W.setCell ⟨H, 0, none⟩ (.int .i64 (a : Int))) := (keeps_set (KeepsOthers.refl _)).from _
    have hle : (pre ++ [(a, u, c)]).length = pre.length + 1 := by rw [List.length_append]; rfl
    have hs1 := ok_step hG
    dsimp only at hs1
    have HMOD := hide hmod
    have HKF := hide hkf
    have HZ := hide hz
    have Hr := hide hr
    by_cases hc : c = 0
    · have hIn : DepI w H N m root page (pre ++ [(a, u, c)]).length (W.setCell ⟨H, 0, none⟩ (.int .i64 (a : Int))) := by
        have hl0 := ok_lev hG
        rw [if_pos hc, hl0] at hs1
        have hd := hI.dep.set_ 0 (.int .i64 (a : Int))
        simp only [List.setIfInBounds_toArray, List.set_cons_zero] at hd
        refine ⟨by rw [hle, hs1, ← hx1]; exact hd, hI.below.setCell (p := ⟨H, 0, none⟩) (Nat.le_refl _) _, by simpa [World.setCell] using hI.size⟩
      have HIN := hide hIn
      subst hc
      clear hIn hs1 hmod hkf hI hG hBx hr hx1 hx3 hz hle hm0
      gi_wp2
      exact ⟨HKF.out, KeepC.of_mod HMOD.out, HIN.out⟩
    · have hIn : DepI w H N m root page (pre ++ [(a, u, c)]).length W := by
        rw [if_neg hc, Nat.add_zero] at hs1
        exact ⟨by rw [hle, hs1]; exact hI.dep, hI.below, hI.size⟩
      have HIN := hide hIn
      have d : (c == 0) = false := by simpa using hc
      clear hIn hs1 hmod hkf hI hG hBx hr hx1 hx3 hz hle hm0
      gi_wp2
      exact ⟨KeepsFrom.refl _ _, KeepC.refl _ _, HIN.out⟩
  case done =>
    rintro D xs W hD hlen hI hd
    clear b0 b1 b2 b3 hM1 hB
    have hI2 := hI.dep
    rw [hlen, ok_all] at hI2
    have l0 := hI2.cell 0
    have Hd := hide hd
    have HBW := hide hI.below
    clear hd hI hI2 hlen
    go_wp2
    have sk := Skips.putObj (B := H + 1) Hd.out rfl (by omega) (.deferred none)
    refine marks_ret1 (v := .int .i64 (depF N m root page : Int)) rfl Hd.out (by simp [results, Try.f16, go_sem]) ⟨rfl, ?_⟩
    rw [HH.out]
    exact below_skips HBW.out sk (by omega) hH'
  case stop => exact fun D c pre W hD h hd => h.elim
theorem wdep_any (g gf N cp : Nat) (m : Nat → Int) (root page : Int) (w : World) (hM : MemAt w g gf N cp m) :
    Calls Try.prog 16 #[.pointer (some ⟨g, 0, none⟩), .int .i64 root, .int .i64 page] w fun e w' => e = .returned (.int .i64 (depV N m root page)) ∧ Below w.heap.size w w' := by
  unfold depV
  by_cases hb : badV N root page 1 = 0
  · rw [if_pos hb]
    obtain ⟨r, p, l, rfl, rfl, _, h1, h2, h3, h4⟩ := badV_no hb
    exact wdep_in g gf N cp m r p w hM h1 h2
  · rw [if_neg hb]
    exact wdep_bad g gf N cp m root page w hM (badV_yes hb)
end Go.Proofs.Ytpmldcgljfkpnaa
