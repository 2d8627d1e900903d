/- The walks of chapter 7's own answer: Has, Set, Translate, Prefetch. -/
import Derived.Test.YtlfenakabedmfaaCores4
import Derived.Test.YtlfenakabedmfaaRef6e
import Derived.Test.YtlfenakabedmfaaRef6s
import Derived.Test.YtlfenakabedmfaaRef5b
namespace Go.Proofs.Ytlfenakabedmfaa
open Go.RowKit Go.Shelf
theorem rhas_any (g gb cap n : Nat) (tl : Nat → Nat) (K : Nat → Core) (k : Int) (w : World) (hC : RCoresAt w g gb cap n tl K) :
    Calls Try.prog 60 #[.pointer (some ⟨g, 0, none⟩), .int .i64 k] w fun e w' => e = .returned (.bool (decide (0 ≤ k ∧ k < n))) ∧ w = w' := by
  have c0 := hC.hd0
  clear hC
  by_cases h0 : 0 ≤ k
  · by_cases h1 : k < (n : Int)
    · rw [show decide (0 ≤ k ∧ k < (n : Int)) = true from decide_eq_true ⟨h0, h1⟩]
      go_enter Try.func60, Try.ntmps60
      go_wp2_with fail
      go_ret
      exact ⟨rfl, rfl⟩
    · rw [show decide (0 ≤ k ∧ k < (n : Int)) = false from decide_eq_false (fun h => h1 h.2)]
      go_enter Try.func60, Try.ntmps60
      go_wp2_with fail
      go_ret
      exact ⟨rfl, rfl⟩
  · rw [show decide (0 ≤ k ∧ k < (n : Int)) = false from decide_eq_false (fun h => h0 h.1)]
    go_enter Try.func60, Try.ntmps60
    go_wp2_with fail
    go_ret
    exact ⟨rfl, rfl⟩
theorem rhas_yes (g gb cap n : Nat) (tl : Nat → Nat) (K : Nat → Core) (i : Nat) (w : World) (hC : RCoresAt w g gb cap n tl K) (h : i < n) :
    Calls Try.prog 60 #[.pointer (some ⟨g, 0, none⟩), .int .i64 i] w fun e w' => e = .returned (.bool true) ∧ w = w' := by
  have := rhas_any g gb cap n tl K i w hC
  rwa [show decide (0 ≤ (i : Int) ∧ (i : Int) < (n : Int)) = true from decide_eq_true ⟨by omega, by omega⟩] at this
theorem rhas_no (g gb cap n : Nat) (tl : Nat → Nat) (K : Nat → Core) (k : Int) (w : World) (hC : RCoresAt w g gb cap n tl K) (h : k < 0 ∨ (n : Int) ≤ k) :
    Calls Try.prog 60 #[.pointer (some ⟨g, 0, none⟩), .int .i64 k] w fun e w' => e = .returned (.bool false) ∧ w = w' := by
  have := rhas_any g gb cap n tl K k w hC
  rwa [show decide (0 ≤ k ∧ k < (n : Int)) = false from decide_eq_false (by omega)] at this
theorem rcset_bad (g gb cap n : Nat) (tl : Nat → Nat) (K : Nat → Core) (k r s : Int) (w : World) (hC : RCoresAt w g gb cap n tl K) (h : k < 0 ∨ (n : Int) ≤ k) :
    Calls Try.prog 38 #[.pointer (some ⟨g, 0, none⟩), .int .i64 k, .int .i64 r, .int .i64 s] w fun e w' => e = .returned (.int .i64 3) ∧ w = w' := by
  have HC := hide hC
  have H := hide h
  clear hC h
  go_enter Try.func38, Try.ntmps38
  go_wp2_with fail
  refine (rhas_no _ _ _ _ _ _ _ _ HC.out H.out).mono ?_
  rintro e w' ⟨rfl, rfl⟩
  go_wp2_with fail
  go_ret
  exact ⟨rfl, rfl⟩
theorem rcset_no (g gb cap n : Nat) (tl : Nat → Nat) (K : Nat → Core) (i : Nat) (r s : Int) (w : World) (hC : RCoresAt w g gb cap n tl K) (h : i < n) (hs : ¬ setOk r s) :
    Calls Try.prog 38 #[.pointer (some ⟨g, 0, none⟩), .int .i64 i, .int .i64 r, .int .i64 s] w fun e w' => e = .returned (.int .i64 2) ∧ w = w' := by
  have HC := hide hC
  clear hC
  unfold setOk at hs
  have hc : (r = -1 ∧ (s == 0) = false) ∨ ((r == -1) = false ∧ r < 0) ∨ ((r == -1) = false ∧ 64 ≤ r) ∨ ((r == -1) = false ∧ 0 ≤ r ∧ r < 64 ∧ decide (1 ≤ s) = false) := by
    simp only [beq_eq_false_iff_ne, ne_eq, decide_eq_false_iff_not]
    omega
  clear hs
  rcases hc with ⟨rfl, h1⟩ | ⟨h0, h1⟩ | ⟨h0, h1⟩ | ⟨h0, h1, h2, h3⟩
  all_goals
    go_enter Try.func38, Try.ntmps38
    go_wp2_with fail
    refine (rhas_yes _ _ _ _ _ _ i _ HC.out h).mono ?_
    rintro e w' ⟨rfl, rfl⟩
    go_wp2_with fail
    go_ret
    exact ⟨rfl, rfl⟩
theorem rcset_yes (g gb cap n : Nat) (tl : Nat → Nat) (K : Nat → Core) (i : Nat) (r s : Int) (w : World) (hC : RCoresAt w g gb cap n tl K) (h : i < n) (hs : setOk r s) :
    Calls Try.prog 38 #[.pointer (some ⟨g, 0, none⟩), .int .i64 i, .int .i64 r, .int .i64 s] w fun e w' => e = .returned (.int .i64 0) ∧ RCoresAt w' g gb cap n tl (upd K i ⟨r, s, (K i).c⟩) ∧ Mod (· = gb) w w' := by
  have hfin := hC.setRegs i h r s
  have hm : Mod (· = gb) w ((w.setCell ⟨gb, i * 3, none⟩ (.int .i64 r)).setCell ⟨gb, i * 3 + 1, none⟩ (.int .i64 s)) := (Mod.one gb w _ _).trans (Mod.one gb _ _ _)
  have HF := hide hfin
  have HM := hide hm
  have HC := hide hC
  have f0 := hC.frozen (i * 3)
  have f1 := hC.frozen (i * 3 + 1)
  have z0 := hC.hd0
  have hne := hC.ne
  have hn := hC.le
  obtain ⟨c0, c1, c2⟩ := hC.cells i h
  have z1 : (w.setCell ⟨gb, i * 3, none⟩ (.int .i64 r)).cell? ⟨g, 0, none⟩ = some (.slice (some ⟨gb, 0, none⟩) n cap) := ((Mod.one gb w (i * 3) (.int .i64 r)).cell hne hC.hd.lt).trans z0
  have i0 : (0 : Int) ≤ (i : Int) := by omega
  have i1 : (i : Int) < (n : Int) := by omega
  clear hC hfin hm
  unfold setOk at hs
  have hs' : (r = -1 ∧ s = 0) ∨ ((r == -1) = false ∧ 0 ≤ r ∧ r < 64 ∧ 1 ≤ s) := by
    simp only [beq_eq_false_iff_ne, ne_eq]
    omega
  clear hs
  rcases hs' with ⟨rfl, rfl⟩ | ⟨h0, h1, h2, h3⟩
  all_goals
    go_enter Try.func38, Try.ntmps38
    go_wp2_with fail
    refine (rhas_yes _ _ _ _ _ _ i _ HC.out h).mono ?_
    rintro e w' ⟨rfl, rfl⟩
    go_wp2_with fail
    go_ret
    exact ⟨rfl, HF.out, HM.out⟩
set_option maxRecDepth 100000 in
set_option maxHeartbeats 2000000 in
theorem rctrans_bad (q : Option Addr) (g gb cap n : Nat) (tl : Nat → Nat) (K : Nat → Core) (k p : Int) (w : World) (hC : RCoresAt w g gb cap n tl K) (h : k < 0 ∨ (n : Int) ≤ k ∨ p < 0 ∨ 512 ≤ p) :
    Calls Try.prog 58 #[.pointer (some ⟨g, 0, none⟩), .int .i64 k, .pointer q, .int .i64 p] w fun e w' => e = .returned (.tuple #[.agg Tr.zero.row, .bool false, .int .i64 3]) ∧ Below w.heap.size w w' := by
  have hC0 := hC.on ((Below.refl _ w).alloc (Nat.le_refl _) (.cells #[.int .i64 0, .int .i64 0, .int .i64 0, .bool false, .bool false] 42))
  clear hC
  have hc : (k < 0 ∨ (n : Int) ≤ k) ∨ ((0 ≤ k ∧ k < n) ∧ p < 0) ∨ ((0 ≤ k ∧ k < n) ∧ 512 ≤ p) := by omega
  clear h
  rcases hc with h | ⟨⟨hk0, hk1⟩, hp⟩ | ⟨⟨hk0, hk1⟩, hp⟩
  · have H := hide h
    clear h
    go_enter Try.func58, Try.ntmps58
    go_upto_region 1 with fail
    have hk := Blk.new w 42 #[.int .i64 0, .int .i64 0, .int .i64 0, .bool false, .bool false]
    have hB : Below w.heap.size w (w.alloc (.cells #[.int .i64 0, .int .i64 0, .int .i64 0, .bool false, .bool false] 42)) := (Below.refl _ w).alloc (Nat.le_refl _) _
    generalize w.alloc (.cells #[.int .i64 0, .int .i64 0, .int .i64 0, .bool false, .bool false] 42) = W at *
    go_wp2_with fail
    refine (rhas_no _ _ _ _ _ _ _ _ hC0 H.out).mono ?_
    rintro e w' ⟨rfl, rfl⟩
    obtain ⟨e0, e1, e2, e3, e4⟩ := hk.c5
    obtain ⟨f0, f1, f2, f3, f4⟩ := hk.f5
    clear hC0
    go_wp2_with fail
    exact bodyPost_ret (results_cell_tmp2 rfl _ _ w.heap.size 42 _ (0, 0) _ rfl (hk.set5 _ _ _ _ _) Try.underlying42 rfl (by kernel_rfl)) rfl ⟨rfl, below_set5 hB (Nat.le_refl _) _ _ _ _ _⟩
  all_goals
    obtain ⟨i, rfl⟩ : ∃ i : Nat, k = i := ⟨k.toNat, by omega⟩
    have hin : i < n := by omega
    clear hk0 hk1
    go_enter Try.func58, Try.ntmps58
    go_upto_region 1 with fail
    have hk := Blk.new w 42 #[.int .i64 0, .int .i64 0, .int .i64 0, .bool false, .bool false]
    have hB : Below w.heap.size w (w.alloc (.cells #[.int .i64 0, .int .i64 0, .int .i64 0, .bool false, .bool false] 42)) := (Below.refl _ w).alloc (Nat.le_refl _) _
    generalize w.alloc (.cells #[.int .i64 0, .int .i64 0, .int .i64 0, .bool false, .bool false] 42) = W at *
    go_wp2_with fail
    refine (rhas_yes _ _ _ _ _ _ i _ hC0 hin).mono ?_
    rintro e w' ⟨rfl, rfl⟩
    obtain ⟨e0, e1, e2, e3, e4⟩ := hk.c5
    obtain ⟨f0, f1, f2, f3, f4⟩ := hk.f5
    clear hC0
    go_wp2_with fail
    exact bodyPost_ret (results_cell_tmp2 rfl _ _ w.heap.size 42 _ (0, 0) _ rfl (hk.set5 _ _ _ _ _) Try.underlying42 rfl (by kernel_rfl)) rfl ⟨rfl, below_set5 hB (Nat.le_refl _) _ _ _ _ _⟩
set_option maxRecDepth 100000 in
set_option maxHeartbeats 4000000 in
theorem rctrans_in (g gb cap n : Nat) (tl : Nat → Nat) (K : Nat → Core) (gm gf N cp : Nat) (m : Nat → Int) (i : Nat) (p : Int) (w : World) (hC : RCoresAt w g gb cap n tl K) (hM : RefAt w gm gf N cp m) (hin : i < n) (p0 : 0 ≤ p) (p1 : p < 512) (hG : Good (K i).c) (hreg : (K i).rt = -1 ∨ 0 ≤ (K i).rt) :
    Calls Try.prog 58 #[.pointer (some ⟨g, 0, none⟩), .int .i64 i, .pointer (some ⟨gm, 0, none⟩), .int .i64 p] w fun e w' =>
      e = .returned (.tuple #[.agg (trIn N m p (K i)).1.row, .bool (trIn N m p (K i)).2.1, .int .i64 (trIn N m p (K i)).2.2]) ∧ RCoresAt w' g gb cap n tl (upd K i ⟨(K i).rt, (K i).sp, trInC N m p (K i)⟩) ∧ Mod (· = tl i) w w' := by
  have hb0 := (Below.refl _ w).alloc (Nat.le_refl _) (.cells #[.int .i64 0, .int .i64 0, .int .i64 0, .bool false, .bool false] 42)
  have hC0 := hC.on hb0
  have hM0 := hM.on hb0
  have HTw := hide (hC.tlb i hin)
  have HCK := hide (fun (c : Cache) (w2 : World) (ht : Ref6At w2 (tl i) c) (hm : Mod (· = tl i) w w2) => hC.setC i hin ht hm)
  have htl := (hC.tlb i hin).lt
  obtain ⟨X, hX⟩ : ∃ X, K i = X := ⟨_, rfl⟩
  have hcl := hC0.cells i hin
  have z0 := hC0.hd0
  have hT0 := hC0.tlb i hin
  have hn3 := hC.le
  have i0 : (0 : Int) ≤ (i : Int) := by omega
  have i1 : (i : Int) < (n : Int) := by omega
  rw [hX] at hcl hT0 HTw HCK hG hreg ⊢
  have HT0 := hide hT0
  obtain ⟨c0, c1, c2⟩ := hcl
  clear hX hC hM hb0 hT0
  obtain ⟨rt, sp, c⟩ := X
  dsimp only at c0 c1 HT0 HTw HCK hG hreg ⊢
  have HFN := hide (fun (w2 : World) (hb : Below w.heap.size w w2) => And.intro (HCK.out c w2 (HTw.out.below hb htl) (Mod.of_below hb _)) (Mod.of_below hb (· = tl i)))
  obtain ⟨V, hV⟩ : ∃ V, trIn N m p ⟨rt, sp, c⟩ = V := ⟨_, rfl⟩
  obtain ⟨C', hC'⟩ : ∃ C', trInC N m p ⟨rt, sp, c⟩ = C' := ⟨_, rfl⟩
  rw [hV, hC']
  have HV := hide hV
  have HC' := hide hC'
  have HG := hide hG
  clear hV hC' hG
  go_enter Try.func58, Try.ntmps58
  go_upto_region 1 with fail
  have hk := Blk.new w 42 #[.int .i64 0, .int .i64 0, .int .i64 0, .bool false, .bool false]
  have hB : Below w.heap.size w (w.alloc (.cells #[.int .i64 0, .int .i64 0, .int .i64 0, .bool false, .bool false] 42)) := (Below.refl _ w).alloc (Nat.le_refl _) _
  generalize w.alloc (.cells #[.int .i64 0, .int .i64 0, .int .i64 0, .bool false, .bool false] 42) = W at *
  have HC0 := hide hC0
  have HM0 := hide hM0
  clear hC0 hM0
  generalize hH : w.heap.size = H at *
  have HH := hide hH
  clear hH
  go_wp2_with fail
  refine (rhas_yes _ _ _ _ _ _ i _ HC0.out hin).mono ?_
  rintro e w' ⟨rfl, rfl⟩
  have hHW := hk.lt
  have hb1 := (Below.refl W.heap.size W).alloc (Nat.le_refl _) (.cells #[.int .i64 rt, .int .i64 sp, .pointer (some ⟨tl i, 0, none⟩)] 131)
  have hkc := Blk.new W 131 #[.int .i64 rt, .int .i64 sp, .pointer (some ⟨tl i, 0, none⟩)]
  replace hB := hB.trans (hb1.mono (Nat.le_of_lt hHW))
  replace hk := hk.below hb1 hHW
  have HM1 := hide (HM0.out.on hb1)
  have HT1 := hide (HT0.out.below hb1 HT0.out.lt)
  have HXC := hide HC0.out.row
  clear HM0 HT0
  go_upto_region 4 with fail
  generalize W.alloc (.cells #[.int .i64 rt, .int .i64 sp, .pointer (some ⟨tl i, 0, none⟩)] 131) = W2 at *
  generalize W.heap.size = X at *
  obtain ⟨x0, x1, x2⟩ := hkc.c3
  clear c0 c1 c2 z0 HXC HC0
  rcases hreg with rfl | hrt0
  · have HV2 := hide (show V = (Tr.zero, false, 19) by rw [← HV.out]; unfold trIn; exact if_pos (show (-1 : Int) < 0 by decide))
    have HC2 := hide (show C' = c by rw [← HC'.out]; unfold trInC; exact if_pos (show (-1 : Int) < 0 by decide))
    clear HV HC'
    obtain ⟨e0, e1, e2, e3, e4⟩ := hk.c5
    obtain ⟨f0, f1, f2, f3, f4⟩ := hk.f5
    go_wp2_with fail
    have hb2 := below_set5 hB (Nat.le_refl _) (.int .i64 0) (.int .i64 0) (.int .i64 0) (.bool false) (.bool false)
    refine bodyPost_ret (results_cell_tmp2 rfl _ _ H 42 _ (0, 0) _ rfl (hk.set5 _ _ _ _ _) Try.underlying42 rfl (by kernel_rfl)) rfl ⟨by rw [HV2.out]; rfl, ?_⟩
    rw [HC2.out]
    exact HFN.out _ hb2
  · have hrt1 : (rt == -1) = false := beq_eq_false_iff_ne.2 (by omega)
    obtain ⟨F, hF⟩ : ∃ F, findTr c sp p = F := ⟨_, rfl⟩
    obtain ⟨O, hO⟩ : ∃ O, findOk c sp p = O := ⟨_, rfl⟩
    have HF := hide hF
    have HO := hide hO
    clear hF hO
    go_wp2_with fail
    refine (rfind6 _ _ _ _ _ HT1.out HG.out).mono ?_
    rintro e w6 ⟨rfl, hb6⟩
    rw [HF.out, HO.out]
    unfold Tr.row
    replace hB := hB.trans (hb6.mono (Nat.le_of_lt hk.lt))
    replace hk := blk_below hk hb6
    replace hkc := blk_below hkc hb6
    have HM6 := hide (HM1.out.on hb6)
    have HT6 := hide (HT1.out.below hb6 HT1.out.lt)
    have hH6 := hk.lt
    have hX6 := hkc.lt
    have hba := (Below.refl w6.heap.size w6).alloc (Nat.le_refl _) (.cells #[.int .i64 F.sp, .int .i64 F.pg, .int .i64 F.fr, .bool F.rd, .bool F.wr] 42)
    have hkt := Blk.new w6 42 #[.int .i64 F.sp, .int .i64 F.pg, .int .i64 F.fr, .bool F.rd, .bool F.wr]
    replace hB := hB.trans (hba.mono (Nat.le_of_lt hH6))
    replace hk := hk.below hba hH6
    replace hkc := hkc.below hba hX6
    replace HM6 := hide (HM6.out.on hba)
    replace HT6 := hide (HT6.out.below hba HT6.out.lt)
    clear hb6 hba HM1 HT1 x0 x1 x2
    go_upto_region 7 with fail
    generalize w6.alloc (.cells #[.int .i64 F.sp, .int .i64 F.pg, .int .i64 F.fr, .bool F.rd, .bool F.wr] 42) = W6 at *
    generalize w6.heap.size = Y at *
    obtain ⟨x0, x1, x2⟩ := hkc.c3
    cases O with
    | true =>
      have HV2 := hide (show V = (F, true, 0) by rw [← HV.out, ← HF.out]; unfold trIn; rw [if_neg (show ¬ rt < 0 by omega), if_pos HO.out])
      have HC2 := hide (show C' = c by rw [← HC'.out]; unfold trInC; rw [if_neg (show ¬ rt < 0 by omega), if_pos HO.out])
      clear HV HC'
      obtain ⟨d0, d1, d2, d3, d4⟩ := hkt.c5
      obtain ⟨e0, e1, e2, e3, e4⟩ := hk.c5
      obtain ⟨f0, f1, f2, f3, f4⟩ := hk.f5
      go_wp2_with fail
      have hb2 := below_set5 hB (Nat.le_refl _) (.int .i64 F.sp) (.int .i64 F.pg) (.int .i64 F.fr) (.bool F.rd) (.bool F.wr)
      refine bodyPost_ret (results_cell_tmp2 rfl _ _ H 42 _ (0, 0) _ rfl (hk.set5 _ _ _ _ _) Try.underlying42 rfl (by kernel_rfl)) rfl ⟨by rw [HV2.out]; rfl, ?_⟩
      rw [HC2.out]
      exact HFN.out _ hb2
    | false =>
      by_cases hwe : wlkE N m rt p = 0
      · have HV2 := hide (show V = (wlkT N m rt p sp, false, 0) by rw [← HV.out]; unfold trIn; rw [if_neg (show ¬ rt < 0 by omega), if_neg (by rw [HO.out]; decide), if_pos hwe])
        have HC2 := hide (show C' = fillC c (wlkT N m rt p sp) by rw [← HC'.out]; unfold trInC; rw [if_neg (show ¬ rt < 0 by omega), if_neg (by rw [HO.out]; decide), if_pos hwe])
        clear HV HC'
        obtain ⟨hwc, _⟩ := wlk_good N m rt p hwe
        have HWT := hide (show wlkT N m rt p sp = ⟨sp, p, leafX N m rt p / 256 % 64, bitB (leafX N m rt p) 2, bitB (leafX N m rt p) 3⟩ from rfl)
        have HWW := hide (fun W => rwalk_any gm gf N cp m rt p W)
        rw [hwc, hwe] at HWW
        generalize wlkT N m rt p sp = T at *
        generalize leafX N m rt p / 256 % 64 = f at *
        generalize bitB (leafX N m rt p) 2 = rb at *
        generalize bitB (leafX N m rt p) 3 = wb at *
        clear hwc hwe
        go_wp2_with fail
        refine (HWW.out _ HM6.out).mono ?_
        rintro e w7 ⟨rfl, hb7⟩
        clear HWW HM6
        have hH7 := hk.lt
        replace hB := hB.trans (hb7.mono (Nat.le_of_lt hH7))
        replace hk := blk_below hk hb7
        replace hkc := blk_below hkc hb7
        replace hkt := blk_below hkt hb7
        have HT7 := hide (HT6.out.below hb7 HT6.out.lt)
        have hH8 := hk.lt
        have hX8 := hkc.lt
        have hY8 := hkt.lt
        have hke := Blk.new w7 50 #[.bool true, .bool true, .bool rb, .bool wb, .int .i64 f]
        have hb8 := (Below.refl w7.heap.size w7).alloc (Nat.le_refl _) (.cells #[.bool true, .bool true, .bool rb, .bool wb, .int .i64 f] 50)
        replace hB := hB.trans (hb8.mono (Nat.le_of_lt hH8))
        replace hk := hk.below hb8 hH8
        replace hkc := hkc.below hb8 hX8
        replace hkt := hkt.below hb8 hY8
        have HT8 := hide (HT7.out.below hb8 HT7.out.lt)
        clear hb7 hb8 HT6 HT7 x0 x1 x2
        go_upto_region 10 with fail
        generalize w7.alloc (.cells #[.bool true, .bool true, .bool rb, .bool wb, .int .i64 f] 50) = W8 at *
        generalize w7.heap.size = G at *
        obtain ⟨d0, d1, d2, d3, d4⟩ := hke.c5
        obtain ⟨x0, x1, x2⟩ := hkc.c3
        obtain ⟨g0, g1, g2, g3, g4⟩ := hkt.f5
        obtain ⟨t0, t1, t2, t3, t4⟩ := hkt.c5
        have hGl := hke.lt
        have hm9 := mod_set5 (Mod.refl (· = Y) W8) (.inl rfl) (.int .i64 sp) (.int .i64 p) (.int .i64 f) (.bool rb) (.bool wb)
        have hHY : H ≠ Y := by omega
        have hXY : X ≠ Y := by omega
        have hTY : ¬ tl i = Y := by omega
        have hk9 := hk.mod hm9 hHY
        have hkc9 := hkc.mod hm9 hXY
        have hkt9 := hkt.set5 (.int .i64 sp) (.int .i64 p) (.int .i64 f) (.bool rb) (.bool wb)
        have HT9 := hide (HT8.out.mod hm9 hTY)
        have hB9 := below_set5 hB (show H ≤ Y by omega) (.int .i64 sp) (.int .i64 p) (.int .i64 f) (.bool rb) (.bool wb)
        have HK9 := hide hk9
        have HKC9 := hide hkc9
        have HKT9 := hide hkt9
        have HB9 := hide hB9
        clear hm9 hk9 hkc9 hkt9 hB9 hk hkc HT8 hB
        go_upto_region 13 with fail
        generalize ((((W8.setCell ⟨Y, 0, none⟩ (.int .i64 sp)).setCell ⟨Y, 1, none⟩ (.int .i64 p)).setCell ⟨Y, 2, none⟩ (.int .i64 f)).setCell ⟨Y, 3, none⟩ (.bool rb)).setCell ⟨Y, 4, none⟩ (.bool wb) = W9 at *
        clear x0 x1 x2 t0 t1 t2 t3 t4 g0 g1 g2 g3 g4 d0 d1 d2 d3 d4
        obtain ⟨x0, x1, x2⟩ := HKC9.out.c3
        obtain ⟨t0, t1, t2, t3, t4⟩ := HKT9.out.c5
        go_wp2_with fail
        have hfl := rfill6 (tl i) c T _ HT9.out HG.out
        rw [HWT.out] at hfl
        refine hfl.mono ?_
        rintro e w10 ⟨rfl, ht10, hm10⟩
        have hHt : H ≠ tl i := fun e => by omega
        have hYt : Y ≠ tl i := fun e => by omega
        have hk10 := HK9.out.mod hm10 hHt
        have hkt10 := HKT9.out.mod hm10 hYt
        have HMW := hide ((Mod.of_below (HH.out ▸ HB9.out) (· = tl i)).trans hm10)
        have HT10 := hide ht10
        clear x0 x1 x2 t0 t1 t2 t3 t4 hfl
        obtain ⟨t0, t1, t2, t3, t4⟩ := hkt10.c5
        obtain ⟨e0, e1, e2, e3, e4⟩ := hk10.c5
        obtain ⟨f0, f1, f2, f3, f4⟩ := hk10.f5
        clear hm10 ht10
        go_wp2_with fail
        refine bodyPost_ret (results_cell_tmp2 rfl _ _ H 42 _ (0, 0) _ rfl (hk10.set5 _ _ _ _ _) Try.underlying42 rfl (by kernel_rfl)) rfl ⟨by rw [HV2.out, HWT.out]; rfl, ?_⟩
        rw [HC2.out, HWT.out]
        have hm2 := mod_set5 HMW.out (.inr (Nat.le_of_eq HH.out)) (.int .i64 sp) (.int .i64 p) (.int .i64 f) (.bool rb) (.bool wb)
        have hm3 := mod_set5 (Mod.refl (· = H) w10) (.inl rfl) (.int .i64 sp) (.int .i64 p) (.int .i64 f) (.bool rb) (.bool wb)
        exact ⟨HCK.out _ _ (HT10.out.mod hm3 (fun e => hHt e.symm)) hm2, hm2⟩
      · have HV2 := hide (show V = (Tr.zero, false, wlkE N m rt p) by rw [← HV.out]; unfold trIn; rw [if_neg (show ¬ rt < 0 by omega), if_neg (by rw [HO.out]; decide), if_neg hwe])
        have HC2 := hide (show C' = c by rw [← HC'.out]; unfold trInC; rw [if_neg (show ¬ rt < 0 by omega), if_neg (by rw [HO.out]; decide), if_neg hwe])
        clear HV HC'
        obtain ⟨y0, y1, y2, y3, y4, hwc⟩ : ∃ (a b c d : Bool) (f : Int), wlkC N m rt p = #[.bool a, .bool b, .bool c, .bool d, .int .i64 f] := by
          unfold wlkC
          split
          · exact entC_lit _ _ _
          · exact ⟨_, _, _, _, _, rfl⟩
        have HWW := hide (fun W => rwalk_any gm gf N cp m rt p W)
        rw [hwc] at HWW
        generalize wlkE N m rt p = E at *
        have t : (E != 0) = true := bne_iff_ne.2 hwe
        clear hwc hwe
        go_wp2_with fail
        refine (HWW.out _ HM6.out).mono ?_
        rintro e w7 ⟨rfl, hb7⟩
        clear HWW HM6
        have hHl := hk.lt
        replace hB := hB.trans (hb7.mono (Nat.le_of_lt hHl))
        replace hk := blk_below hk hb7
        have hH7 := hk.lt
        replace hB := hB.alloc (Nat.le_of_lt hH7) (.cells #[.bool y0, .bool y1, .bool y2, .bool y3, .int .i64 y4] 50)
        replace hk := hk.alloc (.cells #[.bool y0, .bool y1, .bool y2, .bool y3, .int .i64 y4] 50)
        obtain ⟨e0, e1, e2, e3, e4⟩ := hk.c5
        obtain ⟨f0, f1, f2, f3, f4⟩ := hk.f5
        clear x0 x1 x2 hb7 HT6 hkc hkt hHl
        go_upto_region 10 with fail
        generalize w7.alloc (.cells #[.bool y0, .bool y1, .bool y2, .bool y3, .int .i64 y4] 50) = w8 at *
        go_wp2_with fail
        have hb2 := below_set5 hB (Nat.le_refl _) (.int .i64 0) (.int .i64 0) (.int .i64 0) (.bool false) (.bool false)
        refine bodyPost_ret (results_cell_tmp2 rfl _ _ H 42 _ (0, 0) _ rfl (hk.set5 _ _ _ _ _) Try.underlying42 rfl (by kernel_rfl)) rfl ⟨by rw [HV2.out]; rfl, ?_⟩
        rw [HC2.out]
        exact HFN.out _ hb2
end Go.Proofs.Ytlfenakabedmfaa
