/- Chapter 8's own answer: where. -/
import Derived.Test.YtlfenakabedmfaaAccess3
import Derived.Test.YtlfenakabedmfaaRef7b
import Derived.Test.YtlfenakabedmfaaRef4
namespace Go.Proofs.Ytlfenakabedmfaa
open Go.RowKit Go.Shelf
set_option maxHeartbeats 2000000 in
theorem CrAt.apartR {w : World} {g gb cap n : Nat} {tl : Nat → Nat} {K : Nat → Core} {gm gf N cp : Nat} {m : Nat → Int} (hC : RCoresAt w g gb cap n tl K) (hM : RefAt w gm gf N cp m) : ∀ k, crS g gb n tl k → gm ≠ k ∧ gf ≠ k := by
  obtain ⟨cs2, hb2, _⟩ := hM.row
  obtain ⟨cs, hb, _⟩ := hC.row
  rintro k (rfl | rfl | ⟨i, hi, rfl⟩)
  · exact ⟨hM.hd.ne_ hC.hd (by decide), hb2.ne_ hC.hd (by decide)⟩
  · exact ⟨hM.hd.ne_ hb (by decide), hb2.ne_ hb (by decide)⟩
  · obtain ⟨cs3, hb3, _⟩ := hC.tlb i hi
    exact ⟨hM.hd.ne_ hb3 (by decide), hb2.ne_ hb3 (by decide)⟩
theorem rwhere_range (c q : Option Addr) (k va : Int) (wr : Bool) (w : World) (h : 32768 ≤ va) :
    Calls Try.prog 66 #[.pointer c, .pointer q, .int .i64 k, .int .u64 va, .bool wr] w fun e w' => e = .returned (.tuple #[.int .i64 0, .int .i64 1]) ∧ w = w' := by
  go_enter Try.func66, Try.ntmps66
  go_wp2_with fail
  go_ret2
  exact ⟨rfl, rfl⟩
set_option maxHeartbeats 2000000 in
theorem rwhere_align (c q : Option Addr) (k va : Int) (wr : Bool) (w : World) (h0 : 0 ≤ va) (h1 : va < 32768) (h : va % 8 ≠ 0) :
    Calls Try.prog 66 #[.pointer c, .pointer q, .int .i64 k, .int .u64 va, .bool wr] w fun e w' => e = .returned (.tuple #[.int .i64 0, .int .i64 2]) ∧ w = w' := by
  have hd : (va % 8 != 0) = true := by simpa using h
  have hd2 : va.tmod 8 = va % 8 := Int.tmod_eq_emod_of_nonneg h0
  go_enter Try.func66, Try.ntmps66
  go_wp2_with fail
  go_ret2
  exact ⟨rfl, rfl⟩
set_option maxHeartbeats 2000000 in
theorem rwhere_bad (gm g gb cap n : Nat) (tl : Nat → Nat) (K : Nat → Core) (k va : Int) (wr : Bool) (w : World) (hC : RCoresAt w g gb cap n tl K) (h0 : 0 ≤ va) (h1 : va < 32768) (h : va % 8 = 0) (hb : k < 0 ∨ (n : Int) ≤ k) :
    Calls Try.prog 66 #[.pointer (some ⟨g, 0, none⟩), .pointer (some ⟨gm, 0, none⟩), .int .i64 k, .int .u64 va, .bool wr] w fun e w' => e = .returned (.tuple #[.int .i64 0, .int .i64 3]) ∧ w = w' := by
  have HC := hide hC
  have HK := hide hb
  clear hC hb
  have hd : (va % 8 != 0) = false := by rw [h]; rfl
  have hd2 : va.tmod 8 = va % 8 := Int.tmod_eq_emod_of_nonneg h0
  go_enter Try.func66, Try.ntmps66
  go_wp2_with fail
  refine (rhas_no g gb cap n tl K k _ HC.out HK.out).mono ?_
  rintro e w3 ⟨rfl, rfl⟩
  go_wp2_with fail
  go_ret2
  exact ⟨rfl, rfl⟩
set_option maxHeartbeats 2000000 in
theorem rwhere_idle (gm g gb cap n : Nat) (tl : Nat → Nat) (K : Nat → Core) (i : Nat) (va : Int) (wr : Bool) (w : World) (hC : RCoresAt w g gb cap n tl K) (h0 : 0 ≤ va) (h1 : va < 32768) (h : va % 8 = 0) (hi : i < n) (hr : (K i).rt = -1) :
    Calls Try.prog 66 #[.pointer (some ⟨g, 0, none⟩), .pointer (some ⟨gm, 0, none⟩), .int .i64 i, .int .u64 va, .bool wr] w fun e w' => e = .returned (.tuple #[.int .i64 0, .int .i64 3]) ∧ w = w' := by
  have HC := hide hC
  have z0 := hC.hd0
  have z1 := (hC.cells i hi).1
  rw [hr] at z1
  have i0 : (0 : Int) ≤ (i : Int) := by omega
  have i1 : (i : Int) < (n : Int) := by omega
  clear hC
  have hd : (va % 8 != 0) = false := by rw [h]; rfl
  have hd2 : va.tmod 8 = va % 8 := Int.tmod_eq_emod_of_nonneg h0
  go_enter Try.func66, Try.ntmps66
  go_wp2_with fail
  refine (rhas_yes g gb cap n tl K i _ HC.out hi).mono ?_
  rintro e w3 ⟨rfl, rfl⟩
  go_wp2_with fail
  go_ret2
  exact ⟨rfl, rfl⟩
set_option maxRecDepth 100000 in
set_option maxHeartbeats 2000000 in
theorem rwhere_in (g gb cap n : Nat) (tl : Nat → Nat) (K : Nat → Core) (gm gf N cp : Nat) (m : Nat → Int) (i : Nat) (va : Int) (wr : Bool) (w : World) (hC : RCoresAt w g gb cap n tl K) (hM : RefAt w gm gf N cp m) (hG : GoodK n K) (h0 : 0 ≤ va) (h1 : va < 32768) (h : va % 8 = 0) (hi : i < n) (hr : 0 ≤ (K i).rt) (hf : 0 ≤ (trV n K N m i (va / 64)).1.fr) (hfN : (trV n K N m i (va / 64)).2.2 = 0 → (trV n K N m i (va / 64)).1.fr < N) :
    Calls Try.prog 66 #[.pointer (some ⟨g, 0, none⟩), .pointer (some ⟨gm, 0, none⟩), .int .i64 i, .int .u64 va, .bool wr] w fun e w' => e = .returned (.tuple #[.int .i64 ((accT (trV n K N m i (va / 64)) va wr).1 / 8), .int .i64 (accT (trV n K N m i (va / 64)) va wr).2]) ∧ RCoresAt w' g gb cap n tl (trK n K N m i (va / 64)) ∧ Mod (crS g gb n tl) w w' := by
  have HC := hide hC
  have HM := hide hM
  have HL := hide (fun k hk => hC.lt (k := k) hk)
  have hgm := hM.hd.lt
  have hgf := hM.ltf
  have hN := hM.le
  have z0 := hC.hd0
  have z1 := (hC.cells i hi).1
  have HAP := hide (hC.apartR hM)
  have i0 : (0 : Int) ≤ (i : Int) := by omega
  have i1 : (i : Int) < (n : Int) := by omega
  have hrn : ((K i).rt == -1) = false := by simp; omega
  have HTR := hide (fun W hW hX => rctrans_any g gb cap n tl K gm gf N cp m i (va / 64) W hW hX hG)
  generalize (K i).rt = rt at z1 hr hrn
  obtain ⟨⟨⟨a, b, c, r, v⟩, o, q⟩, hV⟩ : ∃ V, trV n K N m i (va / 64) = V := ⟨_, rfl⟩
  rw [hV] at HTR hf hfN ⊢
  obtain ⟨K', hK'⟩ : ∃ K', trK n K N m i (va / 64) = K' := ⟨_, rfl⟩
  rw [hK'] at HTR ⊢
  clear hV hK' hG hC hM
  dsimp only [Tr.row] at HTR hf hfN ⊢
  have hd : (va % 8 != 0) = false := by rw [h]; rfl
  have hd2 : va.tmod 8 = va % 8 := Int.tmod_eq_emod_of_nonneg h0
  have hq64 : va.tdiv 64 = va / 64 := Int.tdiv_eq_ediv_of_nonneg h0
  have hcv : IntKind.i64.wrap (va / 64) = va / 64 := by rw [IntKind.wrap_i64]; omega
  go_enter Try.func66, Try.ntmps66
  go_wp2_with fail
  refine (rhas_yes g gb cap n tl K i _ HC.out hi).mono ?_
  rintro e w3 ⟨rfl, rfl⟩
  go_wp2_with fail
  refine (rsplit_yes va _ h0 h1).mono ?_
  rintro e w1 ⟨rfl, hB⟩
  unfold splitA
  have hBa := hB.alloc (Nat.le_trans (Nat.le_refl _) hB.size) (.cells (partsA va) 175)
  have hk := Blk.new w1 175 (partsA va)
  have hz := hB.size
  unfold partsA at hBa hk
  go_upto_region 8 with fail
  generalize w1.alloc (.cells #[.int .i64 (va / 4096), .int .i64 (va / 512 % 8), .int .i64 (va / 64 % 8), .int .i64 (va % 64)] 175) = w2 at hBa hk ⊢
  clear hB
  generalize w1.heap.size = P at hk hz ⊢
  go_wp2_with fail
  refine (HTR.out _ (HC.out.on hBa) (HM.out.below hBa hgm hgf)).mono ?_
  rintro e w5 ⟨rfl, hC5, hm5⟩
  have hP5 : ¬ crS g gb n tl P := fun hc => by have := HL.out P hc; omega
  replace hk := hk.mod hm5 hP5
  have hm := (Mod.of_below hBa (crS g gb n tl)).trans hm5
  have HM5 := hide (HM.out.same (hm.block _ hgm fun e => (HAP.out _ e).1 rfl) (hm.block _ hgf fun e => (HAP.out _ e).2 rfl))
  have HC5 := hide hC5
  have HMM := hide hm
  clear hBa hm5 hC5 hm z0 z1
  have hal := (Below.refl w5.heap.size w5).alloc (Nat.le_refl _) (.cells #[.int .i64 a, .int .i64 b, .int .i64 c, .bool r, .bool v] 42)
  have hkt := Blk.new w5 42 #[.int .i64 a, .int .i64 b, .int .i64 c, .bool r, .bool v]
  replace hk := hk.below hal hk.lt
  have HC6 := hide (HC5.out.on hal)
  have HM6 := hide (HM5.out.on hal)
  have HMM6 := hide (HMM.out.trans (Mod.of_below hal _))
  go_upto_region 9 with fail
  generalize w5.alloc (.cells #[.int .i64 a, .int .i64 b, .int .i64 c, .bool r, .bool v] 42) = w6 at hk hkt HC6 HM6 HMM6 ⊢
  clear hal HC5 HM5 HMM
  generalize w5.heap.size = Q at *
  obtain ⟨p0, p1, p2, p3⟩ := hk.c4
  obtain ⟨t0, t1, t2, t3, t4⟩ := hkt.c5
  by_cases hq : q = 0
  · subst hq
    have hcN := hfN rfl
    have hf2 : ¬ ((N : Int) ≤ c) := by omega
    clear hfN
    go_quiet ((go_at_call 68; exact Calls.quiet_of_same ((rframes_any gm gf N cp m _ (HM6.out.on (below_drewN (Below.refl _ _) _))).mono fun _ _ h => ⟨h.1, h.2.symm⟩)))
    rename_i nq
    replace hk := hk.drewN nq
    replace hkt := hkt.drewN nq
    have HC7 := hide (HC6.out.on (below_drewN (Below.refl _ _) nq))
    have HMM7 := hide (HMM6.out.drewN nq)
    generalize w6.drewN nq = w7 at *
    clear p0 p1 p2 p3 t0 t1 t2 t3 t4 HC6 HM6 HMM6
    obtain ⟨p0, p1, p2, p3⟩ := hk.c4
    obtain ⟨t0, t1, t2, t3, t4⟩ := hkt.c5
    have y0 : 0 ≤ va % 64 := Int.emod_nonneg _ (by decide)
    have y1 : va % 64 < 64 := Int.emod_lt_of_pos _ (by decide)
    have hdv : (va % 64).tdiv 8 = va % 64 / 8 := Int.tdiv_eq_ediv_of_nonneg y0
    have hfin : (c * 64 + va % 64) / 8 = 8 * c + va % 64 / 8 := by omega
    have yb : 0 ≤ va % 64 / 8 ∧ va % 64 / 8 < 8 := by omega
    obtain ⟨yb0, yb1⟩ := yb
    cases wr
    · cases r
      · go_wp2_with fail
        go_ret2
        exact ⟨rfl, HC7.out, HMM7.out⟩
      · go_wp2_with fail
        go_ret2
        exact ⟨by show Ending.returned (.tuple #[.int .i64 (8 * c + va % 64 / 8), .int .i64 0]) = Ending.returned (.tuple #[.int .i64 ((c * 64 + va % 64) / 8), .int .i64 0]); rw [hfin], HC7.out, HMM7.out⟩
    · cases v
      · go_wp2_with fail
        go_ret2
        exact ⟨rfl, HC7.out, HMM7.out⟩
      · go_wp2_with fail
        go_ret2
        exact ⟨by show Ending.returned (.tuple #[.int .i64 (8 * c + va % 64 / 8), .int .i64 0]) = Ending.returned (.tuple #[.int .i64 ((c * 64 + va % 64) / 8), .int .i64 0]); rw [hfin], HC7.out, HMM7.out⟩
  · have hqf : (q != 0) = true := by simpa using hq
    go_quiet (fail)
    rename_i nq
    have HC7 := hide (HC6.out.on (below_drewN (Below.refl _ _) nq))
    have HMM7 := hide (HMM6.out.drewN nq)
    generalize w6.drewN nq = w7 at *
    go_wp2_with fail
    go_ret2
    unfold accT
    rw [if_pos hq]
    exact ⟨rfl, HC7.out, HMM7.out⟩
/-- A cache's frames, all of the memory. -/
structure GoodF (n : Nat) (K : Nat → Core) (N : Nat) : Prop where
  good : GoodK n K
  fr : ∀ i, i < n → ∀ j, j < 8 → ((K i).c.way j).sp ≠ 0 → ((K i).c.way j).fr < N
section
variable {n N : Nat} {K : Nat → Core} {m : Nat → Int} {k va : Int} {wr : Bool}
theorem GoodF.tr (h : GoodF n K N) (hN : 1 ≤ N) (p : Int) : 0 ≤ (trV n K N m k p).1.fr ∧ (trV n K N m k p).1.fr < N := by
  unfold trV
  split
  · rename_i ht
    obtain ⟨h0, h1, _⟩ := ht
    have hk : k.toNat < n := by omega
    unfold trIn
    split
    · exact ⟨Int.le_refl 0, show (0 : Int) < N by omega⟩
    split
    · unfold findTr
      cases hv : findV (K k.toNat).c (K k.toNat).sp p with
      | none => exact ⟨Int.le_refl 0, show (0 : Int) < N by omega⟩
      | some i =>
        have h2 := mem_vis.1 (List.mem_of_find?_eq_some hv)
        have h3 := ((h.good.good _ hk).may i h2.1 h2.2).1
        exact ⟨h3.2.2.2.1, h.fr _ hk i h2.1 h2.2⟩
    split
    · rename_i hw
      exact ⟨Int.emod_nonneg _ (by decide), (wlk_good N m _ _ hw).2.1⟩
    · exact ⟨Int.le_refl 0, show (0 : Int) < N by omega⟩
  · exact ⟨Int.le_refl 0, show (0 : Int) < N by omega⟩
theorem GoodF.upd_ (h : GoodF n K N) (i : Nat) {a b : Int} {c : Cache} (ha : a = -1 ∨ 0 ≤ a) (hc : Good c) (hf : i < n → ∀ j, j < 8 → (c.way j).sp ≠ 0 → (c.way j).fr < N) : GoodF n (upd K i ⟨a, b, c⟩) N :=
  ⟨h.good.upd_ i ha hc, fun j hj l hl => by
    unfold upd
    split
    · rename_i e; subst e; exact hf hj l hl
    · exact h.fr j hj l hl⟩
theorem fillC_not {c : Cache} {x : Tr} (h : ¬ mayFill x) : fillC c x = c := by
  obtain ⟨a, b, c', d, e⟩ := x
  exact if_neg h
theorem GoodF.trK (h : GoodF n K N) (m : Nat → Int) (k p : Int) : GoodF n (trK n K N m k p) N := by
  unfold Go.Proofs.Ytlfenakabedmfaa.trK
  split
  · rename_i ht
    obtain ⟨h0, h1, _⟩ := ht
    have hi : k.toNat < n := by omega
    refine h.upd_ _ (h.good.reg _ hi) (trInC_good (h.good.good _ hi)) (fun hin j hj => ?_)
    unfold trInC
    split
    · exact h.fr _ hin j hj
    split
    · exact h.fr _ hin j hj
    split
    · rename_i hw
      by_cases hmf : mayFill (wlkT N m (K k.toNat).rt p (K k.toNat).sp)
      · rw [fillC_way hmf]
        split
        · exact fun _ => (wlk_good N m _ _ hw).2.1
        · exact h.fr _ hin j hj
      · rw [fillC_not hmf]
        exact h.fr _ hin j hj
    · exact h.fr _ hin j hj
  · exact h
theorem GoodF.accK (h : GoodF n K N) (m : Nat → Int) (k va : Int) : GoodF n (accK n K N m k va) N := by
  unfold Go.Proofs.Ytlfenakabedmfaa.accK
  split
  · exact h
  · exact h.trK m k _
theorem GoodF.frOk (h : GoodF n K N) (hN : 1 ≤ N) (hN2 : N ≤ 64) (m : Nat → Int) (k va : Int) : frOk n K N m k va := by
  have := h.tr (m := m) (k := k) hN (va / 64)
  unfold Go.Proofs.Ytlfenakabedmfaa.frOk
  omega
/-- A place that find tells lies in the memory. -/
theorem accV_in (h : GoodF n K N) (hN : 1 ≤ N) (hk : (accV n K N m k va wr).2 = 0) : 0 ≤ (accV n K N m k va wr).1 ∧ (accV n K N m k va wr).1 % 8 = 0 ∧ (accV n K N m k va wr).1 < 64 * N := by
  have ht := h.tr (m := m) (k := k) hN (va / 64)
  have hb : accBad n K k va = 0 := by
    by_cases hb : accBad n K k va = 0
    · exact hb
    · unfold accV at hk; rw [if_pos hb] at hk; exact hk
  have h8 : va % 8 = 0 := by
    unfold accBad at hb
    split at hb
    · omega
    split at hb
    · omega
    omega
  unfold accV at *
  rw [if_neg (fun hh => hh hb)] at hk ⊢
  generalize trV n K N m k (va / 64) = T at *
  unfold accT at *
  by_cases g1 : T.2.2 ≠ 0
  · rw [if_pos g1] at hk; exact absurd hk (by decide)
  by_cases g2 : (if wr = true then T.1.wr else T.1.rd) = false
  · rw [if_neg g1, if_pos g2] at hk; exact absurd hk (by decide)
  rw [if_neg g1, if_neg g2]
  show 0 ≤ T.1.fr * 64 + va % 64 ∧ (T.1.fr * 64 + va % 64) % 8 = 0 ∧ T.1.fr * 64 + va % 64 < 64 * N
  omega
theorem accF_eq (h : GoodF n K N) (hN : 1 ≤ N) : accF n K N m k va wr = (accV n K N m k va wr).2 := by
  unfold accF
  by_cases hk : (accV n K N m k va wr).2 = 0
  · obtain ⟨a0, a1, a2⟩ := accV_in (wr := wr) (m := m) (k := k) h hN hk
    rw [if_neg (fun hh => hh hk), hk, if_pos]
    unfold adr
    rw [if_neg (fun hh => hh a1), if_neg (by omega)]
  · rw [if_pos hk]
end
theorem rwhere_any (g gb cap n : Nat) (tl : Nat → Nat) (K : Nat → Core) (gm gf N cp : Nat) (m : Nat → Int) (k va : Int) (wr : Bool) (w : World) (hC : RCoresAt w g gb cap n tl K) (hM : RefAt w gm gf N cp m) (hG : GoodF n K N) (h0 : 0 ≤ va) :
    Calls Try.prog 66 #[.pointer (some ⟨g, 0, none⟩), .pointer (some ⟨gm, 0, none⟩), .int .i64 k, .int .u64 va, .bool wr] w fun e w' => e = .returned (.tuple #[.int .i64 ((accV n K N m k va wr).1 / 8), .int .i64 (accV n K N m k va wr).2]) ∧ RCoresAt w' g gb cap n tl (accK n K N m k va) ∧ Mod (crS g gb n tl) w w' := by
  have hN := hM.pos
  unfold accV accK accBad
  by_cases h1 : 32768 ≤ va
  · simp only [if_pos h1]
    exact (rwhere_range _ _ k va wr w h1).mono fun _ _ h => ⟨h.1, h.2 ▸ hC, h.2 ▸ Mod.refl _ _⟩
  simp only [if_neg h1]
  by_cases h2 : va % 8 ≠ 0
  · simp only [if_pos h2]
    exact (rwhere_align _ _ k va wr w h0 (by omega) h2).mono fun _ _ h => ⟨h.1, h.2 ▸ hC, h.2 ▸ Mod.refl _ _⟩
  simp only [if_neg h2]
  by_cases h3 : ¬ (0 ≤ k ∧ k < n) ∨ (K k.toNat).rt < 0
  · simp only [if_pos h3]
    by_cases h4 : 0 ≤ k ∧ k < n
    · obtain ⟨i, rfl⟩ : ∃ i : Nat, k = i := ⟨k.toNat, by omega⟩
      have h5 : (K i).rt < 0 := h3.resolve_left fun h => h h4
      exact (rwhere_idle gm g gb cap n tl K i va wr w hC h0 (by omega) (by omega) (by omega) ((hG.good.reg i (by omega)).resolve_right (by omega))).mono fun _ _ h => ⟨h.1, h.2 ▸ hC, h.2 ▸ Mod.refl _ _⟩
    · exact (rwhere_bad gm g gb cap n tl K k va wr w hC h0 (by omega) (by omega) (by omega)).mono fun _ _ h => ⟨h.1, h.2 ▸ hC, h.2 ▸ Mod.refl _ _⟩
  simp only [if_neg h3]
  have h4 : 0 ≤ k ∧ k < n := Classical.byContradiction fun h => h3 (.inl h)
  obtain ⟨i, rfl⟩ : ∃ i : Nat, k = i := ⟨k.toNat, by omega⟩
  have h5 : 0 ≤ (K i).rt := Int.not_lt.1 fun h => h3 (.inr h)
  have ht := hG.tr (m := m) (k := i) hN (va / 64)
  exact (rwhere_in g gb cap n tl K gm gf N cp m i va wr w hC hM hG.good h0 (by omega) (by omega) (by omega) h5 ht.1 (fun _ => ht.2)).mono fun _ _ h => ⟨h.1, h.2.1, h.2.2⟩
end Go.Proofs.Ytlfenakabedmfaa
