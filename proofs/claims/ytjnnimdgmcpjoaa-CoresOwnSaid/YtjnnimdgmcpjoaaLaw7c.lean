/- The walk of the statement of chapter 7: CoresDown. -/
import Derived.Test.YtjnnimdgmcpjoaaLaw7b
namespace Go.Proofs.Ytjnnimdgmcpjoaa
open Go.RowKit Go.Shelf
/-- A core's cache with the translations of p and of q. -/
def cD (s p q : Nat) : Cache := if p = q then fillC Cache.empty (tD s p) else fillC (fillC Cache.empty (tD s p)) (tD s q)
def cE (s p q : Nat) : Cache := dropAt (cD s p q) (isPage 1 p) (vis (cD s p q) 8)
def cF (s p q : Nat) : Cache := dropAt (cE s p q) (isPage 1 p) (vis (cE s p q) 8)
theorem d_no (s p : Nat) : findOk Cache.empty s p = false := by rfl
theorem d1 : ∀ s, s < 3 → ∀ p, p < 8 → ∀ q, q < 8 → 1 ≤ s → (p == q) = false → findOk (fillC Cache.empty (tD s p)) s q = false := by decide +kernel
theorem d2 : ∀ s, s < 3 → ∀ p, p < 8 → ∀ q, q < 8 → 1 ≤ s → dropN (cD s p q) (isPage 1 p) (vis (cD s p q) 8) = if s = 1 then 1 else 0 := by decide +kernel
theorem d3 : ∀ s, s < 3 → ∀ p, p < 8 → ∀ q, q < 8 → 1 ≤ s → dropN (cE s p q) (isPage 1 p) (vis (cE s p q) 8) = 0 := by decide +kernel
def d4B (s p q : Nat) : Bool := ((p == q) || ((vis (cF s p q) 8).length == if s = 1 then 1 else 2)) && (List.range (vis (cF s p q) 8).length).all fun j =>
  (ts (cF s p q) j).sp == (s : Int) && (s != 1 || (ts (cF s p q) j).pg != (p : Int)) && (ts (cF s p q) j).fr == 3 && (ts (cF s p q) j).rd && !(ts (cF s p q) j).wr
theorem d4b : ∀ s, s < 3 → ∀ p, p < 8 → ∀ q, q < 8 → 1 ≤ s → d4B s p q = true := by decide +kernel
theorem d4 {s p q : Nat} (hs : s < 3) (hp : p < 8) (hq : q < 8) (h1 : 1 ≤ s) : (p ≠ q → (vis (cF s p q) 8).length = if s = 1 then 1 else 2) ∧
    ∀ j, j < (vis (cF s p q) 8).length → (ts (cF s p q) j).sp = (s : Int) ∧ (s = 1 → (ts (cF s p q) j).pg ≠ (p : Int)) ∧ (ts (cF s p q) j).fr = 3 ∧ (ts (cF s p q) j).rd = true ∧ (ts (cF s p q) j).wr = false := by
  have h := d4b s hs p hp q hq h1
  unfold d4B at h
  rw [Bool.and_eq_true, List.all_eq_true] at h
  refine ⟨fun hne => ?_, fun j hj => ?_⟩
  · have h0 := h.1
    rw [beq_eq_false_iff_ne.2 hne, Bool.false_or] at h0
    exact beq_iff_eq.1 h0
  · have h2 := h.2 j (List.mem_range.2 hj)
    simp only [Bool.and_eq_true, Bool.or_eq_true, beq_iff_eq, bne_iff_ne, Bool.not_eq_true'] at h2
    obtain ⟨⟨⟨⟨a, b⟩, c⟩, d⟩, e⟩ := h2
    exact ⟨a, fun h => b.resolve_left (fun h3 => h3 h), c, d, e⟩
/-- The number that a bit of a number gives. -/
def zN (wh : Int) (j : Nat) : Nat := (lowV (wh / 2 ^ j) 2).toNat
theorem zN_lt (wh : Int) (j : Nat) : zN wh j < 2 ∧ lowV (wh / 2 ^ j) 2 = (zN wh j : Int) := by
  have := low_bd (wh / 2 ^ j) (n := 2) (by omega)
  unfold zN
  omega
def cntZ (wh : Int) : Nat → Nat
  | 0 => 0
  | j + 1 => cntZ wh j + if zN wh j = 0 then 1 else 0
theorem cntZ_le (wh : Int) : ∀ j, cntZ wh j ≤ j
  | 0 => Nat.le_refl _
  | j + 1 => by
    have := cntZ_le wh j
    unfold cntZ
    split <;> omega
def KD (wh : Int) (p q j : Nat) : Nat → Core := fun k => if k < j then ⟨0, ((1 + zN wh k : Nat) : Int), cD (1 + zN wh k) p q⟩ else core0
theorem cD_good (s p q : Nat) : Good (cD s p q) := by
  unfold cD
  split
  · exact Good.empty.fill _
  · exact (Good.empty.fill _).fill _
theorem KD_good (wh : Int) (p q j k : Nat) : Good (KD wh p q j k).c := by
  unfold KD
  split
  · exact cD_good _ _ _
  · exact Good.empty
theorem upd_good {K : Nat → Core} (h : ∀ k, Good (K k).c) (i : Nat) {a b : Int} {c : Cache} (hc : Good c) : ∀ k, Good (upd K i ⟨a, b, c⟩ k).c := fun k => by
  unfold upd
  split
  · exact hc
  · exact h k
theorem upd_upd {α : Type} (K : Nat → α) (i : Nat) (x y : α) : upd (upd K i x) i y = upd K i y := by
  funext j; unfold upd; split <;> rfl
theorem trV_at {n N : Nat} {m : Nat → Int} {K : Nat → Core} {j : Nat} {p : Int} (x : Core) (hj : j < n) (h0 : 0 ≤ p) (h1 : p < 512) :
    trV n (upd K j x) N m j p = trIn N m p x ∧ trK n (upd K j x) N m j p = upd K j ⟨x.rt, x.sp, trInC N m p x⟩ := by
  have hm : trMay n j p := ⟨by omega, by omega, h0, h1⟩
  unfold trV trK
  rw [if_pos hm, if_pos hm, Int.toNat_natCast, upd_same, upd_upd]
  exact ⟨rfl, rfl⟩
theorem KD_next (wh : Int) (p q j : Nat) : upd (KD wh p q j) j ⟨0, ((1 + zN wh j : Nat) : Int), cD (1 + zN wh j) p q⟩ = KD wh p q (j + 1) := by
  funext k
  unfold upd KD
  by_cases h : k = j
  · subst h; rw [if_pos rfl, if_pos (by omega)]
  · rw [if_neg h]
    by_cases h2 : k < j
    · rw [if_pos h2, if_pos (by omega)]
    · rw [if_neg h2, if_neg (by omega)]
theorem KD_self (wh : Int) (p q j : Nat) : KD wh p q j j = core0 := if_neg (by omega)
/-- The first page is fetched; the second one. -/
theorem pre1 {wh : Int} {p q j : Nat} (hj : j < 3) (hp : p < 8) : trV 3 (upd (KD wh p q j) j ⟨0, ((1 + zN wh j : Nat) : Int), (KD wh p q j j).c⟩) 4 (memD 8) j p = (tD (1 + zN wh j) p, false, 0) ∧
    trK 3 (upd (KD wh p q j) j ⟨0, ((1 + zN wh j : Nat) : Int), (KD wh p q j j).c⟩) 4 (memD 8) j p = upd (KD wh p q j) j ⟨0, ((1 + zN wh j : Nat) : Int), fillC Cache.empty (tD (1 + zN wh j) p)⟩ := by
  obtain ⟨a, b⟩ := trV_at (n := 3) (N := 4) (m := memD 8) (K := KD wh p q j) (j := j) (p := p) ⟨0, ((1 + zN wh j : Nat) : Int), (KD wh p q j j).c⟩ hj (by omega) (by omega)
  rw [a, b, KD_self]
  obtain ⟨c, d⟩ := memD_yes (p := p) (s := 1 + zN wh j) hp (c := Cache.empty) (d_no _ _)
  rw [show (core0.c) = Cache.empty from rfl, c, d]
  exact ⟨rfl, rfl⟩
theorem pre2 {wh : Int} {p q j : Nat} (hj : j < 3) (hp : p < 8) (hq : q < 8) (hne : p ≠ q) : trV 3 (upd (KD wh p q j) j ⟨0, ((1 + zN wh j : Nat) : Int), fillC Cache.empty (tD (1 + zN wh j) p)⟩) 4 (memD 8) j q = (tD (1 + zN wh j) q, false, 0) ∧
    trK 3 (upd (KD wh p q j) j ⟨0, ((1 + zN wh j : Nat) : Int), fillC Cache.empty (tD (1 + zN wh j) p)⟩) 4 (memD 8) j q = KD wh p q (j + 1) := by
  obtain ⟨a, b⟩ := trV_at (n := 3) (N := 4) (m := memD 8) (K := KD wh p q j) (j := j) (p := q) ⟨0, ((1 + zN wh j : Nat) : Int), fillC Cache.empty (tD (1 + zN wh j) p)⟩ hj (by omega) (by omega)
  rw [a, b]
  have hz := (zN_lt wh j).1
  obtain ⟨c, d⟩ := memD_yes (p := q) (s := 1 + zN wh j) hq (c := fillC Cache.empty (tD (1 + zN wh j) p)) (d1 _ (by omega) p hp q hq (by omega) (by simpa using hne))
  rw [c, d]
  refine ⟨rfl, ?_⟩
  rw [← KD_next]
  unfold cD
  rw [if_neg hne]
theorem pre_eq (wh : Int) (p j : Nat) : upd (KD wh p p j) j ⟨0, ((1 + zN wh j : Nat) : Int), fillC Cache.empty (tD (1 + zN wh j) p)⟩ = KD wh p p (j + 1) := by
  rw [← KD_next]
  unfold cD
  rw [if_pos rfl]
theorem dropK_lt (K : Nat → Core) (P : Tr → Bool) {k i : Nat} (h : i < k) : dropK K P k i = ⟨(K i).rt, (K i).sp, dropAt (K i).c P (vis (K i).c 8)⟩ := if_pos h
theorem drop1 {wh : Int} {p q : Nat} (hp : p < 8) (hq : q < 8) : dropC (KD wh p q 3) (isPage 1 p) 3 = cntZ wh 3 ∧ dropC (dropK (KD wh p q 3) (isPage 1 p) 3) (isPage 1 p) 3 = 0 ∧
    ∀ k, k < 3 → dropK (dropK (KD wh p q 3) (isPage 1 p) 3) (isPage 1 p) 3 k = ⟨0, ((1 + zN wh k : Nat) : Int), cF (1 + zN wh k) p q⟩ := by
  have hk : ∀ k, k < 3 → KD wh p q 3 k = ⟨0, ((1 + zN wh k : Nat) : Int), cD (1 + zN wh k) p q⟩ := fun k h => if_pos h
  have hk1 : ∀ k, k < 3 → dropK (KD wh p q 3) (isPage 1 p) 3 k = ⟨0, ((1 + zN wh k : Nat) : Int), cE (1 + zN wh k) p q⟩ := fun k h => by unfold dropK; rw [if_pos h, hk k h]; rfl
  have hz : ∀ k, 1 + zN wh k < 3 := fun k => by have := (zN_lt wh k).1; omega
  have e2 : ∀ k, k < 3 → dropN (KD wh p q 3 k).c (isPage 1 p) (vis (KD wh p q 3 k).c 8) = if zN wh k = 0 then 1 else 0 := fun k h => by
    rw [hk k h]
    have := d2 _ (hz k) p hp q hq (by omega)
    rw [show (if zN wh k = 0 then 1 else 0) = if 1 + zN wh k = 1 then 1 else 0 by split <;> split <;> omega]
    exact this
  have e3 : ∀ k, k < 3 → dropN (dropK (KD wh p q 3) (isPage 1 p) 3 k).c (isPage 1 p) (vis (dropK (KD wh p q 3) (isPage 1 p) 3 k).c 8) = 0 := fun k h => by
    rw [hk1 k h]
    exact d3 _ (hz k) p hp q hq (by omega)
  refine ⟨?_, ?_, fun k h => ?_⟩
  · simp only [dropC, cntZ, e2 0 (by decide), e2 1 (by decide), e2 2 (by decide)]
  · simp only [dropC, e3 0 (by decide), e3 1 (by decide), e3 2 (by decide)]
  · rw [dropK_lt _ _ h, hk1 k h]
    rfl
set_option maxRecDepth 100000 in
set_option maxHeartbeats 4000000 in
theorem law_CoresDown (wh pg ot : Int) (hw : (Lit.int .i64 wh).wf = true) (_ : (Lit.int .i64 pg).wf = true) (_ : (Lit.int .i64 ot).wf = true) (w : World) : Calls Try.prog 5 #[.int .i64 wh, .int .i64 pg, .int .i64 ot] w fun e w' => e = .returned (.bool true) ∧ Below w.heap.size w w' := by
  have qp := low_bd pg (n := 8) (by omega)
  have qq := low_bd ot (n := 8) (by omega)
  have lp := hide (fun W => low_any pg 8 W (by omega) (by omega))
  have lq := hide (fun W => low_any ot 8 W (by omega) (by omega))
  obtain ⟨p, hp⟩ : ∃ p : Nat, lowV pg 8 = p := ⟨(lowV pg 8).toNat, by omega⟩
  obtain ⟨q, hq⟩ : ∃ q : Nat, lowV ot 8 = q := ⟨(lowV ot 8).toNat, by omega⟩
  rw [hp] at qp lp; rw [hq] at qq lq
  clear hp hq
  have p1 : p < 8 := by omega
  have q1 : q < 8 := by omega
  clear qp qq
  go_enter Try.func5, Try.ntmps5
  go_wp2_with fail
  refine (new_in 4 _ (by decide) (by decide)).mono ?_
  rintro e w1 ⟨rfl, hM, hb⟩
  generalize hgf : w.heap.size = gf at *
  have HG := hide hgf
  have HM := hide hM
  have HB := hide hb
  have hz1 := hb.size
  rw [hgf] at hz1
  clear hM hb hgf
  go_wp2_with fail
  refine (cnew_in 3 _ (by decide) (by decide)).mono ?_
  rintro e w2 ⟨gb, cap, tl, rfl, hC, hS, hB⟩
  replace HB := hide (HB.out.trans (hB.mono hz1))
  have hlm := HM.out.hd.lt
  have hlf := HM.out.ltf
  replace HM := hide (HM.out.below hB hlm hlf)
  generalize w1.heap.size = H at *
  have HC := hide hC
  have HS := hide (fun k hk => Nat.le_trans hz1 (hS k hk))
  clear hC hS hB
  go_wp2_with fail
  refine (pstore_any (gf + 1) gf 4 4 _ 0 257 _ HM.out (by decide) (by decide)).mono ?_
  rintro e w4 ⟨rfl, hM, hm⟩
  replace HC := hide (HC.out.store HM.out hm)
  replace HB := hide (below_mod HB.out (Nat.le_of_eq HG.out.symm) hm (fun k hk => by have hk' : k = gf := hk; omega))
  replace HM := hide hM
  clear hM hm
  go_wp2_with fail
  refine (pstore_any (gf + 1) gf 4 4 _ 64 513 _ HM.out (by decide) (by decide)).mono ?_
  rintro e w5 ⟨rfl, hM, hm⟩
  replace HC := hide (HC.out.store HM.out hm)
  replace HB := hide (below_mod HB.out (Nat.le_of_eq HG.out.symm) hm (fun k hk => by have hk' : k = gf := hk; omega))
  rw [memD_start] at hM
  replace HM := hide hM
  clear hM hm
  go_wp2_with fail
  go_loopw [11] (fun i wr => ∃ k : Nat, k ≤ 8 ∧ i = .int .u64 k ∧ CoresAt wr H gb cap 3 tl (fun _ => core0) ∧ MemAt wr (gf + 1) gf 4 4 (memD k) ∧ Below gf w wr) (fun i _ => 8 - (intOf i).toNat)
  case atStart => exact ⟨0, by omega, rfl, HC.out, HM.out, HB.out⟩
  case round =>
    obtain ⟨k, hk, rfl, hC, hM, hB⟩ := hrel
    have HC2 := hide hC
    have HM2 := hide hM
    have HB2 := hide hB
    clear hC hM hB HC HM HB
    by_cases hlt : k < 8
    · go_wp2_with fail
      refine (pstore_any (gf + 1) gf 4 4 _ (128 + 8 * (k : Int)) 775 _ HM2.out (by omega) (by decide)).mono ?_
      rintro e w6 ⟨rfl, hM, hm⟩
      rw [memD_next hlt] at hM
      have HC3 := hide (HC2.out.store HM2.out hm)
      have HB3 := hide (below_mod HB2.out (Nat.le_of_eq HG.out.symm) hm (fun k hk => by have hk' : k = gf := hk; omega))
      have HM3 := hide hM
      clear hM hm HC2 HM2 HB2
      go_wp2_with fail
      go_roundw
      case rel => exact ⟨k + 1, by omega, by simp, HC3.out, HM3.out, HB3.out⟩
      case measure => simp [intOf]; omega
    · obtain rfl : k = 8 := by omega
      clear hk hlt
      go_wp2_with fail
      refine (lp.out _).mono ?_
      rintro e w' ⟨rfl, rfl⟩
      go_wp2_with fail
      refine (lq.out _).mono ?_
      rintro e w' ⟨rfl, rfl⟩
      go_wp2_with fail
      go_loopw [14, 15] (fun n i wr => ∃ j : Nat, j ≤ 3 ∧ n = .int .i64 (cntZ wh j : Nat) ∧ i = .int .i64 j ∧ CoresAt wr H gb cap 3 tl (KD wh p q j) ∧ MemAt wr (gf + 1) gf 4 4 (memD 8) ∧ Below gf w wr) (fun _ i _ => 3 - (intOf i).toNat)
      case atStart => exact ⟨0, by omega, rfl, rfl, by rw [show KD wh p q 0 = fun _ => core0 from funext fun k => if_neg (by omega)]; exact HC2.out, HM2.out, HB2.out⟩
      case round =>
        obtain ⟨j, hj, rfl, rfl, hC, hM, hB⟩ := hrel
        have HC3 := hide hC
        have HM3 := hide hM
        have HB3 := hide hB
        clear hC hM hB HC2 HM2 HB2
        have hcl := cntZ_le wh j
        by_cases hlt : j < 3
        · have j0 : (0 : Int) ≤ (j : Int) := by omega
          obtain ⟨z2, hlz⟩ := zN_lt wh j
          have LZ := hide (fun W => low_any (wh / 2 ^ j) 2 W (by omega) (by omega))
          rw [hlz] at LZ
          have HP1 := hide (pre1 (wh := wh) (p := p) (q := q) hlt p1)
          have HP2 := hide (fun hne => pre2 (wh := wh) (p := p) (q := q) hlt p1 q1 hne)
          have HPE := hide (pre_eq wh p j)
          have HCZ := hide (show cntZ wh (j + 1) = cntZ wh j + if zN wh j = 0 then 1 else 0 from rfl)
          generalize cntZ wh j = n0 at *
          generalize zN wh j = z at *
          clear hlz
          go_wp2_with fail
          refine (LZ.out _).mono ?_
          rintro e w' ⟨rfl, rfl⟩
          go_wp2_with fail
          refine (cset_yes H gb cap 3 tl _ j 0 (1 + (z : Int)) _ HC3.out hlt (.inr ⟨by omega, by omega, by omega⟩)).mono ?_
          rintro e w3 ⟨rfl, hC, hm⟩
          rw [show (1 + (z : Int)) = ((1 + z : Nat) : Int) by omega] at hC
          replace HM3 := hide (HM3.out.crS HC3.out (Mod.cr hm))
          replace HB3 := hide (below_mod HB3.out (Nat.le_of_eq HG.out.symm) hm (fun k hk => HS.out k (.inr (.inl hk))))
          replace HC3 := hide hC
          clear hC hm
          go_wp2_with fail
          refine (cpre_any H gb cap 3 tl _ (gf + 1) gf 4 4 (memD 8) j p _ HC3.out HM3.out (fun i _ => (upd_good (KD_good wh p q j) j (KD_good wh p q j j) i).ok)).mono ?_
          rintro e w4 ⟨rfl, hC, hm⟩
          rw [HP1.out.2] at hC
          rw [HP1.out.1]
          replace HM3 := hide (HM3.out.crS HC3.out hm)
          replace HB3 := hide (below_mod HB3.out (Nat.le_of_eq HG.out.symm) hm HS.out)
          replace HC3 := hide hC
          clear hC hm HP1
          by_cases hne : p = q
          · subst hne
            rw [HPE.out] at HC3
            have hz : z = 0 ∨ z = 1 := by omega
            rcases hz with rfl | rfl
            all_goals
              go_wp2_with fail
              refine (LZ.out _).mono ?_
              rintro e w' ⟨rfl, rfl⟩
              go_wp2_with fail
              go_roundw
              case rel => exact ⟨j + 1, by omega, by rw [HCZ.out]; simp, by simp, HC3.out, HM3.out, HB3.out⟩
              case measure => simp [intOf]; omega
          · have hne' : ((p : Int) != (q : Int)) = true := bne_iff_ne.2 (by omega)
            have HP3 := hide (HP2.out hne)
            clear HP2 HPE
            go_wp2_with fail
            refine (cpre_any H gb cap 3 tl _ (gf + 1) gf 4 4 (memD 8) j q _ HC3.out HM3.out (fun i _ => (upd_good (KD_good wh p q j) j (Good.empty.fill _) i).ok)).mono ?_
            rintro e w5 ⟨rfl, hC, hm⟩
            rw [HP3.out.2] at hC
            rw [HP3.out.1]
            replace HM3 := hide (HM3.out.crS HC3.out hm)
            replace HB3 := hide (below_mod HB3.out (Nat.le_of_eq HG.out.symm) hm HS.out)
            replace HC3 := hide hC
            clear hC hm HP3
            have hz : z = 0 ∨ z = 1 := by omega
            rcases hz with rfl | rfl
            all_goals
              go_wp2_with fail
              refine (LZ.out _).mono ?_
              rintro e w' ⟨rfl, rfl⟩
              go_wp2_with fail
              go_roundw
              case rel => exact ⟨j + 1, by omega, by rw [HCZ.out]; simp, by simp, HC3.out, HM3.out, HB3.out⟩
              case measure => simp [intOf]; omega
        · obtain rfl : j = 3 := by omega
          obtain ⟨hd1, hd2, hd3⟩ := drop1 (wh := wh) p1 q1
          have HD1 := hide hd1
          have HD2 := hide hd2
          have HD3 := hide hd3
          clear hd1 hd2 hd3 hlt hj
          generalize cntZ wh 3 = n0 at *
          go_wp2_with fail
          refine (cdropPage_any H gb cap 3 tl (KD wh p q 3) 1 p _ HC3.out).mono ?_
          rintro e w3 ⟨rfl, hC, hm⟩
          rw [HD1.out]
          replace HB3 := hide (below_mod HB3.out (Nat.le_of_eq HG.out.symm) hm HS.out)
          replace HC3 := hide hC
          clear hC hm HM3
          go_wp2_with fail
          refine (cdropPage_any H gb cap 3 tl _ 1 p _ HC3.out).mono ?_
          rintro e w4 ⟨rfl, hC, hm⟩
          rw [HD2.out]
          replace HB3 := hide (below_mod HB3.out (Nat.le_of_eq HG.out.symm) hm HS.out)
          replace HC3 := hide hC
          clear hC hm
          generalize dropK (dropK (KD wh p q 3) (isPage 1 p) 3) (isPage 1 p) 3 = K2 at *
          go_wp2_with fail
          go_loopw [16, 17, 18, 19] (fun i _ _ _ wr => ∃ j : Nat, j ≤ 3 ∧ i = .int .i64 j ∧ CoresAt wr H gb cap 3 tl K2 ∧ Below gf w wr) (fun i _ _ _ _ => 3 - (intOf i).toNat)
          case atStart => exact ⟨0, by omega, rfl, HC3.out, HB3.out⟩
          case round =>
            obtain ⟨j, hj, rfl, hC, hB⟩ := hrel
            have HC4 := hide hC
            have HB4 := hide hB
            clear hC hB HC3 HB3
            by_cases hlt : j < 3
            · have j0 : (0 : Int) ≤ (j : Int) := by omega
              obtain ⟨z2, hlz⟩ := zN_lt wh j
              have LZ := hide (fun W => low_any (wh / 2 ^ j) 2 W (by omega) (by omega))
              rw [hlz] at LZ
              have hK := HD3.out j hlt
              obtain ⟨hlen, hrow⟩ := d4 (s := 1 + zN wh j) (p := p) (q := q) (by omega) p1 q1 (by omega)
              have HALL := hide (fun w => call_rows H gb cap 3 tl K2 j w)
              rw [hK] at HALL
              dsimp only at HALL
              generalize zN wh j = z at *
              have hv8 := vis_len (cF (1 + z) p q) 8
              have HROW := hide hrow
              have HLEN := hide hlen
              generalize (vis (cF (1 + z) p q) 8).length = L at *
              generalize ts (cF (1 + z) p q) = tt at *
              clear hlz hK hlen hrow
              go_wp2_with fail
              refine (LZ.out _).mono ?_
              rintro e w' ⟨rfl, rfl⟩
              go_wp2_with fail
              refine (HALL.out _ HC4.out hlt).mono ?_
              rintro e w5 ⟨A, ca, rfl, hR, hb⟩
              replace HC4 := hide (HC4.out.on hb)
              replace HB4 := hide (HB4.out.trans (hb.mono (Nat.le_trans (Nat.le_of_eq HG.out.symm) HB4.out.size)))
              have HR := hide hR
              clear hR hb HALL
              generalize wr.heap.size = BB at *
              have hz : z = 0 ∨ z = 1 := by omega
              rcases hz with rfl | rfl
              · go_wp2_with fail
                go_loopw [19] (fun i wr => ∃ k : Nat, k ≤ L ∧ i = .int .i64 k ∧ RowsAt wr BB A L tt ∧ CoresAt wr H gb cap 3 tl K2 ∧ Below gf w wr) (fun i _ => L - (intOf i).toNat)
                case atStart => exact ⟨0, by omega, rfl, HR.out, HC4.out, HB4.out⟩
                case round =>
                  obtain ⟨k, hk, rfl, hR, hC, hB⟩ := hrel
                  have HR5 := hide hR
                  have HC5 := hide hC
                  have HB5 := hide hB
                  clear hC hB HC4 HB4 HR
                  by_cases hkl : k < L
                  · obtain ⟨r1, r2, r3, r4, r5⟩ := HROW.out k hkl
                    rcases hR with hR | ⟨gr, rfl, hg1, hg2, hc⟩
                    · omega
                    obtain ⟨c0, c1, c2, c3, c4⟩ := hc k hkl
                    rw [r1] at c0; rw [r3] at c2; rw [r4] at c3; rw [r5] at c4
                    generalize (tt k).pg = y at c1 r2
                    have i0 : (0 : Int) ≤ (k : Int) := by omega
                    have i1 : (k : Int) < (L : Int) := by omega
                    have heq := fun W => tr_eqA 1 y 3 true false 1 y 3 true false W
                    simp only [BEq.rfl, Bool.and_self] at heq
                    have hpg : (y == (p : Int)) = false := beq_eq_false_iff_ne.2 (r2 (by simp))
                    clear r1 r2 r3 r4 r5 hc
                    go_upto_region 29 with fail
                    go_quiet ((go_at_call 18; exact Calls.quiet_of_same ((LZ.out _).mono fun _ _ h => ⟨h.1, h.2.symm⟩)))
                    rename_i nq
                    replace HR5 := hide (HR5.out.below (below_drewN (Below.refl _ _) nq))
                    replace HC5 := hide (HC5.out.on (below_drewN (Below.refl _ _) nq))
                    replace HB5 := hide (below_drewN HB5.out nq)
                    clear c0 c1 c2 c3 c4
                    go_wp2
                    go_roundw
                    case rel => exact ⟨k + 1, by omega, by simp, HR5.out, HC5.out, HB5.out⟩
                    case measure => simp [intOf]; omega
                  · by_cases hpq : p = q
                    · subst hpq
                      go_wp2_with fail
                      go_roundw
                      case rel => exact ⟨j + 1, by omega, by simp, HC5.out, HB5.out⟩
                      case measure => simp [intOf]; omega
                    · have hL := HLEN.out hpq
                      simp at hL
                      subst hL
                      have hne' : ((p : Int) != (q : Int)) = true := bne_iff_ne.2 (by omega)
                      go_wp2_with fail
                      go_roundw
                      case rel => exact ⟨j + 1, by omega, by simp, HC5.out, HB5.out⟩
                      case measure => simp [intOf]; omega
              · go_wp2_with fail
                go_loopw [19] (fun i wr => ∃ k : Nat, k ≤ L ∧ i = .int .i64 k ∧ RowsAt wr BB A L tt ∧ CoresAt wr H gb cap 3 tl K2 ∧ Below gf w wr) (fun i _ => L - (intOf i).toNat)
                case atStart => exact ⟨0, by omega, rfl, HR.out, HC4.out, HB4.out⟩
                case round =>
                  obtain ⟨k, hk, rfl, hR, hC, hB⟩ := hrel
                  have HR5 := hide hR
                  have HC5 := hide hC
                  have HB5 := hide hB
                  clear hC hB HC4 HB4 HR
                  by_cases hkl : k < L
                  · obtain ⟨r1, r2, r3, r4, r5⟩ := HROW.out k hkl
                    rcases hR with hR | ⟨gr, rfl, hg1, hg2, hc⟩
                    · omega
                    obtain ⟨c0, c1, c2, c3, c4⟩ := hc k hkl
                    rw [r1] at c0; rw [r3] at c2; rw [r4] at c3; rw [r5] at c4
                    generalize (tt k).pg = y at c1 r2
                    have i0 : (0 : Int) ≤ (k : Int) := by omega
                    have i1 : (k : Int) < (L : Int) := by omega
                    have heq := fun W => tr_eqA 2 y 3 true false 2 y 3 true false W
                    simp only [BEq.rfl, Bool.and_self] at heq
                    clear r1 r2 r3 r4 r5 hc
                    go_upto_region 29 with fail
                    go_quiet ((go_at_call 18; exact Calls.quiet_of_same ((LZ.out _).mono fun _ _ h => ⟨h.1, h.2.symm⟩)))
                    rename_i nq
                    replace HR5 := hide (HR5.out.below (below_drewN (Below.refl _ _) nq))
                    replace HC5 := hide (HC5.out.on (below_drewN (Below.refl _ _) nq))
                    replace HB5 := hide (below_drewN HB5.out nq)
                    clear c0 c1 c2 c3 c4
                    go_wp2
                    go_roundw
                    case rel => exact ⟨k + 1, by omega, by simp, HR5.out, HC5.out, HB5.out⟩
                    case measure => simp [intOf]; omega
                  · by_cases hpq : p = q
                    · subst hpq
                      go_wp2_with fail
                      go_roundw
                      case rel => exact ⟨j + 1, by omega, by simp, HC5.out, HB5.out⟩
                      case measure => simp [intOf]; omega
                    · have hL := HLEN.out hpq
                      simp at hL
                      subst hL
                      have hne' : ((p : Int) != (q : Int)) = true := bne_iff_ne.2 (by omega)
                      go_wp2_with fail
                      go_roundw
                      case rel => exact ⟨j + 1, by omega, by simp, HC5.out, HB5.out⟩
                      case measure => simp [intOf]; omega
            · go_wp2_with fail
              refine (awake7 _).mono ?_
              rintro e w6 ⟨rfl, hb⟩
              replace HB4 := hide (HB4.out.trans (hb.mono (Nat.le_trans (Nat.le_of_eq HG.out.symm) HB4.out.size)))
              clear hb
              go_wp2_with fail
              go_ret
              exact ⟨rfl, HG.out ▸ HB4.out⟩
end Go.Proofs.Ytjnnimdgmcpjoaa
