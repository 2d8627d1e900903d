/- The walk of the statement of chapter 7: CoresOwn. -/
import Derived.Test.YtjnnimdgmcpjoaaLaw7c
import Derived.Test.YtjnnimdgmcpjoaaLaw7d
import Derived.Test.YtjnnimdgmcpjoaaInts
import Derived.Laws.Tables
import Derived.Laws.CopyRow
namespace Go.Proofs.Ytjnnimdgmcpjoaa
open Go.RowKit Go.Shelf
/-- Three rows of eight marks. -/
def HasAt (w : World) (B : Nat) (h : Nat → Nat → Bool) : Prop := ∃ cs, Blk w B 34 cs ∧ cs.size = 24 ∧ ∀ k, k < 3 → ∀ q, q < 8 → cs[k * 8 + q]? = some (.bool (h k q))
section
variable {w w' : World} {B : Nat} {h : Nat → Nat → Bool}
theorem HasAt.lt (H : HasAt w B h) : B < w.heap.size := by obtain ⟨cs, hb, _⟩ := H; exact hb.lt
theorem HasAt.cell (H : HasAt w B h) {k q : Nat} (hk : k < 3) (hq : q < 8) : w.cell? ⟨B, k * 8 + q, none⟩ = some (.bool (h k q)) := by
  obtain ⟨cs, hb, _, r⟩ := H
  exact (hb.cell _).trans (r k hk q hq)
theorem HasAt.frozen (H : HasAt w B h) (j : Nat) : w.frozen? ⟨B, j, none⟩ = false := by obtain ⟨cs, hb, _⟩ := H; exact hb.frozen j
theorem HasAt.mod {S : Nat → Prop} (H : HasAt w B h) (hm : Mod S w w') (hs : ¬ S B) : HasAt w' B h := by obtain ⟨cs, hb, r⟩ := H; exact ⟨cs, hb.mod hm hs, r⟩
theorem HasAt.on (H : HasAt w B h) (hb : Below w.heap.size w w') : HasAt w' B h := by obtain ⟨cs, hk, r⟩ := H; exact ⟨cs, blk_below hk hb, r⟩
def hset (h : Nat → Nat → Bool) (k q : Nat) (b : Bool) : Nat → Nat → Bool := fun k' q' => if k' = k ∧ q' = q then b else h k' q'
theorem HasAt.set_ (H : HasAt w B h) {k q : Nat} (hk : k < 3) (hq : q < 8) (b : Bool) : HasAt (w.setCell ⟨B, k * 8 + q, none⟩ (.bool b)) B (hset h k q b) := by
  obtain ⟨cs, hb, hz, r⟩ := H
  refine ⟨_, hb.set_ _ _, by rw [Array.size_setIfInBounds]; exact hz, fun k' hk' q' hq' => ?_⟩
  unfold hset
  by_cases e : k' = k ∧ q' = q
  · obtain ⟨rfl, rfl⟩ := e
    rw [if_pos ⟨rfl, rfl⟩, Array.getElem?_setIfInBounds_self, if_pos (by omega)]
  · rw [if_neg e, Array.getElem?_setIfInBounds_ne (by omega)]
    exact r k' hk' q' hq'
end
theorem HasAt.drew {w : World} {B : Nat} {h : Nat → Nat → Bool} (H : HasAt w B h) : HasAt w.drew B h := H
theorem HasAt.congr {w : World} {B : Nat} {h h' : Nat → Nat → Bool} (H : HasAt w B h) (he : ∀ k, k < 3 → ∀ q, q < 8 → h k q = h' k q) : HasAt w B h' := by
  obtain ⟨cs, hb, hz, r⟩ := H
  exact ⟨cs, hb, hz, fun k hk q hq => by rw [r k hk q hq, he k hk q hq]⟩
/-- The marks of core k, when the pages of the first j rows are marked. -/
def hj (h1 : Nat → Nat → Bool) (k : Nat) (c : Cache) (j : Nat) : Nat → Nat → Bool := fun k' q => if k' = k then (if q = 0 ∨ q = 4 then false else h1 k q) || pgs c j q else h1 k' q
theorem hj_zero (h1 : Nat → Nat → Bool) (k : Nat) (c : Cache) (k' q : Nat) : hset (hset h1 k 0 false) k 4 false k' q = hj h1 k c 0 k' q := by
  unfold hset hj
  have : pgs c 0 q = false := rfl
  rw [this, Bool.or_false]
  by_cases e : k' = k
  · subst e
    rw [if_pos rfl]
    by_cases h4 : q = 4
    · subst h4; simp
    · by_cases h0 : q = 0
      · subst h0; simp
      · simp [h0, h4]
  · simp [e]
theorem hj_next {h1 : Nat → Nat → Bool} {k : Nat} {c2 : Cache} {j p' : Nat} (k' q : Nat) (hrow : ts c2 j = tD 1 p') : hset (hj h1 k c2 j) k p' true k' q = hj h1 k c2 (j + 1) k' q := by
  unfold hset hj
  rw [pgs_succ, hrow]
  by_cases e : k' = k
  · subst e
    rw [if_pos rfl]
    by_cases h4 : q = p'
    · subst h4; simp [tD]
    · have : ((tD 1 p').pg == (q : Int)) = false := beq_eq_false_iff_ne.2 (by show (p' : Int) ≠ (q : Int); omega)
      rw [if_neg (fun h => h4 h.2), if_pos rfl, this, Bool.or_false]
  · rw [if_neg (fun h => e h.1), if_neg e, if_neg e]
def OwnK (K : Nat → Core) : Prop := ∀ k, k < 3 → (K k).rt = 0 ∧ (K k).sp = 1 ∧ OwnC (K k).c
theorem trV_of {n N : Nat} {m : Nat → Int} {K : Nat → Core} {j : Nat} {p : Int} {x : Core} (hx : K j = x) (hj : j < n) (h0 : 0 ≤ p) (h1 : p < 512) :
    trV n K N m j p = trIn N m p x ∧ trK n K N m j p = upd K j ⟨x.rt, x.sp, trInC N m p x⟩ := by
  have hm : trMay n j p := ⟨by omega, by omega, h0, h1⟩
  unfold trV trK
  rw [if_pos hm, if_pos hm, Int.toNat_natCast, hx]
  exact ⟨rfl, rfl⟩
/-- What a fetch answers, and leaves. -/
theorem own_pre {K : Nat → Core} (hK : OwnK K) {k p : Nat} (hk : k < 3) (hp : p < 8) : ∃ c1, ((trV 3 K 4 (memD 8) k p).2.2 == 0 && !(trV 3 K 4 (memD 8) k p).2.1) = !findOk (K k).c 1 p ∧ trK 3 K 4 (memD 8) k p = upd K k ⟨0, 1, c1⟩ ∧ OwnC c1 ∧ ∀ q : Nat, q < 8 → findOk c1 1 q = (findOk (K k).c 1 q || q == p) := by
  obtain ⟨h1, h2, h3⟩ := hK k hk
  obtain ⟨c, hc⟩ : ∃ c, (K k).c = c := ⟨_, rfl⟩
  have hx : K k = ⟨0, 1, c⟩ := by
    rw [← hc, ← h1, ← h2]
  rw [hc] at h3 ⊢
  obtain ⟨a, b⟩ := trV_of (n := 3) (N := 4) (m := memD 8) (p := (p : Int)) hx hk (by omega) (by omega)
  rw [a, b]
  cases hf : findOk c 1 p with
  | true =>
    obtain ⟨e1, e2⟩ := tab_hit (N := 4) (m := memD 8) hf
    refine ⟨c, by rw [e1]; rfl, by rw [e2], h3, fun q hq => ?_⟩
    by_cases e : q = p
    · subst e; rw [hf]; rfl
    · rw [show (q == p) = false from by simpa using e, Bool.or_false]
  | false =>
    obtain ⟨e1, e2⟩ := memD_yes (p := p) (s := 1) hp (c := c) hf
    have e1' : trIn 4 (memD 8) p ⟨0, 1, c⟩ = (tD 1 p, false, 0) := e1
    have e2' : trInC 4 (memD 8) p ⟨0, 1, c⟩ = fillC c (tD 1 p) := e2
    exact ⟨fillC c (tD 1 p), by rw [e1']; rfl, by rw [e2'], (h3.fill hp hf).1, (h3.fill hp hf).2⟩
theorem OwnK.upd_ {K : Nat → Core} (hK : OwnK K) (k : Nat) {c : Cache} (hc : OwnC c) : OwnK (upd K k ⟨0, 1, c⟩) := fun j hj => by
  unfold upd
  split
  · exact ⟨rfl, rfl, hc⟩
  · exact hK j hj
def falses24 : Array Value := #[.bool false, .bool false, .bool false, .bool false, .bool false, .bool false, .bool false, .bool false, .bool false, .bool false, .bool false, .bool false, .bool false, .bool false, .bool false, .bool false, .bool false, .bool false, .bool false, .bool false, .bool false, .bool false, .bool false, .bool false]
theorem f24 (i : Nat) (h : i < 24) : falses24[i]? = some (.bool false) := by
  have : i = 0 ∨ i = 1 ∨ i = 2 ∨ i = 3 ∨ i = 4 ∨ i = 5 ∨ i = 6 ∨ i = 7 ∨ i = 8 ∨ i = 9 ∨ i = 10 ∨ i = 11 ∨ i = 12 ∨ i = 13 ∨ i = 14 ∨ i = 15 ∨ i = 16 ∨ i = 17 ∨ i = 18 ∨ i = 19 ∨ i = 20 ∨ i = 21 ∨ i = 22 ∨ i = 23 := by omega
  rcases this with rfl | rfl | rfl | rfl | rfl | rfl | rfl | rfl | rfl | rfl | rfl | rfl | rfl | rfl | rfl | rfl | rfl | rfl | rfl | rfl | rfl | rfl | rfl | rfl <;> rfl
theorem HasAt.new (w : World) : HasAt (w.alloc (.cells falses24 34)) w.heap.size (fun _ _ => false) := by
  refine ⟨falses24, Blk.new w _ _, rfl, fun k hk q hq => ?_⟩
  have hlt : k * 8 + q < 24 := by omega
  exact f24 _ hlt
def KS (j : Nat) : Nat → Core := fun k => if k < j then ⟨0, 1, Cache.empty⟩ else core0
theorem KS_next (j : Nat) : upd (KS j) j ⟨0, 1, (KS j j).c⟩ = KS (j + 1) := by
  have hc : (KS j j).c = Cache.empty := by unfold KS; rw [if_neg (by omega)]; rfl
  rw [hc]
  funext k
  unfold upd KS
  by_cases h : k = j
  · subst h; rw [if_pos rfl, if_pos (by omega)]
  · rw [if_neg h]
    by_cases h2 : k < j
    · rw [if_pos h2, if_pos (by omega)]
    · rw [if_neg h2, if_neg (by omega)]
set_option maxRecDepth 100000 in
set_option maxHeartbeats 4000000 in
theorem law_CoresOwn (w : World) (A : Option Addr) (n ca : Nat) (xs : Nat → Int) (A2 : Option Addr) (n2 ca2 : Nat) (xs2 : Nat → Int) (hA : I64At w A n xs) (hn : n ≤ 9223372036854775807) (hA2 : I64At w A2 n2 xs2) (hn2 : n2 ≤ 9223372036854775807) :
    Calls Try.prog 3 #[.slice A n ca, .slice A2 n2 ca2] w fun e w' => e = .returned (.bool true) ∧ Below w.heap.size w w' := by
  have HA := hide hA
  have HA2 := hide hA2
  clear hA hA2
  by_cases h40 : 40 < n ∨ 40 < n2
  · have h40' : (40 < (n : Int)) ∨ (¬ 40 < (n : Int) ∧ 40 < (n2 : Int)) := by omega
    clear h40
    rcases h40' with h | ⟨h, h2⟩
    all_goals
      go_enter Try.func3, Try.ntmps3
      go_wp2_with fail
      refine (awake7 _).mono ?_
      rintro e w1 ⟨rfl, hb⟩
      have HB := hide hb
      clear hb
      go_wp2_with fail
      go_ret
      exact ⟨rfl, HB.out⟩
  have m1 : (n : Int) ≤ 40 := by omega
  have m2 : (n2 : Int) ≤ 40 := by omega
  clear h40
  go_enter Try.func3, Try.ntmps3
  go_wp2_with fail
  rename_i q1 q2 q3 q4 q5
  clear q1 m1 m2
  refine (new_in 4 _ (by decide) (by decide)).mono ?_
  rintro e w1 ⟨rfl, hM, hb⟩
  generalize hgf : w.heap.size = gf at *
  have HG := hide hgf
  have HM := hide hM
  have HB := hide hb
  have hz1 := hb.size
  rw [hgf] at hz1
  clear hM hb hgf
  go_wp2_with fail
  refine (cnew_in 3 _ (by decide) (by decide)).mono ?_
  rintro e w2 ⟨gb, cap, tl, rfl, hC, hS, hB⟩
  replace HB := hide (HB.out.trans (hB.mono hz1))
  have hlm := HM.out.hd.lt
  have hlf := HM.out.ltf
  replace HM := hide (HM.out.below hB hlm hlf)
  generalize w1.heap.size = H at *
  have HC := hide hC
  have HS := hide (fun k hk => Nat.le_trans hz1 (hS k hk))
  clear hC hS hB
  go_wp2_with fail
  refine (pstore_any (gf + 1) gf 4 4 _ 0 257 _ HM.out (by decide) (by decide)).mono ?_
  rintro e w4 ⟨rfl, hM, hm⟩
  replace HC := hide (HC.out.store HM.out hm)
  replace HB := hide (below_mod HB.out (Nat.le_of_eq HG.out.symm) hm (fun k hk => by have hk' : k = gf := hk; omega))
  replace HM := hide hM
  clear hM hm
  go_wp2_with fail
  refine (pstore_any (gf + 1) gf 4 4 _ 64 513 _ HM.out (by decide) (by decide)).mono ?_
  rintro e w5 ⟨rfl, hM, hm⟩
  replace HC := hide (HC.out.store HM.out hm)
  replace HB := hide (below_mod HB.out (Nat.le_of_eq HG.out.symm) hm (fun k hk => by have hk' : k = gf := hk; omega))
  rw [memD_start] at hM
  replace HM := hide hM
  clear hM hm
  go_wp2_with fail
  go_loopw [9] (fun i wr => ∃ k : Nat, k ≤ 8 ∧ i = .int .u64 k ∧ CoresAt wr H gb cap 3 tl (KS 0) ∧ MemAt wr (gf + 1) gf 4 4 (memD k) ∧ Below gf w wr) (fun i _ => 8 - (intOf i).toNat)
  case atStart => exact ⟨0, by omega, rfl, by rw [show KS 0 = fun _ => core0 from funext fun k => if_neg (by omega)]; exact HC.out, HM.out, HB.out⟩
  case round =>
    obtain ⟨k, hk, rfl, hC, hM, hB⟩ := hrel
    have HC2 := hide hC
    have HM2 := hide hM
    have HB2 := hide hB
    clear hC hM hB HC HM HB
    by_cases hlt : k < 8
    · go_wp2_with fail
      refine (pstore_any (gf + 1) gf 4 4 _ (128 + 8 * (k : Int)) 775 _ HM2.out (by omega) (by decide)).mono ?_
      rintro e w6 ⟨rfl, hM, hm⟩
      rw [memD_next hlt] at hM
      have HC3 := hide (HC2.out.store HM2.out hm)
      have HB3 := hide (below_mod HB2.out (Nat.le_of_eq HG.out.symm) hm (fun k hk => by have hk' : k = gf := hk; omega))
      have HM3 := hide hM
      clear hM hm HC2 HM2 HB2
      go_wp2_with fail
      go_roundw
      case rel => exact ⟨k + 1, by omega, by simp, HC3.out, HM3.out, HB3.out⟩
      case measure => simp [intOf]; omega
    · obtain rfl : k = 8 := by omega
      clear hk hlt
      go_upto_region 13 with fail
      go_wp2_with (refine wpList_store_row rfl 34 (.tmp 10) (.tmp 62) rfl wr.heap.size falses24 rfl rfl 34 falses24 (heap_alloc_new wr _) (by kernel_rfl) rfl (by kernel_rfl) ?_)
      have hset : (wr.alloc (.cells #[.bool false, .bool false, .bool false, .bool false, .bool false, .bool false, .bool false, .bool false, .bool false, .bool false, .bool false, .bool false, .bool false, .bool false, .bool false, .bool false, .bool false, .bool false, .bool false, .bool false, .bool false, .bool false, .bool false, .bool false] 34)).setRow wr.heap.size falses24 = wr.alloc (.cells #[.bool false, .bool false, .bool false, .bool false, .bool false, .bool false, .bool false, .bool false, .bool false, .bool false, .bool false, .bool false, .bool false, .bool false, .bool false, .bool false, .bool false, .bool false, .bool false, .bool false, .bool false, .bool false, .bool false, .bool false] 34) := setRow_self _ _ _ _ _ (heap_alloc_new wr _)
      rw [hset]
      clear hset
      have HHas := HasAt.new wr
      have hb := (Below.refl _ wr).alloc (Nat.le_refl _) (.cells falses24 34)
      have hBS := fun k hk => HC2.out.lt (k := k) hk
      replace HC2 := hide (HC2.out.on hb)
      replace HM2 := hide (HM2.out.on hb)
      replace HB2 := hide (HB2.out.trans (hb.mono (Nat.le_trans (Nat.le_of_eq HG.out.symm) HB2.out.size)))
      have hBg : gf < wr.heap.size := by have := hBS H (.inl rfl); omega
      unfold falses24 at hb HHas HC2 HM2 HB2
      generalize wr.alloc (.cells #[.bool false, .bool false, .bool false, .bool false, .bool false, .bool false, .bool false, .bool false, .bool false, .bool false, .bool false, .bool false, .bool false, .bool false, .bool false, .bool false, .bool false, .bool false, .bool false, .bool false, .bool false, .bool false, .bool false, .bool false] 34) = wb at *
      generalize wr.heap.size = B at *
      have HHH := hide HHas
      have HBS := hide hBS
      clear hb hBS HHas
      go_loopw [11] (fun i wr => ∃ j : Nat, j ≤ 3 ∧ i = .int .i64 j ∧ CoresAt wr H gb cap 3 tl (KS j) ∧ MemAt wr (gf + 1) gf 4 4 (memD 8) ∧ HasAt wr B (fun _ _ => false) ∧ Below gf w wr) (fun i _ => 3 - (intOf i).toNat)
      case atStart => exact ⟨0, by omega, rfl, HC2.out, HM2.out, HHH.out, HB2.out⟩
      case round =>
        obtain ⟨j, hj, rfl, hC, hM, hh, hB⟩ := hrel
        have HC3 := hide hC
        have HM3 := hide hM
        have HH3 := hide hh
        have HB3 := hide hB
        clear hC hM hh hB HC2 HM2 HHH HB2
        by_cases hlt : j < 3
        · go_wp2_with fail
          refine (cset_yes H gb cap 3 tl _ j 0 1 _ HC3.out hlt (.inr ⟨by decide, by decide, by decide⟩)).mono ?_
          rintro e w3 ⟨rfl, hC, hm⟩
          rw [KS_next] at hC
          replace HM3 := hide (HM3.out.crS HC3.out (Mod.cr hm))
          replace HH3 := hide (HH3.out.mod hm (fun e => by have := HBS.out gb (.inr (.inl rfl)); omega))
          replace HB3 := hide (below_mod HB3.out (Nat.le_of_eq HG.out.symm) hm (fun k hk => HS.out k (.inr (.inl hk))))
          replace HC3 := hide hC
          clear hC hm
          go_wp2_with fail
          go_roundw
          case rel => exact ⟨j + 1, by omega, by simp, HC3.out, HM3.out, HH3.out, HB3.out⟩
          case measure => simp [intOf]; omega
        · have hj3 : j = 3 := by omega
          have hjf : decide ((j : Int) < 3) = false := by rw [hj3]; rfl
          rw [hj3] at HC3
          clear hj hj3
          go_wp2_with fail
          clear hlt hjf
          go_loopw [12, 13, 14, 15, 16, 17, 18, 19, 20, 21] (fun i _ _ _ _ _ _ _ _ _ wr => ∃ (i' : Nat) (K : Nat → Core) (h : Nat → Nat → Bool), i' ≤ n ∧ i = .int .i64 i' ∧ OwnK K ∧ (∀ k, k < 3 → ∀ q, q < 8 → h k q = findOk (K k).c 1 (q : Nat)) ∧ CoresAt wr H gb cap 3 tl K ∧ MemAt wr (gf + 1) gf 4 4 (memD 8) ∧ HasAt wr B h ∧ Below gf w wr) (fun i _ _ _ _ _ _ _ _ _ _ => n - (intOf i).toNat)
          case atStart =>
            refine ⟨0, KS 3, _, Nat.zero_le _, rfl, fun k hk => ?_, fun k hk q hq => ?_, HC3.out, HM3.out, HH3.out, HB3.out⟩
            · unfold KS; rw [if_pos hk]; exact ⟨rfl, rfl, OwnC.empty⟩
            · unfold KS; rw [if_pos hk]; rfl
          case round =>
            obtain ⟨i, K, h, hi, rfl, hK, hh, hC, hM, hH, hB⟩ := hrel
            have HK := hide hK
            have HHK := hide hh
            have HC4 := hide hC
            have HM4 := hide hM
            have HH4 := hide hH
            have HB4 := hide hB
            have hA := HA.out.below (HG.out ▸ hB)
            have hA2 := HA2.out.below (HG.out ▸ hB)
            have HA2' := hide hA2
            clear hK hh hC hM hH hB HC3 HM3 HH3 HB3 hA2
            by_cases hlt : i < n
            · obtain ⟨ba, oa, rfl, hba, hca⟩ := hA.resolve_left (by omega)
              have c0 := (hca i hlt).1
              have i0 : (0 : Int) ≤ (i : Int) := by omega
              have i1 : (i : Int) < (n : Int) := by omega
              have qp := low_bd (xs i) (n := 8) (by omega)
              have lp := hide (fun W => low_any (xs i) 8 W (by omega) (by omega))
              obtain ⟨p, hp⟩ : ∃ p : Nat, lowV (xs i) 8 = p := ⟨(lowV (xs i) 8).toNat, by omega⟩
              rw [hp] at qp lp
              have p1 : p < 8 := by omega
              clear hp qp hca hba
              go_wp2_with fail
              refine (lp.out _).mono ?_
              rintro e w' ⟨rfl, rfl⟩
              clear lp c0
              go_upto_if 85 with fail
              go_cut [13] from 71 to 165 (fun s13 wx => ∃ k : Nat, k < 3 ∧ s13 = .int .i64 k ∧ wx = wr)
              case first =>
                by_cases hl2 : i < n2
                · obtain ⟨bb, ob, rfl, hbb, hcb⟩ := HA2'.out.resolve_left (by omega)
                  have c1 := (hcb i hl2).1
                  have i2 : (i : Int) < (n2 : Int) := by omega
                  have qk := low_bd (xs2 i) (n := 3) (by omega)
                  have lk := hide (fun W => low_any (xs2 i) 3 W (by omega) (by omega))
                  obtain ⟨k, hk⟩ : ∃ p : Nat, lowV (xs2 i) 3 = p := ⟨(lowV (xs2 i) 3).toNat, by omega⟩
                  rw [hk] at qk lk
                  clear hcb hbb hk
                  go_wp2_with fail
                  refine (lk.out _).mono ?_
                  rintro e w' ⟨rfl, rfl⟩
                  go_wp2_with fail
                  go_meet
                  case rel => exact ⟨k, by omega, rfl, rfl⟩
                · have i2 : ¬ (i : Int) < (n2 : Int) := by omega
                  go_wp2_with fail
                  go_meet
                  case rel => exact ⟨0, by omega, rfl, rfl⟩
              case rest =>
                obtain ⟨k, hk3, rfl, rfl⟩ := hcut
                obtain ⟨wq, rfl⟩ : ∃ wq : World, wq = wc := ⟨_, rfl⟩
                have k0 : (0 : Int) ≤ (k : Int) := by omega
                have k1 : (k : Int) < 3 := by omega
                have q0 : (0 : Int) ≤ (p : Int) := by omega
                have q1 : (p : Int) < 8 := by omega
                obtain ⟨c1, hV, hT, hO, hF⟩ := own_pre HK.out hk3 p1
                have HV := hide hV
                have HT := hide hT
                have HO := hide hO
                have HF := hide hF
                have hc := HH4.out.cell hk3 p1
                rw [HHK.out k hk3 p p1] at hc
                have HOK := hide (fun i (hi : i < 3) => (HK.out i hi).2.2.good.ok)
                have HNB := hide (show ¬ crS H gb 3 tl B from fun e => by have := HBS.out B e; omega)
                have HBl := hide HH4.out.lt
                clear hV hT hO hF
                go_upto_region 25 with fail
                go_cut [101] from 71 to 165 (fun s101 wx => s101 = .bool false ∧ CoresAt wx H gb cap 3 tl (upd K k ⟨0, 1, c1⟩) ∧ Mod (crS H gb 3 tl) wq wx)
                case first =>
                  obtain ⟨b, hb⟩ : ∃ b, findOk (K k).c 1 (p : Nat) = b := ⟨_, rfl⟩
                  rw [hb] at hc HV
                  have HKR := hide (fun (W : World) (hm : Mod (crS H gb 3 tl) wq W) => (show W.cell? ⟨B, k * 8 + p, none⟩ = some (.bool b) ∧ Mod (crS H gb 3 tl) wq W from ⟨(hm.cell HNB.out HBl.out).trans hc, hm⟩))
                  have HPR := hide (fun w => cpre_any H gb cap 3 tl K (gf + 1) gf 4 4 (memD 8) k p w)
                  have HCd := hide (show CoresAt wq.drew H gb cap 3 tl K from HC4.out.same (fun _ _ => rfl))
                  have HMd := hide (show MemAt wq.drew (gf + 1) gf 4 4 (memD 8) from HM4.out.same rfl rfl)
                  rw [HV.out, HT.out] at HPR
                  clear hb HV HT HF HHK HK
                  go_region_held3 (fun w' => w'.cell? ⟨B, k * 8 + p, none⟩ = some (.bool b) ∧ Mod (crS H gb 3 tl) wq w') (first | (with_reducible assumption) | (with_reducible exact HKR.out _ (Mod.refl _ wq).drew)) ((go_at_call 19; refine (HPR.out _ HCd.out HMd.out HOK.out).mono ?_; rintro e w6 ⟨rfl, hc6, hm6⟩; have hS6 := HKR.out _ (Mod.of_drew hm6)))
                  have hm7 := Mod.of_drew hm6
                  cases b
                  all_goals
                    go_wp2
                    go_meet
                    case rel => exact ⟨rfl, hc6, hm7⟩
                case rest =>
                  obtain ⟨rfl, hc5, hm5⟩ := hcut
                  have HM5 := hide (HM4.out.crS HC4.out hm5)
                  have HH5 := hide (HH4.out.mod hm5 HNB.out)
                  have HB5 := hide (below_mod HB4.out (Nat.le_of_eq HG.out.symm) hm5 HS.out)
                  have HK6 := hide (HK.out.upd_ k HO.out)
                  have hbg : ∀ q, crS H gb 3 tl q → q < B := HBS.out
                  have hHB := hbg H (.inl rfl)
                  have hms := Mod.one B wc (k * 8 + p) (.bool true)
                  have HC6 := hide (hc5.mod hms (fun q hq e => HNB.out (e ▸ hq)))
                  have HM6 := hide (HM5.out.modT hms (by omega) (by omega))
                  have HH6 := hide (HH5.out.set_ hk3 p1 true)
                  have HB6 := hide (below_mod HB5.out (Nat.le_of_eq HG.out.symm) hms (fun q hq => by have hq' : q = B := hq; omega))
                  have fz := HH5.out.frozen (k * 8 + p)
                  have hcz := HH5.out.cell hk3 p1
                  have HREL := hide (show ∀ k', k' < 3 → ∀ q, q < 8 → hset h k p true k' q = findOk (upd K k ⟨0, 1, c1⟩ k').c 1 (q : Nat) from fun k' hk' q hq => by
                    unfold hset
                    by_cases e : k' = k
                    · subst e
                      rw [upd_same, HF.out q hq]
                      by_cases e2 : q = p
                      · subst e2; rw [if_pos ⟨rfl, rfl⟩]; simp
                      · rw [if_neg (fun h => e2 h.2), HHK.out k' hk' q hq, show (q == p) = false from by simpa using e2, Bool.or_false]
                    · rw [if_neg (fun h => e h.1), upd_ne _ _ e]; exact HHK.out k' hk' q hq)
                  clear hc5 hm5 HM4 HC4 HH4 HB4 HK HHK HV HT HF hc hms HOK HBl
                  go_upto_if 107 with fail
                  generalize wc.setCell ⟨B, k * 8 + p, none⟩ (.bool true) = wd at *
                  generalize hset h k p true = h1 at *
                  go_cut [15, 16, 17, 18] from 71 to 165 (fun _ _ _ _ wx => ∃ (K2 : Nat → Core) (h2 : Nat → Nat → Bool), OwnK K2 ∧ (∀ k, k < 3 → ∀ q, q < 8 → h2 k q = findOk (K2 k).c 1 (q : Nat)) ∧ CoresAt wx H gb cap 3 tl K2 ∧ MemAt wx (gf + 1) gf 4 4 (memD 8) ∧ HasAt wx B h2 ∧ Below gf w wx)
                  case first =>
                    by_cases hp0 : p = 0
                    · subst hp0
                      have HALL := hide (fun w => call_rows H gb cap 3 tl (upd K k ⟨0, 1, c1⟩) k w)
                      have HEV := hide (fun w => cevict_in H gb cap 3 tl (upd K k ⟨0, 1, c1⟩) k 0 0 w)
                      simp only [upd_same, upd_upd] at HALL HEV
                      obtain ⟨c2, hc2⟩ : ∃ c2, evictC c1 0 0 = c2 := ⟨_, rfl⟩
                      have hlen := evict0_len c1
                      have hev := (evict0 c1).2
                      obtain ⟨hO2, hF2⟩ := HO.out.evict
                      rw [hc2] at HEV hlen hO2 hF2
                      rw [hev] at HEV
                      have hv8 := vis_len c2 8
                      have HALL2 := hide (fun w => call_rows H gb cap 3 tl (upd K k ⟨0, 1, c2⟩) k w)
                      simp only [upd_same] at HALL2
                      have HO2 := hide hO2
                      have HF2 := hide hF2
                      have HLEN := hide hlen
                      clear hc2 hev hO2 hF2 hlen
                      go_wp2_with fail
                      refine (HALL.out _ HC6.out hk3).mono ?_
                      rintro e w7 ⟨R1, q1', rfl, hR1, hb⟩
                      clear hR1
                      have HC7 := hide (HC6.out.on hb)
                      have HM7 := hide (HM6.out.on hb)
                      have HH7 := hide (HH6.out.on hb)
                      have HB7 := hide (HB6.out.trans (hb.mono (Nat.le_trans (Nat.le_of_eq HG.out.symm) HB6.out.size)))
                      clear hb HC6 HM6 HH6 HB6 HALL
                      go_wp2_with fail
                      refine (HEV.out _ HC7.out hk3).mono ?_
                      rintro e w8 ⟨rfl, hc8, hm8⟩
                      have hcr := Mod.crT (g := H) (gb := gb) hk3 hm8
                      have HM8 := hide (HM7.out.crS HC7.out hcr)
                      have HH8 := hide (HH7.out.mod hcr HNB.out)
                      have HB8 := hide (below_mod HB7.out (Nat.le_of_eq HG.out.symm) hcr HS.out)
                      have HC8 := hide hc8
                      clear hc8 hm8 hcr HC7 HM7 HH7 HB7 HEV
                      go_wp2_with fail
                      refine (HALL2.out _ HC8.out hk3).mono ?_
                      rintro e w9 ⟨R2, q2', rfl, hR, hb⟩
                      have HC9 := hide (HC8.out.on hb)
                      have HM9 := hide (HM8.out.on hb)
                      have HH9 := hide (HH8.out.on hb)
                      have HB9 := hide (HB8.out.trans (hb.mono (Nat.le_trans (Nat.le_of_eq HG.out.symm) HB8.out.size)))
                      have hBw8 := HH8.out.lt
                      have HR := hide hR
                      clear hb hR HC8 HM8 HH8 HB8 HALL2
                      have HRW := hide (fun j (hj : j < (vis c2 8).length) => HO2.out.row hj)
                      have HPG := hide (fun q => HO2.out.pgs_all q)
                      have HPS := hide (fun j q => pgs_succ c2 j q)
                      have hcase : ((c1.way 0).sp = 0 ∧ (vis c1 8).length = (vis c2 8).length ∧ ((c1.way 0).sp != 0) = false) ∨ (¬ (c1.way 0).sp = 0 ∧ (vis c1 8).length = (vis c2 8).length + 1 ∧ ((c1.way 0).sp != 0) = true) := by
                        have hlen := HLEN.out
                        by_cases h0 : (c1.way 0).sp = 0
                        · rw [if_pos h0] at hlen
                          exact .inl ⟨h0, hlen, by simp [h0]⟩
                        · rw [if_neg h0] at hlen
                          exact .inr ⟨h0, hlen, by simp [h0]⟩
                      clear HLEN
                      generalize (vis c1 8).length = L1 at *
                      generalize (vis c2 8).length = L2 at *
                      generalize ((c1.way 0).sp != 0) = eb at *
                      have hcmp : eb = ((L2 : Int) == (L1 : Int) - 1) := by
                        rcases hcase with ⟨_, h1, rfl⟩ | ⟨_, h1, rfl⟩
                        · have : ¬ (L2 : Int) = (L1 : Int) - 1 := by omega
                          exact (beq_eq_false_iff_ne.2 this).symm
                        · have : (L2 : Int) = (L1 : Int) - 1 := by omega
                          exact (beq_iff_eq.2 this).symm
                      have hl1 : (L1 : Int) ≤ 9 := by omega
                      have hne : (eb == ((L2 : Int) == (L1 : Int) - 1)) = true := by rw [← hcmp]; simp
                      clear hcase hcmp
                      have z0 : w9.frozen? ⟨B, k * 8, none⟩ = false := HH9.out.frozen _
                      have z4 : w9.frozen? ⟨B, k * 8 + 4, none⟩ = false := HH9.out.frozen _
                      have y0 : w9.cell? ⟨B, k * 8, none⟩ = some (.bool (h1 k 0)) := HH9.out.cell hk3 (q := 0) (by decide)
                      have y4 : w9.cell? ⟨B, k * 8 + 4, none⟩ = some (.bool (h1 k 4)) := HH9.out.cell hk3 (q := 4) (by decide)
                      go_upto_region 34 with fail
                      clear hne
                      go_region
                      have HHA := hide (show HasAt ((w9.setCell ⟨B, k * 8, none⟩ (.bool false)).setCell ⟨B, k * 8 + 4, none⟩ (.bool false)).drew B (hset (hset h1 k 0 false) k 4 false) from ((HH9.out.set_ hk3 (q := 0) (by decide) false).set_ hk3 (q := 4) (by decide) false).drew)
                      have hms : Mod (· = B) w9 ((w9.setCell ⟨B, k * 8, none⟩ (.bool false)).setCell ⟨B, k * 8 + 4, none⟩ (.bool false)).drew := ((Mod.one B w9 _ _).trans (Mod.one B _ _ _)).drew
                      have HCA := hide (HC9.out.mod hms (fun q hq e => HNB.out (e ▸ hq)))
                      have HMA := hide (HM9.out.modT hms (by omega) (by omega))
                      have HBA := hide (below_mod HB9.out (Nat.le_of_eq HG.out.symm) hms (fun q hq => by have hq' : q = B := hq; omega))
                      have HRA := hide (show RowsAt ((w9.setCell ⟨B, k * 8, none⟩ (.bool false)).setCell ⟨B, k * 8 + 4, none⟩ (.bool false)).drew w8.heap.size R2 L2 (ts c2) from HR.out.mod hms (fun q hq => by have hq' : q = B := hq; omega))
                      have hB8 := hBw8
                      clear hms HC9 HM9 HB9 HH9 HR y0 y4 z0 z4
                      generalize ((w9.setCell ⟨B, k * 8, none⟩ (.bool false)).setCell ⟨B, k * 8 + 4, none⟩ (.bool false)).drew = wa at *
                      generalize w8.heap.size = D8 at *
                      go_wp2
                      go_loopw [18] (fun i wr => ∃ j : Nat, j ≤ L2 ∧ i = .int .i64 j ∧ RowsAt wr D8 R2 L2 (ts c2) ∧ HasAt wr B (hj h1 k c2 j) ∧ CoresAt wr H gb cap 3 tl (upd K k ⟨0, 1, c2⟩) ∧ MemAt wr (gf + 1) gf 4 4 (memD 8) ∧ Below gf w wr) (fun i _ => L2 - (intOf i).toNat)
                      case atStart => exact ⟨0, Nat.zero_le _, rfl, HRA.out, HHA.out.congr (fun k' hk' q hq => hj_zero h1 k c2 k' q), HCA.out, HMA.out, HBA.out⟩
                      case round =>
                        obtain ⟨j, hjl, rfl, hR, hH, hC, hM, hB⟩ := hrel
                        have HR5 := hide hR
                        have HH5' := hide hH
                        have HC5 := hide hC
                        have HM5' := hide hM
                        have HB5' := hide hB
                        clear hH hC hM hB HRA HHA HCA HMA HBA
                        by_cases hjL : j < L2
                        · obtain ⟨p', hp', hrow⟩ := HRW.out j hjL
                          rcases hR with hR | ⟨gr, rfl, hg1, hg2, hc⟩
                          · omega
                          have cp := (hc j hjL).2.1
                          rw [hrow] at cp
                          have cp' : wr.cell? ⟨gr, j * 5 + 1, none⟩ = some (.int .i64 (p' : Int)) := cp
                          have j0 : (0 : Int) ≤ (j : Int) := by omega
                          have j1 : (j : Int) < (L2 : Int) := by omega
                          have p0' : (0 : Int) ≤ (p' : Int) := by omega
                          have p8' : (p' : Int) < 8 := by omega
                          have hgB : gr ≠ B := by omega
                          have z0 : wr.frozen? ⟨B, k * 8 + p', none⟩ = false := HH5'.out.frozen _
                          have y0 := HH5'.out.cell hk3 hp'
                          have hms := (Mod.one B wr (k * 8 + p') (.bool true)).drew
                          have HCA := hide (HC5.out.mod hms (fun q hq e => HNB.out (e ▸ hq)))
                          have HMA := hide (HM5'.out.modT hms (by omega) (by omega))
                          have HBA := hide (below_mod HB5'.out (Nat.le_of_eq HG.out.symm) hms (fun q hq => by have hq' : q = B := hq; omega))
                          have HRA := hide (HR5.out.mod hms (fun q hq => by have hq' : q = B := hq; omega))
                          have HHA := hide ((HH5'.out.set_ hk3 hp' true).drew.congr (fun k' hk' q hq => hj_next (h1 := h1) (k := k) (c2 := c2) (j := j) k' q hrow))
                          clear hms HC5 HM5' HB5' HR5 HH5' cp hc hrow
                          go_upto_region 38 with fail
                          go_region
                          go_wp2
                          go_roundw
                          case rel => exact ⟨j + 1, by omega, by simp, HRA.out, HHA.out, HCA.out, HMA.out, HBA.out⟩
                          case measure => simp [intOf]; omega
                        · obtain rfl : j = L2 := by omega
                          go_wp2_with fail
                          go_meet
                          case rel =>
                            refine ⟨_, _, by have h := HK6.out.upd_ k HO2.out; rw [upd_upd] at h; exact h, fun k' hk' q hq => ?_, HC5.out, HM5'.out, HH5'.out, HB5'.out⟩
                            have hr := HREL.out k' hk' q hq
                            unfold hj
                            by_cases e : k' = k
                            · subst e
                              rw [upd_same] at hr
                              rw [if_pos rfl, HPG.out q, upd_same]
                              by_cases h04 : q = 0 ∨ q = 4
                              · rw [if_pos h04, Bool.false_or]
                              · rw [if_neg h04, hr, HF2.out q hq (fun h => h04 (.inl h)) (fun h => h04 (.inr h)), Bool.or_self]
                            · rw [upd_ne _ _ e] at hr
                              rw [if_neg e, upd_ne _ _ e]
                              exact hr
                    · have hp0' : ((p : Int) == 0) = false := beq_eq_false_iff_ne.2 (by omega)
                      go_wp2_with fail
                      go_meet
                      case rel => exact ⟨_, h1, HK6.out, HREL.out, HC6.out, HM6.out, HH6.out, HB6.out⟩
                  case rest =>
                    obtain ⟨K2, h2, hK2, hh2, hc6, hm6, hh6, hb6⟩ := hcut
                    have HK7 := hide hK2
                    have HR7 := hide hh2
                    have HC7 := hide hc6
                    have HM7 := hide hm6
                    have HH7 := hide hh6
                    have HB7 := hide hb6
                    clear hK2 hh2 hc6 hm6 hh6 hb6 HREL HC6 HM6 HH6 HB6 HK6
                    go_wp2
                    go_loopw [19, 20, 21] (fun i _ _ wr => ∃ j : Nat, j ≤ 3 ∧ i = .int .i64 j ∧ CoresAt wr H gb cap 3 tl K2 ∧ MemAt wr (gf + 1) gf 4 4 (memD 8) ∧ HasAt wr B h2 ∧ Below gf w wr) (fun i _ _ _ => 3 - (intOf i).toNat)
                    case atStart => exact ⟨0, by omega, rfl, HC7.out, HM7.out, HH7.out, HB7.out⟩
                    case round =>
                      obtain ⟨j, hj3, rfl, hC, hM, hH, hB⟩ := hrel
                      have HC8 := hide hC
                      have HM8 := hide hM
                      have HH8 := hide hH
                      have HB8 := hide hB
                      clear hC hM hH hB HC7 HM7 HH7 HB7
                      by_cases hlj : j < 3
                      · have j0 : (0 : Int) ≤ (j : Int) := by omega
                        have j1 : (j : Int) < 3 := by omega
                        go_wp2_with fail
                        go_loopw [20, 21] (fun c i wx => ∃ q : Nat, q ≤ 8 ∧ c = .int .i64 (cntH (h2 j) q : Nat) ∧ i = .int .i64 q ∧ wx = wr) (fun _ i _ => 8 - (intOf i).toNat)
                        case atStart => exact ⟨0, by omega, rfl, rfl, rfl⟩
                        case round =>
                          obtain ⟨q, hq8, rfl, rfl, rfl⟩ := hrel
                          have hcle := cntH_le (h2 j) q
                          by_cases hql : q < 8
                          · have q0 : (0 : Int) ≤ (q : Int) := by omega
                            have q1 : (q : Int) < 8 := by omega
                            have hc := HH8.out.cell hlj hql
                            have hs := cntH_succ (h2 j) q
                            generalize cntH (h2 j) q = cq at *
                            have HSU := hide hs
                            clear hs
                            cases hb : h2 j q
                            all_goals
                              rw [hb] at hc HSU
                              clear hb
                              go_wp2_with fail
                              go_roundw
                              case rel => exact ⟨q + 1, by omega, by rw [HSU.out]; simp, by simp, trivial⟩
                              case measure => simp [intOf]; omega
                          · obtain rfl : q = 8 := by omega
                            have HALL := hide (fun w => call_rows H gb cap 3 tl K2 j w)
                            have hlen : (vis (K2 j).c 8).length = cntH (h2 j) 8 := by
                              rw [(HK7.out j hlj).2.2.count]
                              exact cntH_congr (fun q hq => (HR7.out j hlj q hq).symm)
                            rw [hlen] at HALL
                            generalize cntH (h2 j) 8 = cq at *
                            clear hlen
                            go_wp2_with fail
                            refine (HALL.out _ HC8.out hlj).mono ?_
                            rintro e w7 ⟨R1, q1', rfl, hR1, hb⟩
                            clear hR1
                            have HC9 := hide (HC8.out.on hb)
                            have HM9 := hide (HM8.out.on hb)
                            have HH9 := hide (HH8.out.on hb)
                            have HB9 := hide (HB8.out.trans (hb.mono (Nat.le_trans (Nat.le_of_eq HG.out.symm) HB8.out.size)))
                            clear hb HC8 HM8 HH8 HB8 HALL
                            go_wp2_with fail
                            go_roundw
                            case rel => exact ⟨j + 1, by omega, by simp, HC9.out, HM9.out, HH9.out, HB9.out⟩
                            case measure => simp [intOf]; omega
                      · obtain rfl : j = 3 := by omega
                        go_wp2_with fail
                        go_roundw
                        case rel => exact ⟨i + 1, K2, h2, by omega, by simp, HK7.out, HR7.out, HC8.out, HM8.out, HH8.out, HB8.out⟩
                        case measure => simp [intOf]; omega
            · go_wp2_with fail
              refine (awake7 _).mono ?_
              rintro e w6 ⟨rfl, hb⟩
              have HB5 := hide (HB4.out.trans (hb.mono (Nat.le_trans (Nat.le_of_eq HG.out.symm) HB4.out.size)))
              clear hb
              go_wp2_with fail
              go_ret
              exact ⟨rfl, HG.out ▸ HB5.out⟩
end Go.Proofs.Ytjnnimdgmcpjoaa
