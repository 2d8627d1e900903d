/- Chapter 8: the walk of access.find. -/
import Derived.Test.YtlfenakabedmfaaCores4
import Derived.Test.YtlfenakabedmfaaVaddr
namespace Go.Proofs.Ytlfenakabedmfaa
open Go.RowKit Go.Shelf
def partsA (va : Int) : Array Value := #[.int .i64 (va / 4096), .int .i64 (va / 512 % 8), .int .i64 (va / 64 % 8), .int .i64 (va % 64)]
set_option maxHeartbeats 1000000 in
theorem afind_range (c q : Option Addr) (k va : Int) (wr : Bool) (w : World) (h : 32768 ≤ va) :
    Calls Try.prog 56 #[.pointer c, .pointer q, .int .i64 k, .int .u64 va, .bool wr] w fun e w' => e = .returned (.tuple #[.int .u64 0, .int .i64 1]) ∧ Below w.heap.size w w' := by
  go_enter Try.func56, Try.ntmps56
  go_wp2_with fail
  go_step3
  go_wp2_with fail
  go_step3
  go_wp2_with fail
  refine wp_loop_rounds 2 ?_
  rw [rounds_succ]
  go_wp2_with fail
  refine (split_no va _ h).mono ?_
  rintro e w1 ⟨rfl, hB⟩
  go_wp2_with fail
  rw [Exit.noGoto_ret]
  go_ret2
  have hz := hB.size
  exact ⟨rfl, by go_grown⟩
set_option maxHeartbeats 1000000 in
theorem afind_align (c q : Option Addr) (k va : Int) (wr : Bool) (w : World) (h0 : 0 ≤ va) (h1 : va < 32768) (h : va % 8 ≠ 0) :
    Calls Try.prog 56 #[.pointer c, .pointer q, .int .i64 k, .int .u64 va, .bool wr] w fun e w' => e = .returned (.tuple #[.int .u64 0, .int .i64 2]) ∧ Below w.heap.size w w' := by
  have hd : (va % 8 != 0) = true := by simpa using h
  have hd2 : va.tmod 8 = va % 8 := Int.tmod_eq_emod_of_nonneg h0
  go_enter Try.func56, Try.ntmps56
  go_wp2_with fail
  go_step3
  go_wp2_with fail
  go_step3
  go_wp2_with fail
  refine wp_loop_rounds 2 ?_
  rw [rounds_succ]
  go_wp2_with fail
  refine (split_yes va _ h0 h1).mono ?_
  rintro e w1 ⟨rfl, hB⟩
  unfold splitA
  go_upto_region 6 with fail
  have hBa := hB.alloc (Nat.le_trans (Nat.le_refl _) hB.size) (.cells (partsA va) 175)
  have hk := Blk.new w1 175 (partsA va)
  have hz := hB.size
  unfold partsA at hBa hk
  generalize w1.alloc (.cells #[.int .i64 (va / 4096), .int .i64 (va / 512 % 8), .int .i64 (va / 64 % 8), .int .i64 (va % 64)] 175) = w2 at hBa hk ⊢
  clear hB
  generalize w1.heap.size = P at hk hz ⊢
  clear hk hz
  go_wp2_with fail
  rw [Exit.noGoto_ret]
  go_ret2
  exact ⟨rfl, hBa⟩
set_option maxHeartbeats 1000000 in
theorem afind_nil (q : Option Addr) (k va : Int) (wr : Bool) (w : World) (h0 : 0 ≤ va) (h1 : va < 32768) (h : va % 8 = 0) :
    Calls Try.prog 56 #[.pointer none, .pointer q, .int .i64 k, .int .u64 va, .bool wr] w fun e w' => e = .returned (.tuple #[.int .u64 0, .int .i64 3]) ∧ Below w.heap.size w w' := by
  have hd : (va % 8 != 0) = false := by rw [h]; rfl
  have hd2 : va.tmod 8 = va % 8 := Int.tmod_eq_emod_of_nonneg h0
  go_enter Try.func56, Try.ntmps56
  go_wp2_with fail
  go_step3
  go_wp2_with fail
  go_step3
  go_wp2_with fail
  refine wp_loop_rounds 2 ?_
  rw [rounds_succ]
  go_wp2_with fail
  refine (split_yes va _ h0 h1).mono ?_
  rintro e w1 ⟨rfl, hB⟩
  unfold splitA
  go_upto_region 6 with fail
  have hBa := hB.alloc (Nat.le_trans (Nat.le_refl _) hB.size) (.cells (partsA va) 175)
  have hk := Blk.new w1 175 (partsA va)
  have hz := hB.size
  unfold partsA at hBa hk
  generalize w1.alloc (.cells #[.int .i64 (va / 4096), .int .i64 (va / 512 % 8), .int .i64 (va / 64 % 8), .int .i64 (va % 64)] 175) = w2 at hBa hk ⊢
  clear hB
  generalize w1.heap.size = P at hk hz ⊢
  clear hk hz
  go_wp2_with fail
  refine (cregs_nil _ _).mono ?_
  rintro e w3 ⟨rfl, rfl⟩
  go_wp2_with fail
  rw [Exit.noGoto_ret]
  go_ret2
  exact ⟨rfl, hBa⟩
set_option maxHeartbeats 1000000 in
theorem afind_bad (q : Option Addr) (g gb cap n : Nat) (tl : Nat → Nat) (K : Nat → Core) (k va : Int) (wr : Bool) (w : World) (hC : CoresAt w g gb cap n tl K) (h0 : 0 ≤ va) (h1 : va < 32768) (h : va % 8 = 0) (hb : k < 0 ∨ (n : Int) ≤ k) :
    Calls Try.prog 56 #[.pointer (some ⟨g, 0, none⟩), .pointer q, .int .i64 k, .int .u64 va, .bool wr] w fun e w' => e = .returned (.tuple #[.int .u64 0, .int .i64 3]) ∧ Below w.heap.size w w' := by
  have HC := hide hC
  have HK := hide hb
  clear hC hb
  have hd : (va % 8 != 0) = false := by rw [h]; rfl
  have hd2 : va.tmod 8 = va % 8 := Int.tmod_eq_emod_of_nonneg h0
  go_enter Try.func56, Try.ntmps56
  go_wp2_with fail
  go_step3
  go_wp2_with fail
  go_step3
  go_wp2_with fail
  refine wp_loop_rounds 2 ?_
  rw [rounds_succ]
  go_wp2_with fail
  refine (split_yes va _ h0 h1).mono ?_
  rintro e w1 ⟨rfl, hB⟩
  unfold splitA
  go_upto_region 6 with fail
  have hBa := hB.alloc (Nat.le_trans (Nat.le_refl _) hB.size) (.cells (partsA va) 175)
  have hk := Blk.new w1 175 (partsA va)
  have hz := hB.size
  unfold partsA at hBa hk
  generalize w1.alloc (.cells #[.int .i64 (va / 4096), .int .i64 (va / 512 % 8), .int .i64 (va / 64 % 8), .int .i64 (va % 64)] 175) = w2 at hBa hk ⊢
  clear hB
  generalize w1.heap.size = P at hk hz ⊢
  clear hk hz
  go_wp2_with fail
  refine (cregs_bad g gb cap n tl K k _ (HC.out.on hBa) HK.out).mono ?_
  rintro e w3 ⟨rfl, rfl⟩
  go_wp2_with fail
  rw [Exit.noGoto_ret]
  go_ret2
  exact ⟨rfl, hBa⟩
set_option maxHeartbeats 1000000 in
theorem afind_idle (q : Option Addr) (g gb cap n : Nat) (tl : Nat → Nat) (K : Nat → Core) (i : Nat) (va : Int) (wr : Bool) (w : World) (hC : CoresAt w g gb cap n tl K) (h0 : 0 ≤ va) (h1 : va < 32768) (h : va % 8 = 0) (hi : i < n) (hr : q = none ∨ (K i).rt < 0) :
    Calls Try.prog 56 #[.pointer (some ⟨g, 0, none⟩), .pointer q, .int .i64 i, .int .u64 va, .bool wr] w fun e w' => e = .returned (.tuple #[.int .u64 0, .int .i64 3]) ∧ Below w.heap.size w w' := by
  have HC := hide hC
  clear hC
  have hd : (va % 8 != 0) = false := by rw [h]; rfl
  have hd2 : va.tmod 8 = va % 8 := Int.tmod_eq_emod_of_nonneg h0
  go_enter Try.func56, Try.ntmps56
  go_wp2_with fail
  go_step3
  go_wp2_with fail
  go_step3
  go_wp2_with fail
  refine wp_loop_rounds 2 ?_
  rw [rounds_succ]
  go_wp2_with fail
  refine (split_yes va _ h0 h1).mono ?_
  rintro e w1 ⟨rfl, hB⟩
  unfold splitA
  go_upto_region 6 with fail
  have hBa := hB.alloc (Nat.le_trans (Nat.le_refl _) hB.size) (.cells (partsA va) 175)
  have hk := Blk.new w1 175 (partsA va)
  have hz := hB.size
  unfold partsA at hBa hk
  generalize w1.alloc (.cells #[.int .i64 (va / 4096), .int .i64 (va / 512 % 8), .int .i64 (va / 64 % 8), .int .i64 (va % 64)] 175) = w2 at hBa hk ⊢
  clear hB
  generalize w1.heap.size = P at hk hz ⊢
  clear hk
  have HRG := hide (fun W hW => cregs_in g gb cap n tl K i W hW hi)
  generalize (K i).rt = rt at HRG hr
  generalize (K i).sp = sp at HRG
  by_cases hq : q = none
  · subst hq
    clear hr
    go_wp2_with fail
    refine (HRG.out _ (HC.out.on hBa)).mono ?_
    rintro e w3 ⟨rfl, hb3⟩
    have hB3 := hBa.trans (hb3.mono hBa.size)
    go_wp2_with fail
    rw [Exit.noGoto_ret]
    go_ret2
    exact ⟨rfl, hB3⟩
  · have hrt : rt < 0 := hr.resolve_left hq
    obtain ⟨q, rfl⟩ : ∃ a, q = some a := by cases q with | none => exact (hq rfl).elim | some a => exact ⟨a, rfl⟩
    clear hr hq
    go_wp2_with fail
    refine (HRG.out _ (HC.out.on hBa)).mono ?_
    rintro e w3 ⟨rfl, hb3⟩
    have hB3 := hBa.trans (hb3.mono hBa.size)
    go_wp2_with fail
    rw [Exit.noGoto_ret]
    go_ret2
    exact ⟨rfl, hB3⟩
/-- What find tells: a place and no fault, or a kind of fault. -/
def accT (T : Tr × Bool × Int) (va : Int) (wr : Bool) : Int × Int :=
  if T.2.2 ≠ 0 then (0, 4) else if (if wr then T.1.wr else T.1.rd) = false then (0, 5) else (T.1.fr * 64 + va % 64, 0)
set_option maxHeartbeats 1000000 in
theorem afind_in (g gb cap n : Nat) (tl : Nat → Nat) (K : Nat → Core) (gm gf N cp : Nat) (m : Nat → Int) (i : Nat) (va : Int) (wr : Bool) (w : World) (hC : CoresAt w g gb cap n tl K) (hM : MemAt w gm gf N cp m) (hok : ∀ i, i < n → (K i).c.ok) (h0 : 0 ≤ va) (h1 : va < 32768) (h : va % 8 = 0) (hi : i < n) (hr : 0 ≤ (K i).rt) (hf : 0 ≤ (trV n K N m i (va / 64)).1.fr ∧ (trV n K N m i (va / 64)).1.fr < 64) :
    Calls Try.prog 56 #[.pointer (some ⟨g, 0, none⟩), .pointer (some ⟨gm, 0, none⟩), .int .i64 i, .int .u64 va, .bool wr] w fun e w' => e = .returned (.tuple #[.int .u64 (accT (trV n K N m i (va / 64)) va wr).1, .int .i64 (accT (trV n K N m i (va / 64)) va wr).2]) ∧ CoresAt w' g gb cap n tl (trK n K N m i (va / 64)) ∧ Mod (crS g gb n tl) w w' := by
  have HC := hide hC
  have HM := hide hM
  have HL := hide (fun k hk => hC.lt (k := k) hk)
  have hgm := hM.hd.lt
  have hgf := hM.ltf
  clear hC hM
  have HTR := hide (fun W hW hX => ctrans_any g gb cap n tl K gm gf N cp m i (va / 64) W hW hX hok)
  obtain ⟨⟨⟨a, b, c, r, v⟩, o, q⟩, hV⟩ : ∃ V, trV n K N m i (va / 64) = V := ⟨_, rfl⟩
  rw [hV] at HTR hf ⊢
  obtain ⟨K', hK'⟩ : ∃ K', trK n K N m i (va / 64) = K' := ⟨_, rfl⟩
  rw [hK'] at HTR ⊢
  clear hV hK' hok
  obtain ⟨hf0, hf1⟩ := hf
  dsimp only [Tr.row] at HTR hf0 hf1 ⊢
  have hd : (va % 8 != 0) = false := by rw [h]; rfl
  have hd2 : va.tmod 8 = va % 8 := Int.tmod_eq_emod_of_nonneg h0
  go_enter Try.func56, Try.ntmps56
  go_wp2_with fail
  go_step3
  go_wp2_with fail
  go_step3
  go_wp2_with fail
  refine wp_loop_rounds 2 ?_
  rw [rounds_succ]
  go_wp2_with fail
  refine (split_yes va _ h0 h1).mono ?_
  rintro e w1 ⟨rfl, hB⟩
  unfold splitA
  go_upto_region 6 with fail
  have hBa := hB.alloc (Nat.le_trans (Nat.le_refl _) hB.size) (.cells (partsA va) 175)
  have hk := Blk.new w1 175 (partsA va)
  have hz := hB.size
  unfold partsA at hBa hk
  generalize w1.alloc (.cells #[.int .i64 (va / 4096), .int .i64 (va / 512 % 8), .int .i64 (va / 64 % 8), .int .i64 (va % 64)] 175) = w2 at hBa hk ⊢
  clear hB
  generalize w1.heap.size = P at hk hz ⊢
  have HRG := hide (fun W hW => cregs_in g gb cap n tl K i W hW hi)
  generalize (K i).rt = rt at HRG hr
  generalize (K i).sp = sp at HRG
  go_wp2_with fail
  refine (HRG.out _ (HC.out.on hBa)).mono ?_
  rintro e w3 ⟨rfl, hb3⟩
  have hPl := hk.lt
  replace hk := hk.below hb3 hPl
  have hB3 := hBa.trans (hb3.mono hBa.size)
  clear hb3 hBa
  go_wp2_with fail
  refine (page_yes va _ h0 h1).mono ?_
  rintro e w4 ⟨rfl, rfl⟩
  go_wp2_with fail
  have HC3 := hide (HC.out.on hB3)
  refine (HTR.out _ HC3.out (HM.out.below hB3 hgm hgf)).mono ?_
  rintro e w5 ⟨rfl, hC5, hm5⟩
  have hP5 : ¬ crS g gb n tl P := fun hc => by have := HL.out P hc; omega
  replace hk := hk.mod hm5 hP5
  have hm := (Mod.of_below hB3 (crS g gb n tl)).trans hm5
  have HC5 := hide hC5
  have HM5 := hide hm
  clear hB3 hm5 hC5 hm HC3 hPl
  by_cases hq : q = 0
  · subst hq
    have hal := (Below.refl w5.heap.size w5).alloc (Nat.le_refl _) (.cells #[.int .i64 a, .int .i64 b, .int .i64 c, .bool r, .bool v] 42)
    have hkt := Blk.new w5 42 #[.int .i64 a, .int .i64 b, .int .i64 c, .bool r, .bool v]
    replace hk := hk.below hal hk.lt
    have HC6 := hide (HC5.out.on hal)
    have HM6 := hide (HM5.out.trans (Mod.of_below hal _))
    go_upto_region 15 with fail
    generalize w5.alloc (.cells #[.int .i64 a, .int .i64 b, .int .i64 c, .bool r, .bool v] 42) = w6 at hk hkt HC6 HM6 ⊢
    clear hal HC5 HM5
    obtain ⟨p0, p1, p2, p3⟩ := hk.c4
    obtain ⟨t0, t1, t2, t3, t4⟩ := hkt.c5
    have y0 : 0 ≤ va % 64 := Int.emod_nonneg _ (by decide)
    have y1 : va % 64 < 64 := Int.emod_lt_of_pos _ (by decide)
    cases wr
    · cases r
      · go_wp2_with fail
        rw [Exit.noGoto_ret]
        go_ret2
        exact ⟨rfl, HC6.out, HM6.out⟩
      · go_wp2_with fail
        rw [rounds_succ]
        go_wp2_with fail
        rw [Exit.noGoto_ret]
        go_ret2
        exact ⟨rfl, HC6.out, HM6.out⟩
    · cases v
      · go_wp2_with fail
        rw [Exit.noGoto_ret]
        go_ret2
        exact ⟨rfl, HC6.out, HM6.out⟩
      · go_wp2_with fail
        rw [rounds_succ]
        go_wp2_with fail
        rw [Exit.noGoto_ret]
        go_ret2
        exact ⟨rfl, HC6.out, HM6.out⟩
  · have hqf : (q != 0) = true := by simpa using hq
    have hal := (Below.refl w5.heap.size w5).alloc (Nat.le_refl _) (.cells #[.int .i64 a, .int .i64 b, .int .i64 c, .bool r, .bool v] 42)
    have HC6 := hide (HC5.out.on hal)
    have HM6 := hide (HM5.out.trans (Mod.of_below hal _))
    go_upto_region 15 with fail
    generalize w5.alloc (.cells #[.int .i64 a, .int .i64 b, .int .i64 c, .bool r, .bool v] 42) = w6 at HC6 HM6 ⊢
    clear hk hal HC5 HM5
    go_wp2_with fail
    rw [Exit.noGoto_ret]
    go_ret2
    unfold accT
    rw [if_pos hq]
    exact ⟨rfl, HC6.out, HM6.out⟩
end Go.Proofs.Ytlfenakabedmfaa
