/- The walks of the statements of chapter 5: awake, WalkFinds. -/
import Derived.Test.YtpmldcgljfkpnaaWalk7
import Derived.Test.YtpmldcgljfkpnaaLaw0
import Derived.ChangeKeysEq
import Derived.Deep.CutBlock
import Derived.Deep.DeepCutAuto
namespace Go.Proofs.Ytpmldcgljfkpnaa
open Go.RowKit Go.Shelf

theorem ent_eqA (a b c d a' b' c' d' : Bool) (f f' : Int) (w : World) : (Op.equalIn 10000 30 (.agg #[.bool a, .bool b, .bool c, .bool d, .int .i64 f]) (.agg #[.bool a', .bool b', .bool c', .bool d', .int .i64 f'])).run Try.prog w = .ok (a == a' && (b == b' && (c == c' && (d == d' && f == f')))) w := by
  go_simp
  (repeat' split) <;> simp_all
def aw5 : Nat → Int := storeV 4 (storeV 4 (storeV 4 (fun _ => 0) 0 257) 64 513) 128 775
theorem aw5_w : wlkC 4 aw5 0 0 = #[.bool true, .bool true, .bool true, .bool false, .int .i64 3] ∧ wlkE 4 aw5 0 0 = 0 ∧ (atV 4 aw5 0 64 1).1 = 8 ∧ (atV 4 aw5 0 64 1).2 = 0 := ⟨by kernel_rfl, by kernel_rfl, by kernel_rfl, by kernel_rfl⟩
set_option maxRecDepth 100000 in
set_option maxHeartbeats 2000000 in
theorem awake5 (w : World) : Calls Try.prog 11 #[] w fun e w' => e = .returned (.bool true) ∧ Below w.heap.size w w' := by
  have HW := hide aw5_w
  go_enter Try.func11, Try.ntmps11
  go_wp2_with fail
  refine (new_in 4 _ (by decide) (by decide)).mono ?_
  rintro e w1 ⟨rfl, hM, hB⟩
  generalize hH : w.heap.size = H at *
  have HH := hide hH
  have HB := hide hB
  have HM := hide hM
  clear hH hB hM
  go_wp2_with fail
  refine (pstore_any (H + 1) H 4 4 _ 0 257 _ HM.out (by decide) (by decide)).mono ?_
  rintro e w2 ⟨rfl, hM, hm⟩
  replace HB := hide (below_mod HB.out (Nat.le_of_eq HH.out.symm) hm (fun k hk => by have hk' : k = H := hk; omega))
  replace HM := hide hM
  clear hM hm
  go_wp2_with fail
  refine (pstore_any (H + 1) H 4 4 _ 64 513 _ HM.out (by decide) (by decide)).mono ?_
  rintro e w3 ⟨rfl, hM, hm⟩
  replace HB := hide (below_mod HB.out (Nat.le_of_eq HH.out.symm) hm (fun k hk => by have hk' : k = H := hk; omega))
  replace HM := hide hM
  clear hM hm
  go_wp2_with fail
  refine (pstore_any (H + 1) H 4 4 _ 128 775 _ HM.out (by decide) (by decide)).mono ?_
  rintro e w4 ⟨rfl, hM, hm⟩
  replace HB := hide (below_mod HB.out (Nat.le_of_eq HH.out.symm) hm (fun k hk => by have hk' : k = H := hk; omega))
  replace HM := hide (show MemAt w4 (H + 1) H 4 4 aw5 from hM)
  clear hM hm
  go_wp2_with fail
  refine (wwalk_any (H + 1) H 4 4 aw5 0 0 _ HM.out).mono ?_
  rintro e w5 ⟨rfl, hb5⟩
  rw [HW.out.1, HW.out.2.1]
  have hM5 := HM.out.on hb5
  have hl5 := hM5.hd.lt
  replace HB := hide (HB.out.trans (hb5.mono (by have := HM.out.ltf; omega)))
  have HM6 := hide (hM5.on ((Below.refl _ _).alloc (Nat.le_refl _) (.cells #[.bool true, .bool true, .bool true, .bool false, .int .i64 3] 30)))
  have hk := Blk.new w5 30 #[.bool true, .bool true, .bool true, .bool false, .int .i64 3]
  replace HB := hide (HB.out.alloc (by omega) (.cells #[.bool true, .bool true, .bool true, .bool false, .int .i64 3] 30))
  clear hb5 hM5 HM
  go_wp2_with fail
  refine (wat_any (H + 1) H 4 4 aw5 0 64 1 _ HM6.out).mono ?_
  rintro e w6 ⟨rfl, hb6⟩
  rw [HW.out.2.2.1, HW.out.2.2.2]
  replace hk := blk_below hk hb6
  replace HB := hide (HB.out.trans (hb6.mono (by simp; omega)))
  obtain ⟨d0, d1, d2, d3, d4⟩ := hk.c5
  clear hb6 hk HM6
  go_wp2_with fail
  go_ret
  exact ⟨rfl, by rw [HH.out]; exact HB.out⟩
/-! A leaf that was laid is found. -/
def leafW (fr r : Nat) : Int := 3 + 4 * (r : Int) + 256 * (fr : Int)
def findM (p fr r : Nat) : Nat → Int := storeV 5 (storeV 5 (storeV 5 (fun _ => 0) (8 * ((p : Int) / 64)) 257) (64 + 8 * ((p : Int) / 8 % 8)) 513) (128 + 8 * ((p : Int) % 8)) (leafW fr r)
theorem findM_at {p fr r : Nat} (hp : p < 512) (i : Nat) : findM p fr r i = if i = 16 + p % 8 then leafW fr r else if i = 8 + p / 8 % 8 then 513 else if i = p / 64 then 257 else 0 := by
  have a1 : adr 5 (8 * ((p : Int) / 64)) = 0 := by have := adr_of (n := 5) (j := p / 64) (by omega); rw [show (8 * ((p : Int) / 64)) = 8 * ((p / 64 : Nat) : Int) by omega]; exact this
  have a2 : adr 5 (64 + 8 * ((p : Int) / 8 % 8)) = 0 := by have := adr_of (n := 5) (j := 8 + p / 8 % 8) (by omega); rw [show (64 + 8 * ((p : Int) / 8 % 8)) = 8 * ((8 + p / 8 % 8 : Nat) : Int) by omega]; exact this
  have a3 : adr 5 (128 + 8 * ((p : Int) % 8)) = 0 := by have := adr_of (n := 5) (j := 16 + p % 8) (by omega); rw [show (128 + 8 * ((p : Int) % 8)) = 8 * ((16 + p % 8 : Nat) : Int) by omega]; exact this
  unfold findM storeV
  rw [if_pos a1, if_pos a2, if_pos a3]
  rw [show ((128 + 8 * ((p : Int) % 8)) / 8).toNat = 16 + p % 8 by omega, show ((64 + 8 * ((p : Int) / 8 % 8)) / 8).toNat = 8 + p / 8 % 8 by omega, show (8 * ((p : Int) / 64) / 8).toNat = p / 64 by omega]
theorem leaf_e {fr r : Nat} (hf : fr < 5) (h1 : 1 ≤ r) (h3 : r ≤ 3) : entE 5 (leafW fr r) true = 0 ∧ entC 5 (leafW fr r) true = #[.bool true, .bool true, .bool (r % 2 == 1), .bool (r / 2 % 2 == 1), .int .i64 (fr : Int)] := by
  have : fr = 0 ∨ fr = 1 ∨ fr = 2 ∨ fr = 3 ∨ fr = 4 := by omega
  have : r = 1 ∨ r = 2 ∨ r = 3 := by omega
  rcases ‹fr = 0 ∨ _› with rfl | rfl | rfl | rfl | rfl <;> rcases ‹r = 1 ∨ _› with rfl | rfl | rfl <;> exact ⟨by kernel_rfl, by kernel_rfl⟩
theorem find_walk {p q fr r : Nat} (hp : p < 512) (hq : q < 512) (hf : fr < 5) (h1 : 1 ≤ r) (h3 : r ≤ 3) :
    wlkE 5 (findM p fr r) 0 q = (if q = p then 0 else 6) ∧ wlkC 5 (findM p fr r) 0 q = (if q = p then #[.bool true, .bool true, .bool (r % 2 == 1), .bool (r / 2 % 2 == 1), .int .i64 (fr : Int)] else #[.bool false, .bool false, .bool false, .bool false, .int .i64 0]) := by
  have z0 : entE 5 0 false = 6 := by kernel_rfl
  have z1 : entE 5 0 true = 6 := by kernel_rfl
  have e1 : entE 5 257 false = 0 := by kernel_rfl
  have e2 : entE 5 513 false = 0 := by kernel_rfl
  have hb : badV 5 0 q 3 = 0 := by unfold badV; rw [if_neg (by omega)]
  obtain ⟨l1, l2⟩ := leaf_e hf h1 h3
  have w1 : wdN (findM p fr r) 0 q 1 = q / 64 := by show 8 * 0 + q / 64 = _; omega
  have hA : atV 5 (findM p fr r) 0 q 3 = atF 5 (findM p fr r) 0 q 3 := by unfold atV; rw [if_pos hb]; rfl
  have x1 : findM p fr r (q / 64) = if q / 64 = p / 64 then 257 else 0 := by rw [findM_at hp, if_neg (by omega), if_neg (by omega)]
  have er1 : erN 5 (findM p fr r) 0 q 1 = if q / 64 = p / 64 then 0 else 6 := by
    unfold erN
    rw [w1, x1]
    by_cases h : q / 64 = p / 64
    · rw [if_pos h, if_pos h, e1]
    · rw [if_neg h, if_neg h, z0]
  unfold wlkE wlkC
  rw [hA, atF_3, er1]
  by_cases c1 : q / 64 = p / 64
  · rw [if_pos c1] at x1 er1 ⊢
    have w2 : wdN (findM p fr r) 0 q 2 = 8 + q / 8 % 8 := by
      show 8 * (findM p fr r (8 * 0 + q / 64) / 256 % 64).toNat + q / 8 % 8 = _
      rw [show 8 * 0 + q / 64 = q / 64 by omega, x1]; rfl
    have x2 : findM p fr r (8 + q / 8 % 8) = if q / 8 % 8 = p / 8 % 8 then 513 else 0 := by
      rw [findM_at hp, if_neg (by omega)]
      by_cases h : q / 8 % 8 = p / 8 % 8
      · rw [if_pos (by omega), if_pos h]
      · rw [if_neg (by omega), if_neg h, if_neg (by omega)]
    have er2 : erN 5 (findM p fr r) 0 q 2 = if q / 8 % 8 = p / 8 % 8 then 0 else 6 := by
      unfold erN
      rw [w2, x2]
      by_cases h : q / 8 % 8 = p / 8 % 8
      · rw [if_pos h, if_pos h, e2]
      · rw [if_neg h, if_neg h, z0]
    rw [er2]
    by_cases c2 : q / 8 % 8 = p / 8 % 8
    · rw [if_pos c2] at x2 er2 ⊢
      have w3 : wdN (findM p fr r) 0 q 3 = 16 + q % 8 := by
        show 8 * (findM p fr r (wdN (findM p fr r) 0 q 2) / 256 % 64).toNat + q % 8 = _
        rw [w2, x2]; rfl
      have x3 : findM p fr r (16 + q % 8) = if q % 8 = p % 8 then leafW fr r else 0 := by
        rw [findM_at hp]
        by_cases h : q % 8 = p % 8
        · rw [if_pos (by omega), if_pos h]
        · rw [if_neg (by omega), if_neg h, if_neg (by omega), if_neg (by omega)]
      simp only [if_true]
      rw [w3, show (8 * ((16 + q % 8 : Nat) : Int) / 8).toNat = 16 + q % 8 by omega, x3]
      by_cases c3 : q % 8 = p % 8
      · rw [if_pos c3, if_pos (show q = p by omega), if_pos (show q = p by omega)]
        exact ⟨l1, l2⟩
      · rw [if_neg c3, if_neg (show ¬ q = p by omega), if_neg (show ¬ q = p by omega)]
        exact ⟨z1, by kernel_rfl⟩
    · rw [if_neg c2, if_neg (show ¬ q = p by intro h; subst h; exact c2 rfl), if_neg (show ¬ q = p by intro h; subst h; exact c2 rfl)]
      exact ⟨rfl, rfl⟩
  · rw [if_neg c1, if_neg (show ¬ q = p by intro h; subst h; exact c1 rfl), if_neg (show ¬ q = p by intro h; subst h; exact c1 rfl)]
    exact ⟨rfl, rfl⟩
theorem bits_s {s : Nat} (h : s < 3) : (bits BinOp.and IntKind.i64 ((s : Int) + 1) 1 == 1) = ((s + 1) % 2 == 1) ∧ (bits BinOp.and IntKind.i64 ((s : Int) + 1) 2 == 2) = ((s + 1) / 2 % 2 == 1) := by
  have : s = 0 ∨ s = 1 ∨ s = 2 := by omega
  rcases this with rfl | rfl | rfl <;> exact ⟨by kernel_rfl, by kernel_rfl⟩
set_option maxRecDepth 100000 in
set_option maxHeartbeats 8000000 in
theorem law_WalkFinds (a b c d : Int) (_ : (Lit.int .i64 a).wf = true) (_ : (Lit.int .i64 b).wf = true) (_ : (Lit.int .i64 c).wf = true) (_ : (Lit.int .i64 d).wf = true) (w : World) : Calls Try.prog 3 #[.int .i64 a, .int .i64 b, .int .i64 c, .int .i64 d] w fun e w' => e = .returned (.bool true) ∧ Below w.heap.size w w' := by
  have qa := low_bd a (n := 512) (by omega)
  have qb := low_bd b (n := 512) (by omega)
  have qc := low_bd c (n := 5) (by omega)
  have qd := low_bd d (n := 3) (by omega)
  have la := hide (fun W => low_any a 512 W (by omega) (by omega))
  have lb := hide (fun W => low_any b 512 W (by omega) (by omega))
  have lc := hide (fun W => low_any c 5 W (by omega) (by omega))
  have ld := hide (fun W => low_any d 3 W (by omega) (by omega))
  obtain ⟨p, hp⟩ : ∃ p : Nat, lowV a 512 = p := ⟨(lowV a 512).toNat, by omega⟩
  obtain ⟨q, hq⟩ : ∃ p : Nat, lowV b 512 = p := ⟨(lowV b 512).toNat, by omega⟩
  obtain ⟨f, hf⟩ : ∃ p : Nat, lowV c 5 = p := ⟨(lowV c 5).toNat, by omega⟩
  obtain ⟨s, hs⟩ : ∃ p : Nat, lowV d 3 = p := ⟨(lowV d 3).toNat, by omega⟩
  rw [hp] at qa la; rw [hq] at qb lb; rw [hf] at qc lc; rw [hs] at qd ld
  clear hp hq hf hs
  have p1 : p < 512 := by omega
  have q1 : q < 512 := by omega
  have f1 : f < 5 := by omega
  have s1 : s < 3 := by omega
  clear qa qb qc qd
  have e1 : IntKind.i64.wrap (1 + (s : Int)) = ((s + 1 : Nat) : Int) := by rw [IntWalk.i64_in _ (by omega)]; omega
  go_enter Try.func3, Try.ntmps3
  go_wp2_with fail
  refine (la.out _).mono ?_
  rintro e w' ⟨rfl, rfl⟩
  go_wp2_with fail
  refine (lb.out _).mono ?_
  rintro e w' ⟨rfl, rfl⟩
  go_wp2_with fail
  refine (lc.out _).mono ?_
  rintro e w' ⟨rfl, rfl⟩
  go_wp2_with fail
  refine (ld.out _).mono ?_
  rintro e w' ⟨rfl, rfl⟩
  go_wp2_with fail
  refine (new_in 5 _ (by decide) (by decide)).mono ?_
  rintro e w1 ⟨rfl, hM, hB⟩
  generalize hH : w.heap.size = H at *
  have HH := hide hH
  have HB := hide hB
  have HM := hide hM
  clear hH hB hM
  go_wp2_with fail
  refine (pstore_any (H + 1) H 5 5 _ (8 * ((p : Int) / 64)) 257 _ HM.out (by omega) (by decide)).mono ?_
  rintro e w2 ⟨rfl, hM, hm⟩
  replace HB := hide (below_mod HB.out (Nat.le_of_eq HH.out.symm) hm (fun k hk => by have hk' : k = H := hk; omega))
  replace HM := hide hM
  clear hM hm
  go_wp2_with fail
  refine (pstore_any (H + 1) H 5 5 _ (64 + 8 * ((p : Int) / 8 % 8)) 513 _ HM.out (by omega) (by decide)).mono ?_
  rintro e w3 ⟨rfl, hM, hm⟩
  replace HB := hide (below_mod HB.out (Nat.le_of_eq HH.out.symm) hm (fun k hk => by have hk' : k = H := hk; omega))
  replace HM := hide hM
  clear hM hm
  go_wp2_with fail
  refine (pstore_any (H + 1) H 5 5 _ (128 + 8 * ((p : Int) % 8)) (3 + 4 * ((s : Int) + 1) + 256 * (f : Int)) _ HM.out (by omega) (by omega)).mono ?_
  rintro e w4 ⟨rfl, hM, hm⟩
  replace HB := hide (below_mod HB.out (Nat.le_of_eq HH.out.symm) hm (fun k hk => by have hk' : k = H := hk; omega))
  have hM4 : MemAt w4 (H + 1) H 5 5 (findM p f (s + 1)) := by
    unfold findM leafW
    rw [show ((s + 1 : Nat) : Int) = (s : Int) + 1 by omega]
    exact hM
  replace HM := hide hM4
  clear hM hm hM4
  obtain ⟨fp1, fp2⟩ := find_walk (q := p) (fr := f) (r := s + 1) p1 p1 f1 (by omega) (by omega)
  rw [if_pos rfl] at fp1 fp2
  obtain ⟨fq1, fq2⟩ := find_walk (q := q) (fr := f) (r := s + 1) p1 q1 f1 (by omega) (by omega)
  have FP := hide (And.intro fp1 fp2)
  have FQ := hide (And.intro fq1 fq2)
  clear fp1 fp2 fq1 fq2
  go_wp2_with fail
  refine (wwalk_any (H + 1) H 5 5 (findM p f (s + 1)) 0 p _ HM.out).mono ?_
  rintro e w5 ⟨rfl, hb5⟩
  rw [FP.out.1, FP.out.2]
  generalize hR : ((s + 1) % 2 == 1) = R at *
  generalize hWr : ((s + 1) / 2 % 2 == 1) = Wr at *
  have bR := hide hR
  have bW := hide hWr
  clear hR hWr
  have hM5 := HM.out.on hb5
  have hl5 := hM5.hd.lt
  replace HB := hide (HB.out.trans (hb5.mono (by have := HM.out.ltf; omega)))
  have HM6 := hide (hM5.on ((Below.refl _ _).alloc (Nat.le_refl _) (.cells #[.bool true, .bool true, .bool R, .bool Wr, .int .i64 (f : Int)] 30)))
  have hk := Blk.new w5 30 #[.bool true, .bool true, .bool R, .bool Wr, .int .i64 (f : Int)]
  replace HB := hide (HB.out.alloc (by omega) (.cells #[.bool true, .bool true, .bool R, .bool Wr, .int .i64 (f : Int)] 30))
  clear hb5 hM5 HM
  go_wp2_with fail
  refine (wwalk_any (H + 1) H 5 5 (findM p f (s + 1)) 0 q _ HM6.out).mono ?_
  rintro e w6 ⟨rfl, hb6⟩
  rw [FQ.out.1, FQ.out.2]
  have hM6 := HM6.out.on hb6
  replace hk := blk_below hk hb6
  have hl6 := hk.lt
  have e5 := HB.out.size
  simp at e5
  replace HB := hide (HB.out.trans (hb6.mono (by simp; omega)))
  have B1 : (bits BinOp.and IntKind.i64 ((s : Int) + 1) 1 == 1) = R := (bits_s s1).1.trans bR.out
  have B2 : (bits BinOp.and IntKind.i64 ((s : Int) + 1) 2 == 2) = Wr := (bits_s s1).2.trans bW.out
  have QE : ∀ w : World, (Op.equalIn 10000 30 (.agg #[.bool true, .bool true, .bool R, .bool Wr, .int .i64 (f : Int)]) (.agg #[.bool true, .bool true, .bool R, .bool Wr, .int .i64 (f : Int)])).run Try.prog w = .ok true w := fun w => by
    rw [ent_eqA]; simp
  clear bR bW FP FQ HM6 hb6 la lb lc ld
  by_cases h : q = p
  · subst h
    simp only [if_true]
    go_upto_region 11 with fail
    have hky := Blk.new w6 30 #[.bool true, .bool true, .bool R, .bool Wr, .int .i64 (f : Int)]
    replace hk := blk_below hk ((Below.refl w6.heap.size w6).alloc (Nat.le_refl _) (.cells #[.bool true, .bool true, .bool R, .bool Wr, .int .i64 (f : Int)] 30))
    replace HB := hide (HB.out.alloc (by omega) (.cells #[.bool true, .bool true, .bool R, .bool Wr, .int .i64 (f : Int)] 30))
    generalize hW6 : w6.alloc (.cells #[.bool true, .bool true, .bool R, .bool Wr, .int .i64 (f : Int)] 30) = W6 at *
    have e6 : w6.heap.size + 1 = W6.heap.size := by rw [← hW6]; simp
    rw [e6]
    have e61 : w6.heap.size < W6.heap.size := by omega
    have e62 : w.heap.size ≤ W6.heap.size := by omega
    clear hW6 e6
    have hkz := Blk.new W6 30 #[.bool true, .bool true, .bool R, .bool Wr, .int .i64 (f : Int)]
    replace hk := blk_below hk ((Below.refl _ _).alloc (by omega) (.cells #[.bool true, .bool true, .bool R, .bool Wr, .int .i64 (f : Int)] 30))
    replace hky := blk_below hky ((Below.refl _ _).alloc (by omega) (.cells #[.bool true, .bool true, .bool R, .bool Wr, .int .i64 (f : Int)] 30))
    replace HB := hide (HB.out.alloc (by omega) (.cells #[.bool true, .bool true, .bool R, .bool Wr, .int .i64 (f : Int)] 30))
    have e7 := hkz.lt
    generalize W6.alloc (.cells #[.bool true, .bool true, .bool R, .bool Wr, .int .i64 (f : Int)] 30) = W7 at *
    clear hM6
    obtain ⟨a0, a1, a2, a3, a4⟩ := hk.c5
    obtain ⟨b0, b1, b2, b3, b4⟩ := hky.c5
    obtain ⟨c0, c1, c2, c3, c4⟩ := hkz.c5
    clear hk hky hkz
    go_wp2_with fail
    refine (awake5 _).mono ?_
    rintro e w8 ⟨rfl, hb8⟩
    have HB8 := hide (HB.out.trans (hb8.mono (by omega)))
    clear hb8
    go_wp2
    go_ret
    exact ⟨rfl, by rw [HH.out]; exact HB8.out⟩
  · rw [if_neg h, if_neg h]
    have hpq : ((q : Int) == (p : Int)) = false := beq_eq_false_iff_ne.2 (by omega)
    go_upto_region 11 with fail
    have hky := Blk.new w6 30 #[.bool false, .bool false, .bool false, .bool false, .int .i64 0]
    replace hk := blk_below hk ((Below.refl w6.heap.size w6).alloc (Nat.le_refl _) (.cells #[.bool false, .bool false, .bool false, .bool false, .int .i64 0] 30))
    replace HB := hide (HB.out.alloc (by omega) (.cells #[.bool false, .bool false, .bool false, .bool false, .int .i64 0] 30))
    generalize hW6 : w6.alloc (.cells #[.bool false, .bool false, .bool false, .bool false, .int .i64 0] 30) = W6 at *
    have e6 : w6.heap.size + 1 = W6.heap.size := by rw [← hW6]; simp
    rw [e6]
    have e61 : w6.heap.size < W6.heap.size := by omega
    have e62 : w.heap.size ≤ W6.heap.size := by omega
    clear hW6 e6
    have hkz := Blk.new W6 30 #[.bool true, .bool true, .bool R, .bool Wr, .int .i64 (f : Int)]
    replace hk := blk_below hk ((Below.refl _ _).alloc (by omega) (.cells #[.bool true, .bool true, .bool R, .bool Wr, .int .i64 (f : Int)] 30))
    replace hky := blk_below hky ((Below.refl _ _).alloc (by omega) (.cells #[.bool true, .bool true, .bool R, .bool Wr, .int .i64 (f : Int)] 30))
    replace HB := hide (HB.out.alloc (by omega) (.cells #[.bool true, .bool true, .bool R, .bool Wr, .int .i64 (f : Int)] 30))
    have e7 := hkz.lt
    generalize W6.alloc (.cells #[.bool true, .bool true, .bool R, .bool Wr, .int .i64 (f : Int)] 30) = W7 at *
    clear hM6
    obtain ⟨a0, a1, a2, a3, a4⟩ := hk.c5
    obtain ⟨b0, b1, b2, b3, b4⟩ := hky.c5
    obtain ⟨c0, c1, c2, c3, c4⟩ := hkz.c5
    clear hk hky hkz
    go_wp2_with fail
    refine (awake5 _).mono ?_
    rintro e w8 ⟨rfl, hb8⟩
    have HB8 := hide (HB.out.trans (hb8.mono (by omega)))
    clear hb8
    go_wp2
    go_ret
    exact ⟨rfl, by rw [HH.out]; exact HB8.out⟩
end Go.Proofs.Ytpmldcgljfkpnaa
