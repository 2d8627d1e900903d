/- The walks of the statements of chapter 5: WalkChain, WalkKeeps. -/
import Derived.Test.YtpmldcgljfkpnaaBoth
import Derived.Test.YtpmldcgljfkpnaaSame2
namespace Go.Proofs.Ytpmldcgljfkpnaa
open Go.RowKit Go.Shelf
theorem chain_plain {m : Nat → Int} {r p : Nat} (hr : r < 16) (hp : p < 512) : ∃ d : Nat, depV 16 m r p = d ∧ 1 ≤ d ∧ d ≤ 3 ∧ (∀ k : Nat, 1 ≤ k → k ≤ 3 → ((atV 16 m r p k).2 == 0) = decide (k ≤ d)) ∧ (wlkE 16 m r p = 0 → d = 3) := by
  have b : ∀ k : Nat, 1 ≤ k → k ≤ 3 → badV 16 (r : Int) (p : Int) (k : Int) = 0 := fun k h1 h2 => by unfold badV; rw [if_neg (by omega)]
  have hA : ∀ k : Nat, 1 ≤ k → k ≤ 3 → atV 16 m r p k = atF 16 m r p k := fun k h1 h2 => by unfold atV; rw [if_pos (b k h1 h2)]; rfl
  refine ⟨depF 16 m r p, ?_, ?_⟩
  · unfold depV; rw [show (1 : Int) = ((1 : Nat) : Int) from rfl, if_pos (b 1 (by omega) (by omega))]; rfl
  have e1 : depF 16 m r p = if erN 16 m r p 1 = 0 then (if erN 16 m r p 2 = 0 then 3 else 2) else 1 := rfl
  have w3 : wlkE 16 m r p = if (atF 16 m r p 3).2 = 0 then entE 16 (m ((atF 16 m r p 3).1 / 8).toNat) true else (atF 16 m r p 3).2 := by
    unfold wlkE; rw [show (3 : Int) = ((3 : Nat) : Int) from rfl, hA 3 (by omega) (by omega)]
  rw [e1]
  have k3 : ∀ k : Nat, 1 ≤ k → k ≤ 3 → k = 1 ∨ k = 2 ∨ k = 3 := fun k _ _ => by omega
  by_cases h1 : erN 16 m r p 1 = 0
  · by_cases h2 : erN 16 m r p 2 = 0
    · rw [if_pos h1, if_pos h2]
      refine ⟨by omega, by omega, fun k a b' => ?_, fun _ => rfl⟩
      rw [hA k a b']
      rcases k3 k a b' with rfl | rfl | rfl
      · rfl
      · rw [atF_2, if_pos h1]; rfl
      · rw [atF_3, if_pos h1, if_pos h2]; rfl
    · rw [if_pos h1, if_neg h2]
      refine ⟨by omega, by omega, fun k a b' => ?_, fun h => ?_⟩
      · rw [hA k a b']
        rcases k3 k a b' with rfl | rfl | rfl
        · rfl
        · rw [atF_2, if_pos h1]; rfl
        · rw [atF_3, if_pos h1, if_neg h2]; exact (beq_eq_false_iff_ne.2 h2)
      · rw [w3, atF_3, if_pos h1, if_neg h2, if_neg h2] at h
        exact absurd h h2
  · rw [if_neg h1]
    refine ⟨by omega, by omega, fun k a b' => ?_, fun h => ?_⟩
    · rw [hA k a b']
      rcases k3 k a b' with rfl | rfl | rfl
      · rfl
      · rw [atF_2, if_neg h1]; exact (beq_eq_false_iff_ne.2 h1)
      · rw [atF_3, if_neg h1]; exact (beq_eq_false_iff_ne.2 h1)
    · rw [w3, atF_3, if_neg h1, if_neg h1] at h
      exact absurd h h1
set_option maxRecDepth 100000 in
set_option maxHeartbeats 4000000 in
theorem law_WalkChain (w : World) (A : Option Addr) (n ca : Nat) (xs : Nat → Int) (r p : Int) (hA : U64At w A n xs) (hn : n ≤ 9223372036854775807) (_ : (Lit.int .i64 r).wf = true) (_ : (Lit.int .i64 p).wf = true) :
    Calls Try.prog 5 #[.slice A n ca, .int .i64 r, .int .i64 p] w fun e w' => e = .returned (.bool true) ∧ Below w.heap.size w w' := by
  have HA := hide hA
  clear hA
  by_cases h1 : 128 < n
  · go_enter Try.func5, Try.ntmps5
    go_wp2_with fail
    refine (awake5 _).mono ?_
    rintro e w1 ⟨rfl, hb⟩
    have HB := hide hb
    clear hb
    go_wp2_with fail
    go_ret
    exact ⟨rfl, HB.out⟩
  have hn1 : n ≤ 128 := by omega
  clear hn
  have qr := low_bd r (n := 16) (by omega)
  have qp := low_bd p (n := 512) (by omega)
  have lr := hide (fun W => low_any r 16 W (by omega) (by omega))
  have lp := hide (fun W => low_any p 512 W (by omega) (by omega))
  obtain ⟨r', hr⟩ : ∃ p : Nat, lowV r 16 = p := ⟨(lowV r 16).toNat, by omega⟩
  obtain ⟨p', hp⟩ : ∃ q : Nat, lowV p 512 = q := ⟨(lowV p 512).toNat, by omega⟩
  rw [hr] at qr lr; rw [hp] at qp lp
  clear hr hp
  have r1 : r' < 16 := by omega
  have p1 : p' < 512 := by omega
  clear qr qp
  go_enter Try.func5, Try.ntmps5
  go_wp2_with fail
  refine (lr.out _).mono ?_
  rintro e w' ⟨rfl, rfl⟩
  go_wp2_with fail
  refine (lp.out _).mono ?_
  rintro e w' ⟨rfl, rfl⟩
  go_wp2_with fail
  refine (both_in 16 A n ca xs _ (by decide) (by decide) HA.out hn1).mono ?_
  rintro e w1 ⟨g, gf, cp, rg, rf, rc, rfl, hM, _, hB⟩
  have HM := hide hM
  have HB := hide hB
  clear hM hB
  go_wp2_with fail
  refine (wdep_any g gf 16 cp _ (r' : Int) (p' : Int) _ HM.out).mono ?_
  rintro e w2 ⟨rfl, hb2⟩
  obtain ⟨d, hd, d1, d3, hk, hw⟩ := chain_plain (m := bothM 16 xs n) r1 p1
  rw [hd]
  have HK := hide hk
  have HW := hide hw
  clear hk hw hd
  have HM2 := hide (HM.out.on hb2)
  have HB2 := hide (HB.out.trans (hb2.mono HB.out.size))
  clear hb2 HM HB lr lp HA
  generalize bothM 16 xs n = m at *
  go_wp2_with fail
  go_loopw [10, 11, 12] (fun i _ _ wr => ∃ j : Nat, 1 ≤ j ∧ j ≤ 4 ∧ i = .int .i64 j ∧ MemAt wr g gf 16 cp m ∧ Below w.heap.size w wr) (fun i _ _ _ => 4 - (intOf i).toNat)
  case atStart => exact ⟨1, by omega, by omega, rfl, HM2.out, HB2.out⟩
  case round =>
    obtain ⟨j, j1, j4, rfl, hm, hb⟩ := hrel
    have HM3 := hide hm
    have HB3 := hide hb
    clear hm hb
    by_cases hlt : j ≤ 3
    · have hkj := HK.out j j1 hlt
      go_wp2_with fail
      refine (wat_any g gf 16 cp m r' p' j _ HM3.out).mono ?_
      rintro e w4 ⟨rfl, hb4⟩
      have HM4 := hide (HM3.out.on hb4)
      have HB4 := hide (HB3.out.trans (hb4.mono HB3.out.size))
      clear hb4 HM3 HB3
      generalize (atV 16 m (r' : Int) (p' : Int) (j : Int)).2 = q at *
      generalize (atV 16 m (r' : Int) (p' : Int) (j : Int)).1 = q1 at *
      by_cases hle : j ≤ d
      · obtain rfl : q = 0 := by simpa [hle] using hkj
        clear hkj
        go_wp2_with fail
        go_roundw
        case rel => exact ⟨j + 1, by omega, by omega, by simp, HM4.out, HB4.out⟩
        case measure => simp [intOf]; omega
      · have hq : (q == 0) = false := by simpa [hle] using hkj
        clear hkj
        go_wp2_with fail
        go_roundw
        case rel => exact ⟨j + 1, by omega, by omega, by simp, HM4.out, HB4.out⟩
        case measure => simp [intOf]; omega
    · go_wp2_with fail
      refine (wwalk_any g gf 16 cp m r' p' _ HM3.out).mono ?_
      rintro e w5 ⟨rfl, hb5⟩
      obtain ⟨a, b, c, d', f, hL⟩ : ∃ (a b c d : Bool) (f : Int), wlkC 16 m r' p' = #[.bool a, .bool b, .bool c, .bool d, .int .i64 f] := by
        unfold wlkC
        split
        · exact entC_lit _ _ _
        · exact ⟨_, _, _, _, _, rfl⟩
      rw [hL]
      have HB5 := hide (HB3.out.trans (hb5.mono HB3.out.size))
      clear hb5 hL
      have HB6 := hide (HB5.out.alloc HB5.out.size (.cells #[.bool a, .bool b, .bool c, .bool d', .int .i64 f] 30))
      by_cases h0 : wlkE 16 m r' p' = 0
      · rw [h0]
        obtain rfl : d = 3 := HW.out h0
        go_wp2_with fail
        refine (awake5 _).mono ?_
        rintro e w8 ⟨rfl, hb8⟩
        have HB8 := hide (HB6.out.trans (hb8.mono HB6.out.size))
        clear hb8
        go_wp2
        go_ret
        exact ⟨rfl, HB8.out⟩
      · generalize wlkE 16 m r' p' = q at *
        have hq2 : (q != 0) = true := bne_iff_ne.2 h0
        clear h0
        have hd : d = 1 ∨ d = 2 ∨ d = 3 := by omega
        clear HK HW d1 d3
        rcases hd with rfl | rfl | rfl
        all_goals
          go_wp2_with fail
          refine (awake5 _).mono ?_
          rintro e w8 ⟨rfl, hb8⟩
          have HB8 := hide (HB6.out.trans (hb8.mono HB6.out.size))
          clear hb8
          go_wp2
          go_ret
          exact ⟨rfl, HB8.out⟩
end Go.Proofs.Ytpmldcgljfkpnaa
