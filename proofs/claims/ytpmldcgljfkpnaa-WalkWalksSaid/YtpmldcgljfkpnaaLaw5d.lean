/- The walk of the statement of chapter 5: WalkWalks. -/
import Derived.Test.YtpmldcgljfkpnaaBoth
import Derived.Test.YtpmldcgljfkpnaaRef5b
namespace Go.Proofs.Ytpmldcgljfkpnaa
open Go.RowKit Go.Shelf
set_option maxHeartbeats 1000000 in
theorem rdep_nil (root page : Int) (w : World) :
    Calls Try.prog 17 #[.pointer none, .int .i64 root, .int .i64 page] w fun e w' => e = .returned (.int .i64 0) ∧ w = w' := by
  go_enter Try.func17, Try.ntmps17
  go_wp2_with fail
  refine wp_loop_rounds 4 ?_
  rw [rounds_succ]
  go_wp2_with fail
  refine (rat_nil _ _ _ _).mono ?_
  rintro e w1 ⟨rfl, rfl⟩
  go_wp2_with fail
  rw [rounds_succ]
  go_wp2_with fail
  refine (rat_nil _ _ _ _).mono ?_
  rintro e w1 ⟨rfl, rfl⟩
  go_wp2_with fail
  rw [rounds_succ]
  go_wp2_with fail
  refine (rat_nil _ _ _ _).mono ?_
  rintro e w1 ⟨rfl, rfl⟩
  go_wp2_with fail
  rw [rounds_succ]
  go_wp2_with fail
  go_ret
  exact ⟨rfl, rfl⟩
set_option maxRecDepth 100000 in
set_option maxHeartbeats 4000000 in
theorem law_WalkWalks (w : World) (fr : Int) (A : Option Addr) (n ca : Nat) (xs : Nat → Int) (r p l : Int) (_ : (Lit.int .i64 fr).wf = true) (hA : U64At w A n xs) (hn : n ≤ 9223372036854775807) (_ : (Lit.int .i64 r).wf = true) (_ : (Lit.int .i64 p).wf = true) (_ : (Lit.int .i64 l).wf = true) :
    Calls Try.prog 4 #[.int .i64 fr, .slice A n ca, .int .i64 r, .int .i64 p, .int .i64 l] w fun e w' => e = .returned (.bool true) ∧ Below w.heap.size w w' := by
  have HA := hide hA
  clear hA
  by_cases h1 : 128 < n
  · go_enter Try.func4, Try.ntmps4
    go_wp2_with fail
    refine (awake5 _).mono ?_
    rintro e w1 ⟨rfl, hb⟩
    have HB := hide hb
    clear hb
    go_wp2_with fail
    go_ret
    exact ⟨rfl, HB.out⟩
  have hn1 : n ≤ 128 := by omega
  clear hn
  by_cases hf : fr < 1 ∨ 64 < fr
  · have HF := hide hf
    clear hf
    go_enter Try.func4, Try.ntmps4
    go_wp2_with fail
    refine (both_bad fr A n ca _ HF.out).mono ?_
    rintro e w1 ⟨rfl, rfl⟩
    go_wp2_with fail
    refine (wat_nil _ _ _ _).mono ?_
    rintro e w1 ⟨rfl, hb⟩
    have HB := hide hb
    clear hb
    go_wp2_with fail
    refine (rat_nil _ _ _ _).mono ?_
    rintro e w2 ⟨rfl, rfl⟩
    go_wp2_with ((go_at_call 15; refine (num_any _ _).mono ?_; rintro e w' ⟨rfl, rfl⟩))
    refine (wdep_nil _ _ _).mono ?_
    rintro e w2 ⟨rfl, hb⟩
    replace HB := hide (HB.out.trans (hb.mono HB.out.size))
    clear hb
    go_wp2_with ((go_at_call 17; refine (rdep_nil _ _ _).mono ?_; rintro e w' ⟨rfl, rfl⟩))
    refine (awake5 _).mono ?_
    rintro e w1 ⟨rfl, hb⟩
    replace HB := hide (HB.out.trans (hb.mono HB.out.size))
    clear hb
    go_wp2_with fail
    go_ret
    exact ⟨rfl, HB.out⟩
  obtain ⟨N, rfl⟩ : ∃ N : Nat, fr = N := ⟨fr.toNat, by omega⟩
  have n1 : 1 ≤ N := by omega
  have n2 : N ≤ 64 := by omega
  clear hf
  go_enter Try.func4, Try.ntmps4
  go_wp2_with fail
  refine (both_in N A n ca xs _ n1 n2 HA.out hn1).mono ?_
  rintro e w1 ⟨g, gf, cp, rg, rf, rc, rfl, hM, hR, hB⟩
  have HM := hide hM
  have HR := hide hR
  have HB := hide hB
  clear hM hB hR
  generalize bothM N xs n = m at *
  go_wp2_with fail
  refine (wat_any g gf N cp m r p l _ HM.out).mono ?_
  rintro e w2 ⟨rfl, hb2⟩
  replace HM := hide (HM.out.on hb2)
  replace HR := hide (HR.out.on hb2)
  replace HB := hide (HB.out.trans (hb2.mono HB.out.size))
  clear hb2
  go_wp2_with fail
  refine (rat_any rg rf N rc m r p l _ HR.out).mono ?_
  rintro e w2 ⟨rfl, hb2⟩
  replace HM := hide (HM.out.on hb2)
  replace HR := hide (HR.out.on hb2)
  replace HB := hide (HB.out.trans (hb2.mono HB.out.size))
  clear hb2
  generalize (atV N m r p l).1 = a1 at *
  generalize (atV N m r p l).2 = a2 at *
  go_wp2_with ((go_at_call 15; refine (num_any _ _).mono ?_; rintro e w' ⟨rfl, rfl⟩))
  refine (wdep_any g gf N cp m r p _ HM.out).mono ?_
  rintro e w2 ⟨rfl, hb2⟩
  replace HM := hide (HM.out.on hb2)
  replace HR := hide (HR.out.on hb2)
  replace HB := hide (HB.out.trans (hb2.mono HB.out.size))
  clear hb2
  go_wp2_with fail
  refine (rdep_any rg rf N rc m r p _ HR.out).mono ?_
  rintro e w2 ⟨rfl, hb2⟩
  replace HM := hide (HM.out.on hb2)
  replace HR := hide (HR.out.on hb2)
  replace HB := hide (HB.out.trans (hb2.mono HB.out.size))
  clear hb2
  generalize depV N m r p = a3 at *
  go_wp2_with fail
  refine (wwalk_any g gf N cp m r p _ HM.out).mono ?_
  rintro e w2 ⟨rfl, hb2⟩
  replace HM := hide (HM.out.on hb2)
  replace HR := hide (HR.out.on hb2)
  replace HB := hide (HB.out.trans (hb2.mono HB.out.size))
  clear hb2
  have hE := hide (rwalk_any rg rf N rc m r p)
  obtain ⟨a, b, c, d, f, hL⟩ : ∃ (a b c d : Bool) (f : Int), wlkC N m r p = #[.bool a, .bool b, .bool c, .bool d, .int .i64 f] := by
    unfold wlkC
    split
    · exact entC_lit _ _ _
    · exact ⟨_, _, _, _, _, rfl⟩
  rw [hL] at hE ⊢
  generalize wlkE N m r p = q at *
  have hk := Blk.new w2 30 #[.bool a, .bool b, .bool c, .bool d, .int .i64 f]
  have HR2 := hide (HR.out.on ((Below.refl _ w2).alloc (Nat.le_refl _) (.cells #[.bool a, .bool b, .bool c, .bool d, .int .i64 f] 30)))
  replace HB := hide (HB.out.alloc HB.out.size (.cells #[.bool a, .bool b, .bool c, .bool d, .int .i64 f] 30))
  clear hL HM HR
  go_wp2_with fail
  refine (hE.out _ HR2.out).mono ?_
  rintro e w3 ⟨rfl, hb3⟩
  replace hk := blk_below hk hb3
  have hky := Blk.new w3 30 #[.bool a, .bool b, .bool c, .bool d, .int .i64 f]
  replace hk := hk.alloc (.cells #[.bool a, .bool b, .bool c, .bool d, .int .i64 f] 30)
  replace HB := hide (HB.out.trans (hb3.mono HB.out.size))
  replace HB := hide (HB.out.alloc HB.out.size (.cells #[.bool a, .bool b, .bool c, .bool d, .int .i64 f] 30))
  clear hb3 HR2 hE
  obtain ⟨d0, d1, d2, d3, d4⟩ := hk.c5
  obtain ⟨e0, e1, e2, e3, e4⟩ := hky.c5
  have heq := fun W => ent_eqA a b c d a b c d f f W
  simp only [BEq.rfl, Bool.and_self] at heq
  go_wp2_with ((go_at_call 15; refine (num_any _ _).mono ?_; rintro e w' ⟨rfl, rfl⟩))
  refine (awake5 _).mono ?_
  rintro e w1 ⟨rfl, hb⟩
  replace HB := hide (HB.out.trans (hb.mono HB.out.size))
  clear hb
  go_wp2_with fail
  go_ret
  exact ⟨rfl, HB.out⟩
end Go.Proofs.Ytpmldcgljfkpnaa
