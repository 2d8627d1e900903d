/- The walks of the statements of chapter 7: awake, CoresNone. -/
import Derived.Test.YtlfenakabedmfaaCores6
import Derived.Test.YtlfenakabedmfaaRef2
import Derived.Test.YtlfenakabedmfaaLaw0
import Derived.ChangeKeysEq
namespace Go.Proofs.Ytlfenakabedmfaa
open Go.RowKit Go.Shelf
theorem tr_eqA (a b c : Int) (d e : Bool) (a' b' c' : Int) (d' e' : Bool) (w : World) : (Op.equalIn 10000 42 (.agg #[.int .i64 a, .int .i64 b, .int .i64 c, .bool d, .bool e]) (.agg #[.int .i64 a', .int .i64 b', .int .i64 c', .bool d', .bool e'])).run Try.prog w = .ok (a == a' && (b == b' && (c == c' && (d == d' && e == e')))) w := by
  go_simp
  (repeat' split) <;> simp_all
def aw7 : Nat → Int := storeV 4 (storeV 4 (storeV 4 (fun _ => 0) 0 257) 64 513) 128 775
theorem aw7_w : trV 2 (upd (fun _ => core0) 0 ⟨0, 1, Cache.empty⟩) 4 aw7 0 0 = (⟨1, 0, 3, true, false⟩, false, 0) := by kernel_rfl
set_option maxRecDepth 100000 in
set_option maxHeartbeats 2000000 in
theorem awake7 (w : World) : Calls Try.prog 13 #[] w fun e w' => e = .returned (.bool true) ∧ Below w.heap.size w w' := by
  have HW := hide aw7_w
  go_enter Try.func13, Try.ntmps13
  go_wp2_with fail
  refine (cnew_in 2 _ (by decide) (by decide)).mono ?_
  rintro e w1 ⟨gb, cap, tl, rfl, hC, hS, hB⟩
  generalize hH : w.heap.size = H at *
  have HH := hide hH
  have HB := hide hB
  have HC := hide hC
  have HS := hide hS
  clear hH hB hC hS
  go_wp2_with fail
  refine (new_in 4 _ (by decide) (by decide)).mono ?_
  rintro e w2 ⟨rfl, hM, hb⟩
  have hz1 := HB.out.size
  generalize hgf : w1.heap.size = gf at *
  replace HC := hide (HC.out.on (hgf ▸ hb))
  replace HB := hide (HB.out.trans (hb.mono (Nat.le_trans (Nat.le_of_eq HH.out.symm) hz1)))
  have HM := hide hM
  have hlt : H ≤ gf := Nat.le_trans (Nat.le_of_eq HH.out.symm) hz1
  clear hb hM hgf hz1
  go_wp2_with fail
  refine (cset_yes H gb cap 2 tl _ 0 0 1 _ HC.out (by decide) (by decide)).mono ?_
  rintro e w3 ⟨rfl, hC, hm⟩
  replace HM := hide (HM.out.crS HC.out (Mod.cr hm))
  replace HB := hide (below_mod HB.out (Nat.le_of_eq HH.out.symm) hm (fun k hk => HS.out k (.inr (.inl hk))))
  replace HC := hide hC
  clear hC hm
  go_wp2_with fail
  refine (pstore_any (gf + 1) gf 4 4 _ 0 257 _ HM.out (by decide) (by decide)).mono ?_
  rintro e w4 ⟨rfl, hM, hm⟩
  replace HC := hide (HC.out.store HM.out hm)
  replace HB := hide (below_mod HB.out (Nat.le_of_eq HH.out.symm) hm (fun k hk => by have hk' : k = gf := hk; omega))
  replace HM := hide hM
  clear hM hm
  go_wp2_with fail
  refine (pstore_any (gf + 1) gf 4 4 _ 64 513 _ HM.out (by decide) (by decide)).mono ?_
  rintro e w5 ⟨rfl, hM, hm⟩
  replace HC := hide (HC.out.store HM.out hm)
  replace HB := hide (below_mod HB.out (Nat.le_of_eq HH.out.symm) hm (fun k hk => by have hk' : k = gf := hk; omega))
  replace HM := hide hM
  clear hM hm
  go_wp2_with fail
  refine (pstore_any (gf + 1) gf 4 4 _ 128 775 _ HM.out (by decide) (by decide)).mono ?_
  rintro e w6 ⟨rfl, hM, hm⟩
  replace HC := hide (HC.out.store HM.out hm)
  replace HB := hide (below_mod HB.out (Nat.le_of_eq HH.out.symm) hm (fun k hk => by have hk' : k = gf := hk; omega))
  replace HM := hide (show MemAt w6 (gf + 1) gf 4 4 aw7 from hM)
  clear hM hm
  go_wp2_with fail
  refine (ctrans_any H gb cap 2 tl _ (gf + 1) gf 4 4 aw7 0 0 _ HC.out HM.out (fun i _ => by unfold upd; split <;> exact Good.empty.ok)).mono ?_
  rintro e w7 ⟨rfl, hC, hm⟩
  rw [show trV 2 (upd (fun _ => core0) 0 ⟨0, 1, (core0).c⟩) 4 aw7 0 0 = (⟨1, 0, 3, true, false⟩, false, 0) from HW.out]
  replace HB := hide (below_mod HB.out (Nat.le_of_eq HH.out.symm) hm HS.out)
  have hb := (Below.refl _ w7).alloc (Nat.le_refl _) (.cells #[.int .i64 1, .int .i64 0, .int .i64 3, .bool true, .bool false] 42)
  replace HC := hide (hC.on hb)
  replace HB := hide (HB.out.trans (hb.mono (Nat.le_trans (Nat.le_of_eq HH.out.symm) HB.out.size)))
  have hk := Blk.new w7 42 #[.int .i64 1, .int .i64 0, .int .i64 3, .bool true, .bool false]
  obtain ⟨d0, d1, d2, d3, d4⟩ := hk.c5
  clear hC hm hb HM
  unfold Tr.row
  dsimp only
  have heq := fun W => tr_eqA 1 0 3 true false 1 0 3 true false W
  simp only [BEq.rfl, Bool.and_self] at heq
  go_wp2_with ((go_at_call 37; refine (clen_any _ _ _ _ _ _ _ HC.out).mono ?_; rintro e w' ⟨rfl, rfl⟩))
  go_ret
  exact ⟨rfl, by rw [HH.out]; exact HB.out⟩
set_option maxRecDepth 100000 in
set_option maxHeartbeats 2000000 in
theorem law_CoresNone (k p : Int) (_ : (Lit.int .i64 k).wf = true) (_ : (Lit.int .i64 p).wf = true) (w : World) : Calls Try.prog 10 #[.int .i64 k, .int .i64 p] w fun e w' => e = .returned (.bool true) ∧ Below w.heap.size w w' := by
  go_enter Try.func10, Try.ntmps10
  go_wp2_with fail
  refine (new_in 1 _ (by decide) (by decide)).mono ?_
  rintro e w1 ⟨rfl, _, hb⟩
  have HB := hide hb
  clear hb
  go_wp2_with fail
  refine (ctrans_nil _ k p _).mono ?_
  rintro e w2 ⟨rfl, hb⟩
  replace HB := hide (HB.out.trans (hb.mono HB.out.size))
  replace HB := hide (HB.out.alloc HB.out.size (.cells #[.int .i64 0, .int .i64 0, .int .i64 0, .bool false, .bool false] 42))
  have hk := Blk.new w2 42 #[.int .i64 0, .int .i64 0, .int .i64 0, .bool false, .bool false]
  obtain ⟨d0, d1, d2, d3, d4⟩ := hk.c5
  clear hb
  unfold Tr.zero Tr.row
  dsimp only
  have heq := fun W => tr_eqA 0 0 0 false false 0 0 0 false false W
  simp only [BEq.rfl, Bool.and_self] at heq
  go_wp2_with (first | (go_at_call 36; refine (cregs_nil _ _).mono ?_; rintro e w' ⟨rfl, rfl⟩) | (go_at_call 17; refine (cset_nil _ _ _ _).mono ?_; rintro e w' ⟨rfl, rfl⟩))
  refine (cpre_nil _ k p _).mono ?_
  rintro e w3 ⟨rfl, hb⟩
  replace HB := hide (HB.out.trans (hb.mono HB.out.size))
  clear hb d0 d1 d2 d3 d4 hk heq
  go_wp2_with (first | (go_at_call 21; refine (cevict_nil _ _ _ _).mono ?_; rintro e w' ⟨rfl, rfl⟩))
  refine (cdropPage_nil _ _ _).mono ?_
  rintro e w4 ⟨rfl, hb⟩
  replace HB := hide (HB.out.trans (hb.mono HB.out.size))
  clear hb
  go_wp2_with fail
  refine (cdropSpace_nil _ _).mono ?_
  rintro e w5 ⟨rfl, hb⟩
  replace HB := hide (HB.out.trans (hb.mono HB.out.size))
  clear hb
  go_wp2_with (first | (go_at_call 37; refine (clen_nil _).mono ?_; rintro e w' ⟨rfl, rfl⟩) | (go_at_call 20; refine (call_nil _ _).mono ?_; rintro e w' ⟨rfl, rfl⟩))
  refine (awake7 _).mono ?_
  rintro e w6 ⟨rfl, hb⟩
  replace HB := hide (HB.out.trans (hb.mono HB.out.size))
  clear hb
  go_wp2_with fail
  go_ret
  exact ⟨rfl, HB.out⟩
end Go.Proofs.Ytlfenakabedmfaa
