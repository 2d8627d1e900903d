/- Chapter 7: the walk of alike. -/
import Derived.Test.YtlfenakabedmfaaRef7c
import Derived.Test.YtlfenakabedmfaaOver6
import Derived.Test.YtlfenakabedmfaaSame6
namespace Go.Proofs.Ytlfenakabedmfaa
open Go.RowKit Go.Shelf
theorem owns_below7 {w w' : World} {base : Nat} {e : TypeId} {size : Nat} {v : Value} {n : Nat} {xs : List Value} (h : w.ownsRow base e size v n xs) (hb : Below w.heap.size w w') : w'.ownsRow base e size v n xs :=
  ⟨h.1, h.2.imp id fun ⟨g, cap, cur, e1, e2, hg, r⟩ => ⟨g, cap, cur, e1, e2, (hb.block g (Array.getElem?_eq_some_iff.1 hg).1).trans hg, r⟩⟩
set_option maxRecDepth 100000 in
set_option maxHeartbeats 8000000 in
theorem alike7_any (g gb cap n : Nat) (tl : Nat → Nat) (rg rgb rcap : Nat) (rtl : Nat → Nat) (K : Nat → Core) (w : World) (hC : CoresAt w g gb cap n tl K) (hR : RCoresAt w rg rgb rcap n rtl K) (hG : GoodK n K) :
    Calls Try.prog 35 #[.pointer (some ⟨g, 0, none⟩), .pointer (some ⟨rg, 0, none⟩)] w fun e w' => e = .returned (.bool true) ∧ Below w.heap.size w w' := by
  have hn3 := hC.le
  have z0 := hR.hd0
  have HC := hide hC
  have HR := hide hR
  have HG := hide hG
  clear hC hR hG
  have hnn : ((n : Int) != (n : Int)) = false := bne_self_eq_false _
  go_enter Try.func35, Try.ntmps35
  go_upto_region 1 with fail
  go_quiet ((go_at_call 37; exact Calls.quiet_of_same ((clen_any g gb cap n tl K _ (HC.out.on (below_drewN (Below.refl _ _) _))).mono fun _ _ h => ⟨h.1, h.2.symm⟩)))
  rename_i nq
  have hb0 := below_drewN (Below.refl w.heap.size w) nq
  have HC1 := hide (HC.out.on hb0)
  have HR1 := hide (HR.out.on hb0)
  have HB1 := hide hb0
  clear hb0 z0 HC HR
  generalize w.drewN nq = wa at HC1 HR1 HB1 ⊢
  go_wp2_with fail
  go_loopw [5] (fun i wr => ∃ j : Nat, j ≤ n ∧ i = .int .i64 j ∧ CoresAt wr g gb cap n tl K ∧ RCoresAt wr rg rgb rcap n rtl K ∧ Below w.heap.size w wr) (fun i _ => n - (intOf i).toNat)
  case atStart => exact ⟨0, Nat.zero_le _, rfl, HC1.out, HR1.out, HB1.out⟩
  case round =>
    obtain ⟨j, hj, rfl, hC, hR, hB⟩ := hrel
    have HC2 := hide hC
    have HR2 := hide hR
    have HB2 := hide hB
    have z0 := hR.hd0
    clear hC hR hB HC1 HR1 HB1
    by_cases hlt : j < n
    · have i0 : (0 : Int) ≤ (j : Int) := by omega
      have i1 : (j : Int) < (n : Int) := by omega
      go_wp2_with fail
      refine (cregs_in g gb cap n tl K j _ HC2.out hlt).mono ?_
      rintro e w3 ⟨rfl, hb⟩
      have HC3 := hide (HC2.out.on hb)
      have HR3 := hide (HR2.out.on hb)
      have HB3 := hide (HB2.out.trans (hb.mono HB2.out.size))
      clear hb HC2 HR2 HB2 z0
      go_wp2_with fail
      refine (call_of g gb cap n tl K j _ HC3.out hlt).mono ?_
      rintro e w4 ⟨v, rfl, hrow, hb⟩
      obtain ⟨A1, cap1, rfl, hr1⟩ := rows_of_owns hrow
      have HC4 := hide (HC3.out.on hb)
      have hR4 := HR3.out.on hb
      have HB4 := hide (HB3.out.trans (hb.mono HB3.out.size))
      have HRow4 := hide hrow
      have HR1 := hide hr1
      have hz4 := hb.size
      have z0 := hR4.hd0
      obtain ⟨q0, q1, q2⟩ := hR4.cells j hlt
      have HT4 := hide (hR4.tlb j hlt)
      have HR4 := hide hR4
      have HS3 := hide HB3.out.size
      have HC3b := hide (fun k hk => HC3.out.lt (k := k) hk)
      have HR3b := hide (fun k hk => HR3.out.lt (k := k) hk)
      clear hb hrow hr1 HC3 HR3 hR4
      generalize w3.heap.size = B5 at *
      have hrt : ((K j).rt != (K j).rt) = false := bne_self_eq_false _
      have hsp : ((K j).sp != (K j).sp) = false := bne_self_eq_false _
      generalize (K j).rt = rt at q0 hrt ⊢
      generalize (K j).sp = sp at q1 hsp ⊢
      have HGj := hide (HG.out.good j hlt)
      go_wp2_with fail
      refine (rall6_rows _ _ _ HT4.out HGj.out).mono ?_
      rintro e w6 ⟨A2, cap2, rfl, hr2, hb⟩
      have HC6 := hide (HC4.out.on hb)
      have HR6 := hide (HR4.out.on hb)
      have HB6 := hide (HB4.out.trans (hb.mono HB4.out.size))
      have HRow6 := hide (owns_below7 HRow4.out hb)
      have HR16 := hide (HR1.out.below hb)
      have HR2' := hide hr2
      have hz6 := Nat.le_trans hz4 hb.size
      clear hb hr2 HC4 HR4 HB4 HRow4 HR1 hz4 z0 q0 q1 q2 HT4
      have hv8 := vis_len (K j).c 8
      go_wp2_with fail
      refine (sameTrans_yes _ _ _ _ _ _ _ _ _ (by omega) HR16.out HR2'.out).mono ?_
      rintro e w7 ⟨rfl, hb⟩
      have HC7 := hide (HC6.out.on hb)
      have HR7 := hide (HR6.out.on hb)
      have HB7 := hide (HB6.out.trans (hb.mono HB6.out.size))
      have HRow7 := hide (owns_below7 HRow6.out hb)
      have hz7 := Nat.le_trans hz6 hb.size
      clear hb HC6 HR6 HB6 HRow6 hz6 HR16 HR2'
      go_wp2_with fail
      refine (overTrans_any w7 B5 _ _ _ HRow7.out hz7 hv8).mono ?_
      rintro e w8 ⟨⟨u, rfl⟩, hb⟩
      have HC8 := hide (HC7.out.same fun k hk => hb.block k (HC3b.out k hk))
      have HR8 := hide (HR7.out.same fun k hk => hb.block k (HR3b.out k hk))
      have HB8 := hide (HB7.out.trans (hb.mono HS3.out))
      clear hb HC7 HR7 HB7 HRow7
      go_wp2_with fail
      go_roundw
      case rel => exact ⟨j + 1, by omega, by simp, HC8.out, HR8.out, HB8.out⟩
      case measure => simp [intOf]; omega
    · obtain rfl : j = n := by omega
      go_wp2_with fail
      refine (cregs_bad g gb cap j tl K j _ HC2.out (.inr (Int.le_refl _))).mono ?_
      rintro e w3 ⟨rfl, rfl⟩
      go_wp2_with fail
      refine (cregs_bad g gb cap j tl K (-1) _ HC2.out (.inl (by decide))).mono ?_
      rintro e w3 ⟨rfl, rfl⟩
      go_wp2_with fail
      refine (call_bad g gb cap j tl K j _ HC2.out (.inr (Int.le_refl _))).mono ?_
      rintro e w3 ⟨rfl, rfl⟩
      go_wp2_with fail
      go_ret
      exact ⟨rfl, HB2.out⟩
end Go.Proofs.Ytlfenakabedmfaa
