/- The walk of PhysKeeps: it returns true. -/
import Derived.Test.YtfjhchcnhmafkaaLaw2b
namespace Go.Proofs.Ytfjhchcnhmafkaa
open Go.RowKit
theorem storeV_in {n : Nat} {m : Nat → Int} {v : Int} {q : Nat} (h : q < 8 * n) : storeV n m (8 * (q : Int)) v = fun i => if i = q then v else m i := by
  unfold storeV
  have e : (8 * (q : Int) / 8).toNat = q := by omega
  rw [if_pos (adr_of h), e]
theorem at_word2 {a : Int} (h : 0 ≤ a) (c : Nat) (hc : 0 < c) : ∃ j : Nat, a % (8 * (c : Int)) / 8 * 8 = 8 * (j : Int) ∧ j < c := by
  obtain ⟨k, rfl⟩ := Int.eq_ofNat_of_zero_le h
  refine ⟨k % (8 * c) / 8, ?_, ?_⟩
  · have e : ((k % (8 * c) / 8 : Nat) : Int) = (k : Int) % (8 * (c : Int)) / 8 := by push_cast; rfl
    rw [e]
    omega
  · have := Nat.mod_lt k (show 0 < 8 * c by omega)
    omega
set_option maxRecDepth 100000 in
set_option maxHeartbeats 4000000 in
theorem law_PhysKeeps (w : World) (A : Option Addr) (n ca : Nat) (xs : Nat → ActC) (a v f k : Int) (hA : ActsAt w A n xs) (hn : n ≤ 9223372036854775807) (ha : (Lit.int .u64 a).wf = true) (hv : (Lit.int .u64 v).wf = true) (_ : (Lit.int .i64 f).wf = true) (_ : (Lit.int .i64 k).wf = true) :
    Calls Try.prog 5 #[.slice A n ca, .int .u64 a, .int .u64 v, .int .i64 f, .int .i64 k] w fun e w' => e = .returned (.bool true) ∧ Below w.heap.size w w' := by
  obtain ⟨a0, a1⟩ := wfu ha
  have hv2 := wfu hv
  have HA := hide hA
  have HV2 := hide hv2
  clear hA hv2 ha hv
  by_cases h1 : 100 < n
  · go_enter Try.func5, Try.ntmps5
    go_wp2_with fail
    refine (awake2 _).mono ?_
    rintro e w1 ⟨rfl, hb⟩
    have HB := hide hb
    clear hb
    go_wp2_with fail
    go_ret
    exact ⟨rfl, HB.out⟩
  have hn1 : n ≤ 100 := by omega
  obtain ⟨qa, hqa, hqa8⟩ := at_word2 a0 128 (by decide)
  rw [show (8 * ((128 : Nat) : Int)) = 1024 from rfl] at hqa
  have HQA := hide hqa
  obtain ⟨fN, hfN⟩ := Int.eq_ofNat_of_zero_le (low_bd f (n := 16) (by decide)).1
  obtain ⟨kN, hkN⟩ := Int.eq_ofNat_of_zero_le (low_bd k (n := 4) (by decide)).1
  have hf16 : fN < 16 := by have := (low_bd f (n := 16) (by decide)).2; omega
  have hk4 : kN < 4 := by have := (low_bd k (n := 4) (by decide)).2; omega
  have HFN := hide hfN
  have HKN := hide hkN
  clear hqa hfN hkN
  go_enter Try.func5, Try.ntmps5
  go_wp2_with fail
  refine (new_in 16 _ (by decide) (by decide)).mono ?_
  rintro e w1 ⟨rfl, hM, hb⟩
  have HM := hide hM
  have HB := hide hb
  clear hM hb
  go_wp2_with fail
  go_loopw [13] (fun i wr => ∃ (j : Nat) (m : Nat → Int), j ≤ n ∧ i = .int .i64 j ∧ MemAt wr (w.heap.size + 1) w.heap.size 16 16 m ∧ Below w.heap.size w wr) (fun i _ => n - (intOf i).toNat)
  case atStart => exact ⟨0, _, Nat.zero_le _, rfl, HM.out, HB.out⟩
  case round =>
    obtain ⟨j, m, hj, rfl, hM, hb⟩ := hrel
    have HM2 := hide hM
    have HB2 := hide hb
    clear hM hb
    by_cases hlt : j < n
    · obtain ⟨b, off, rfl, hbl, hc⟩ := HA.out.resolve_left (by omega)
      obtain ⟨⟨_, c1, c2, _, _⟩, ⟨ha0, ha1⟩, hv⟩ := hc j hlt
      rw [← cell_below HB2.out hbl] at c1 c2
      obtain ⟨q, hq, hq8⟩ := at_word ha0 ha1 128 (by decide) (by decide)
      rw [show (8 * ((128 : Nat) : Int)) = 1024 from rfl] at hq
      have HQ := hide hq
      have HV := hide hv
      have ij1 : (0 : Int) ≤ (j : Int) := by omega
      have ij2 : (j : Int) < (n : Int) := by omega
      clear hc hq hv
      go_wp2_with fail
      go_region_held3 (fun w' => w'.cell? ⟨b, off + j * 5 + 1, none⟩ = some (.int .u64 (xs j).a) ∧ w'.cell? ⟨b, off + j * 5 + 2, none⟩ = some (.int .u64 (xs j).v)) (first | go_keep | (exact ⟨hq1, hq2⟩)) ((go_at_call 21; rw [HQ.out]; refine (pstore_any _ _ _ _ _ _ _ _ (HM2.out.below (B := wr.heap.size) ((Below.refl _ _).drew) HM2.out.hd.lt HM2.out.ltf) (by omega) HV.out).mono ?_; rintro e w2 ⟨rfl, hM3, hm3⟩; have hq1 := (hm3.cell (show ¬ b = w.heap.size by omega) (o := off + j * 5 + 1) (Nat.lt_of_lt_of_le hbl HB2.out.size)).trans c1; have hq2 := (hm3.cell (show ¬ b = w.heap.size by omega) (o := off + j * 5 + 2) (Nat.lt_of_lt_of_le hbl HB2.out.size)).trans c2))
      go_wp2
      go_roundw
      case rel => exact ⟨j + 1, _, by omega, by simp, hM3, below_mod HB2.out (Nat.le_refl _) (S := (· = w.heap.size)) (hm3.of_drew) (fun k e => by omega)⟩
      case measure => simp [intOf]; omega
    · go_wp2_with fail
      refine (copy_in _ _ _ _ _ _ HM2.out).mono ?_
      rintro e w2 ⟨gc, fc, cc, rfl, hc, hgc, hfc, hb2⟩
      have HC := hide hc
      have HM3 := hide (HM2.out.below hb2 HM2.out.hd.lt HM2.out.ltf)
      have HB3 := hide (HB2.out.trans (hb2.mono HB2.out.size))
      have hz := HM2.out.hd.lt
      clear hc hb2
      go_wp2_with fail
      rw [HQA.out]
      refine (pstore_any _ _ _ _ _ _ _ _ HC.out (by omega) HV2.out).mono ?_
      rintro e w3 ⟨rfl, hc, hm3⟩
      rw [adr_of (by omega)]
      rw [storeV_in (by omega)] at hc
      have HC3 := hide hc
      have HM4 := hide (HM3.out.mod hm3 (by omega) (by omega))
      have HB4 := hide (below_mod HB3.out (Nat.le_refl _) (S := (· = fc)) hm3 (fun k e => by omega))
      have l1 := HC3.out.hd.lt
      have l2 := HC3.out.ltf
      clear hc hm3
      go_wp2_with fail
      refine (low_any _ _ _ (by decide) (by decide)).mono ?_
      rintro e w' ⟨rfl, rfl⟩
      rw [HFN.out]
      go_wp2_with fail
      refine (low_any _ _ _ (by decide) (by decide)).mono ?_
      rintro e w' ⟨rfl, rfl⟩
      rw [HKN.out]
      go_wp2_with fail
      refine (copy_in _ _ _ _ _ _ HM4.out).mono ?_
      rintro e w4 ⟨gd, fd, cd, rfl, hd, hgd, hfd, hb4⟩
      have HD := hide hd
      have HM5 := hide (HM4.out.below hb4 HM4.out.hd.lt HM4.out.ltf)
      have HC5 := hide (HC3.out.below hb4 l1 l2)
      have HB5 := hide (HB4.out.trans (hb4.mono HB4.out.size))
      have hz4 := HM4.out.hd.lt
      clear hd hb4
      go_wp2_with fail
      refine (zero_any _ _ _ _ _ _ _ _ HD.out).mono ?_
      rintro e w5 ⟨rfl, hd, hm5⟩
      have HM6 := hide (HM5.out.mod hm5 (by omega) (by omega))
      have HC6 := hide (HC5.out.mod hm5 (by omega) (by omega))
      have HB6 := hide (below_mod HB5.out (Nat.le_refl _) (S := (· = fd)) hm5 (fun k e => by omega))
      have HD6 := hide hd
      clear hd hm5
      obtain ⟨md, hmd⟩ : ∃ md, zeroV 16 m (fN : Int) (kN : Int) = md := ⟨_, rfl⟩
      rw [hmd] at HD6
      by_cases hz16 : fN + kN ≤ 16
      · have e1 : zeroErr 16 (fN : Int) (kN : Int) = 0 := by unfold zeroErr; rw [if_neg (by omega)]
        have hmd2 : ∀ i, md i = if 8 * fN ≤ i ∧ i < 8 * (fN + kN) then 0 else m i := fun i => by rw [← hmd]; unfold zeroV; rw [if_pos e1]; rfl
        rw [e1]
        have HMD := hide hmd2
        clear hmd hmd2 e1
        go_wp2_with fail
        go_loopw [18] (fun i wr => ∃ j : Nat, j ≤ 128 ∧ i = .int .u64 (8 * (j : Int)) ∧ MemAt wr (w.heap.size + 1) w.heap.size 16 16 m ∧ MemAt wr gc fc 16 cc (fun i => if i = qa then v else m i) ∧ MemAt wr gd fd 16 cd md ∧ Below w.heap.size w wr) (fun i _ => 1024 - (intOf i).toNat)
        case atStart => exact ⟨0, Nat.zero_le _, rfl, HM6.out, HC6.out, HD6.out, HB6.out⟩
        case round =>
          obtain ⟨j, hj, rfl, hm, hc, hd, hb⟩ := hrel
          have HM7 := hide hm
          have HC7 := hide hc
          have HD7 := hide hd
          have HB7 := hide hb
          clear hm hc hd hb
          by_cases hlt : j < 128
          · by_cases hin : 8 * fN ≤ j ∧ j < 8 * (fN + kN)
            · have HX : Hid (md j = 0) := (HMD.out j).trans (if_pos hin)
              have hg1 : (fN : Int) ≤ 8 * (j : Int) / 64 := by omega
              have hg2 : 8 * (j : Int) / 64 < (fN : Int) + (kN : Int) := by omega
              by_cases hjq : j = qa
              · have eb : ((8 * (j : Int)) == 8 * (qa : Int)) = true := by rw [hjq]; simp
                have ebn : ((8 * (j : Int)) != 8 * (qa : Int)) = false := by rw [hjq]; simp
                have HJQ := hide hjq
                clear hjq
                go_wp2_with fail
                refine (load_in _ _ _ _ _ _ _ HM7.out (by omega)).mono ?_
                rintro e w' ⟨rfl, rfl⟩
                go_wp2_with fail
                refine (load_in _ _ _ _ _ _ _ HC7.out (by omega)).mono ?_
                rintro e w' ⟨rfl, rfl⟩
                rw [if_pos HJQ.out]
                go_wp2_with fail
                refine (load_in _ _ _ _ _ _ _ HD7.out (by omega)).mono ?_
                rintro e w' ⟨rfl, rfl⟩
                rw [HX.out]
                go_wp2_with fail
                go_roundw
                case rel => exact ⟨j + 1, by omega, by simp; omega, HM7.out, HC7.out, HD7.out, HB7.out⟩
                case measure => simp [intOf]; omega
              · have eb : ((8 * (j : Int)) == 8 * (qa : Int)) = false := by rw [beq_eq_false_iff_ne]; omega
                have ebn : ((8 * (j : Int)) != 8 * (qa : Int)) = true := by rw [bne_iff_ne]; omega
                have HJQ := hide hjq
                clear hjq
                go_wp2_with fail
                refine (load_in _ _ _ _ _ _ _ HM7.out (by omega)).mono ?_
                rintro e w' ⟨rfl, rfl⟩
                go_wp2_with fail
                refine (load_in _ _ _ _ _ _ _ HC7.out (by omega)).mono ?_
                rintro e w' ⟨rfl, rfl⟩
                rw [if_neg HJQ.out]
                go_wp2_with fail
                refine (load_in _ _ _ _ _ _ _ HD7.out (by omega)).mono ?_
                rintro e w' ⟨rfl, rfl⟩
                rw [HX.out]
                go_wp2_with fail
                go_roundw
                case rel => exact ⟨j + 1, by omega, by simp; omega, HM7.out, HC7.out, HD7.out, HB7.out⟩
                case measure => simp [intOf]; omega
            · have HX : Hid (md j = m j) := (HMD.out j).trans (if_neg hin)
              by_cases hg1 : (fN : Int) ≤ 8 * (j : Int) / 64
              · have hg2 : ¬ 8 * (j : Int) / 64 < (fN : Int) + (kN : Int) := by omega
                by_cases hjq : j = qa
                · have eb : ((8 * (j : Int)) == 8 * (qa : Int)) = true := by rw [hjq]; simp
                  have ebn : ((8 * (j : Int)) != 8 * (qa : Int)) = false := by rw [hjq]; simp
                  have HJQ := hide hjq
                  clear hjq
                  go_wp2_with fail
                  refine (load_in _ _ _ _ _ _ _ HM7.out (by omega)).mono ?_
                  rintro e w' ⟨rfl, rfl⟩
                  go_wp2_with fail
                  refine (load_in _ _ _ _ _ _ _ HC7.out (by omega)).mono ?_
                  rintro e w' ⟨rfl, rfl⟩
                  rw [if_pos HJQ.out]
                  go_wp2_with fail
                  refine (load_in _ _ _ _ _ _ _ HD7.out (by omega)).mono ?_
                  rintro e w' ⟨rfl, rfl⟩
                  rw [HX.out]
                  go_wp2_with fail
                  go_roundw
                  case rel => exact ⟨j + 1, by omega, by simp; omega, HM7.out, HC7.out, HD7.out, HB7.out⟩
                  case measure => simp [intOf]; omega
                · have eb : ((8 * (j : Int)) == 8 * (qa : Int)) = false := by rw [beq_eq_false_iff_ne]; omega
                  have ebn : ((8 * (j : Int)) != 8 * (qa : Int)) = true := by rw [bne_iff_ne]; omega
                  have HJQ := hide hjq
                  clear hjq
                  go_wp2_with fail
                  refine (load_in _ _ _ _ _ _ _ HM7.out (by omega)).mono ?_
                  rintro e w' ⟨rfl, rfl⟩
                  go_wp2_with fail
                  refine (load_in _ _ _ _ _ _ _ HC7.out (by omega)).mono ?_
                  rintro e w' ⟨rfl, rfl⟩
                  rw [if_neg HJQ.out]
                  go_wp2_with fail
                  refine (load_in _ _ _ _ _ _ _ HD7.out (by omega)).mono ?_
                  rintro e w' ⟨rfl, rfl⟩
                  rw [HX.out]
                  go_wp2_with fail
                  go_roundw
                  case rel => exact ⟨j + 1, by omega, by simp; omega, HM7.out, HC7.out, HD7.out, HB7.out⟩
                  case measure => simp [intOf]; omega
              · skip
                by_cases hjq : j = qa
                · have eb : ((8 * (j : Int)) == 8 * (qa : Int)) = true := by rw [hjq]; simp
                  have ebn : ((8 * (j : Int)) != 8 * (qa : Int)) = false := by rw [hjq]; simp
                  have HJQ := hide hjq
                  clear hjq
                  go_wp2_with fail
                  refine (load_in _ _ _ _ _ _ _ HM7.out (by omega)).mono ?_
                  rintro e w' ⟨rfl, rfl⟩
                  go_wp2_with fail
                  refine (load_in _ _ _ _ _ _ _ HC7.out (by omega)).mono ?_
                  rintro e w' ⟨rfl, rfl⟩
                  rw [if_pos HJQ.out]
                  go_wp2_with fail
                  refine (load_in _ _ _ _ _ _ _ HD7.out (by omega)).mono ?_
                  rintro e w' ⟨rfl, rfl⟩
                  rw [HX.out]
                  go_wp2_with fail
                  go_roundw
                  case rel => exact ⟨j + 1, by omega, by simp; omega, HM7.out, HC7.out, HD7.out, HB7.out⟩
                  case measure => simp [intOf]; omega
                · have eb : ((8 * (j : Int)) == 8 * (qa : Int)) = false := by rw [beq_eq_false_iff_ne]; omega
                  have ebn : ((8 * (j : Int)) != 8 * (qa : Int)) = true := by rw [bne_iff_ne]; omega
                  have HJQ := hide hjq
                  clear hjq
                  go_wp2_with fail
                  refine (load_in _ _ _ _ _ _ _ HM7.out (by omega)).mono ?_
                  rintro e w' ⟨rfl, rfl⟩
                  go_wp2_with fail
                  refine (load_in _ _ _ _ _ _ _ HC7.out (by omega)).mono ?_
                  rintro e w' ⟨rfl, rfl⟩
                  rw [if_neg HJQ.out]
                  go_wp2_with fail
                  refine (load_in _ _ _ _ _ _ _ HD7.out (by omega)).mono ?_
                  rintro e w' ⟨rfl, rfl⟩
                  rw [HX.out]
                  go_wp2_with fail
                  go_roundw
                  case rel => exact ⟨j + 1, by omega, by simp; omega, HM7.out, HC7.out, HD7.out, HB7.out⟩
                  case measure => simp [intOf]; omega
          · go_wp2_with fail
            refine (awake2 _).mono ?_
            rintro e w7 ⟨rfl, hb7⟩
            have HE7 := hide hb7
            clear hb7
            go_wp2_with fail
            go_ret
            exact ⟨rfl, HB7.out.trans (HE7.out.mono HB7.out.size)⟩
      · have e1 : zeroErr 16 (fN : Int) (kN : Int) = 3 := by unfold zeroErr; rw [if_pos (by omega)]
        have hmd2 : md = m := by rw [← hmd]; unfold zeroV; rw [e1, if_neg (by decide)]
        rw [e1]
        have HMD := hide hmd2
        clear hmd hmd2 e1
        go_wp2_with fail
        go_loopw [18] (fun i wr => ∃ j : Nat, j ≤ 128 ∧ i = .int .u64 (8 * (j : Int)) ∧ MemAt wr (w.heap.size + 1) w.heap.size 16 16 m ∧ MemAt wr gc fc 16 cc (fun i => if i = qa then v else m i) ∧ MemAt wr gd fd 16 cd md ∧ Below w.heap.size w wr) (fun i _ => 1024 - (intOf i).toNat)
        case atStart => exact ⟨0, Nat.zero_le _, rfl, HM6.out, HC6.out, HD6.out, HB6.out⟩
        case round =>
          obtain ⟨j, hj, rfl, hm, hc, hd, hb⟩ := hrel
          have HM7 := hide hm
          have HC7 := hide hc
          have HD7 := hide hd
          have HB7 := hide hb
          clear hm hc hd hb
          by_cases hlt : j < 128
          · have HX : Hid (md j = m j) := by rw [HMD.out]; rfl
            by_cases hjq : j = qa
            · have eb : ((8 * (j : Int)) == 8 * (qa : Int)) = true := by rw [hjq]; simp
              have ebn : ((8 * (j : Int)) != 8 * (qa : Int)) = false := by rw [hjq]; simp
              have HJQ := hide hjq
              clear hjq
              go_wp2_with fail
              refine (load_in _ _ _ _ _ _ _ HM7.out (by omega)).mono ?_
              rintro e w' ⟨rfl, rfl⟩
              go_wp2_with fail
              refine (load_in _ _ _ _ _ _ _ HC7.out (by omega)).mono ?_
              rintro e w' ⟨rfl, rfl⟩
              rw [if_pos HJQ.out]
              go_wp2_with fail
              refine (load_in _ _ _ _ _ _ _ HD7.out (by omega)).mono ?_
              rintro e w' ⟨rfl, rfl⟩
              rw [HX.out]
              go_wp2_with fail
              go_roundw
              case rel => exact ⟨j + 1, by omega, by simp; omega, HM7.out, HC7.out, HD7.out, HB7.out⟩
              case measure => simp [intOf]; omega
            · have eb : ((8 * (j : Int)) == 8 * (qa : Int)) = false := by rw [beq_eq_false_iff_ne]; omega
              have ebn : ((8 * (j : Int)) != 8 * (qa : Int)) = true := by rw [bne_iff_ne]; omega
              have HJQ := hide hjq
              clear hjq
              go_wp2_with fail
              refine (load_in _ _ _ _ _ _ _ HM7.out (by omega)).mono ?_
              rintro e w' ⟨rfl, rfl⟩
              go_wp2_with fail
              refine (load_in _ _ _ _ _ _ _ HC7.out (by omega)).mono ?_
              rintro e w' ⟨rfl, rfl⟩
              rw [if_neg HJQ.out]
              go_wp2_with fail
              refine (load_in _ _ _ _ _ _ _ HD7.out (by omega)).mono ?_
              rintro e w' ⟨rfl, rfl⟩
              rw [HX.out]
              go_wp2_with fail
              go_roundw
              case rel => exact ⟨j + 1, by omega, by simp; omega, HM7.out, HC7.out, HD7.out, HB7.out⟩
              case measure => simp [intOf]; omega
          · go_wp2_with fail
            refine (awake2 _).mono ?_
            rintro e w7 ⟨rfl, hb7⟩
            have HE7 := hide hb7
            clear hb7
            go_wp2_with fail
            go_ret
            exact ⟨congrArg (fun b => Ending.returned (.bool b)) (show (!decide ((fN : Int) + (kN : Int) ≤ 16)) = true by simp; omega), HB7.out.trans (HE7.out.mono HB7.out.size)⟩
end Go.Proofs.Ytfjhchcnhmafkaa
