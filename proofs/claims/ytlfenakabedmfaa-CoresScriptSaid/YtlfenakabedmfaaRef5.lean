/- The walks of chapter 5's own answer. -/
import Derived.Test.YtlfenakabedmfaaRef3
import Derived.Test.YtlfenakabedmfaaRef2
import Derived.Test.YtlfenakabedmfaaRef4
import Derived.Test.YtlfenakabedmfaaWalks
import Derived.Test.YtlfenakabedmfaaTwoB
import Derived.Deep.CutBlock
import Derived.Deep.DeepCutAuto
import Derived.Deep.RegionWith
namespace Go.Proofs.Ytlfenakabedmfaa
open Go.RowKit Go.Shelf
theorem at_stop {n : Nat} {m : Nat → Int} {r p k l : Nat} (h1 : 1 ≤ k) (hl : k < l) (h3 : l ≤ 3) (hb : ∀ j, 1 ≤ j → j < k → erN n m r p j = 0) (he : ¬ erN n m r p k = 0) : atF n m r p l = (0, erN n m r p k) := by
  have : (k = 1 ∧ l = 2) ∨ (k = 1 ∧ l = 3) ∨ (k = 2 ∧ l = 3) := by omega
  rcases this with ⟨rfl, rfl⟩ | ⟨rfl, rfl⟩ | ⟨rfl, rfl⟩
  · rw [atF_2, if_neg he]
  · rw [atF_3, if_neg he]
  · rw [atF_3, if_pos (hb 1 (by omega) (by omega)), if_neg he]
theorem at_end {n : Nat} {m : Nat → Int} {r p l : Nat} (h1 : 1 ≤ l) (h3 : l ≤ 3) (hb : ∀ j, 1 ≤ j → j < l → erN n m r p j = 0) : atF n m r p l = (8 * (wdN m r p l : Int), 0) := by
  have : l = 1 ∨ l = 2 ∨ l = 3 := by omega
  rcases this with rfl | rfl | rfl
  · rfl
  · rw [atF_2, if_pos (hb 1 (by omega) (by omega))]
  · rw [atF_3, if_pos (hb 1 (by omega) (by omega)), if_pos (hb 2 (by omega) (by omega))]
theorem fr_ok {n : Nat} {m : Nat → Int} {r p k : Nat} (hr : r < n) (h1 : 1 ≤ k) (h3 : k ≤ 3) (hb : ∀ j, 1 ≤ j → j < k → erN n m r p j = 0) : frN m r p k < n := by
  obtain ⟨f1, f2, f3⟩ := fr_lt (m := m) (page := p) hr
  have : k = 1 ∨ k = 2 ∨ k = 3 := by omega
  rcases this with rfl | rfl | rfl
  · exact f1
  · exact f2 (hb 1 (by omega) (by omega))
  · exact f3 (hb 2 (by omega) (by omega))
theorem rat_nil (root page level : Int) (w : World) :
    Calls Try.prog 96 #[.pointer none, .int .i64 root, .int .i64 page, .int .i64 level] w fun e w' => e = .returned (.tuple #[.int .u64 0, .int .i64 1]) ∧ w = w' := by
  go_enter Try.func96, Try.ntmps96
  go_wp2_with fail
  go_ret2
  exact ⟨rfl, rfl⟩
theorem rat_bad (g gf N cp : Nat) (m : Nat → Int) (root page level : Int) (w : World) (hM : RefAt w g gf N cp m) (hb : badV N root page level = 3) :
    Calls Try.prog 96 #[.pointer (some ⟨g, 0, none⟩), .int .i64 root, .int .i64 page, .int .i64 level] w fun e w' => e = .returned (.tuple #[.int .u64 0, .int .i64 3]) ∧ w = w' := by
  have HM := hide hM
  have hn := hM.le
  clear hM
  by_cases h1 : root < 0
  · clear hb
    go_enter Try.func96, Try.ntmps96
    go_wp2_with fail
    go_ret2
    exact ⟨rfl, rfl⟩
  by_cases h2 : (N : Int) ≤ root
  · clear hb
    go_enter Try.func96, Try.ntmps96
    go_wp2_with fail
    refine (rframes_any _ _ _ _ _ _ HM.out).mono ?_
    rintro e w' ⟨rfl, rfl⟩
    go_wp2_with fail
    go_ret2
    exact ⟨rfl, rfl⟩
  by_cases h3 : page < 0
  · clear hb
    go_enter Try.func96, Try.ntmps96
    go_wp2_with fail
    refine (rframes_any _ _ _ _ _ _ HM.out).mono ?_
    rintro e w' ⟨rfl, rfl⟩
    go_wp2_with fail
    go_ret2
    exact ⟨rfl, rfl⟩
  by_cases h4 : 512 ≤ page
  · clear hb
    go_enter Try.func96, Try.ntmps96
    go_wp2_with fail
    refine (rframes_any _ _ _ _ _ _ HM.out).mono ?_
    rintro e w' ⟨rfl, rfl⟩
    go_wp2_with fail
    go_ret2
    exact ⟨rfl, rfl⟩
  by_cases h5 : level < 1
  · clear hb
    go_enter Try.func96, Try.ntmps96
    go_wp2_with fail
    refine (rframes_any _ _ _ _ _ _ HM.out).mono ?_
    rintro e w' ⟨rfl, rfl⟩
    go_wp2_with fail
    go_ret2
    exact ⟨rfl, rfl⟩
  by_cases h6 : 3 < level
  · clear hb
    go_enter Try.func96, Try.ntmps96
    go_wp2_with fail
    refine (rframes_any _ _ _ _ _ _ HM.out).mono ?_
    rintro e w' ⟨rfl, rfl⟩
    go_wp2_with fail
    go_ret2
    exact ⟨rfl, rfl⟩
  · exfalso
    unfold badV at hb
    rw [if_neg (by omega)] at hb
    exact absurd hb (by decide)
theorem RefAt.on {w w' : World} {g gf n cp : Nat} {m : Nat → Int} (h : RefAt w g gf n cp m) (hb : Below w.heap.size w w') : RefAt w' g gf n cp m := h.below hb h.hd.lt h.ltf
theorem decA_lit (x : Int) : ∃ (a b c d : Bool) (f : Int), decA x = .agg #[.bool a, .bool b, .bool c, .bool d, .int .i64 f] := by
  unfold decA
  split
  · exact ⟨_, _, _, _, _, rfl⟩
  · exact ⟨_, _, _, _, _, rfl⟩
theorem dec_ent (n : Nat) {x : Int} {a b c d : Bool} {f E : Int} (hA : decA x = .agg #[.bool a, .bool b, .bool c, .bool d, .int .i64 f]) (hE : decE x = E) :
    entE n x false = (if E ≠ 0 then 5 else if a = false then 6 else if b = true ∨ (n : Int) ≤ f then 5 else 0) ∧ (E = 0 → f = x / 256 % 64) := by
  unfold decA at hA
  unfold decE at hE
  unfold entE
  cases h : decOk x with
  | false =>
    rw [h] at hE
    simp at hE
    subst hE
    exact ⟨rfl, fun h => absurd h (by decide)⟩
  | true =>
    rw [h] at hA hE
    simp at hA hE
    obtain ⟨rfl, rfl, rfl, rfl, rfl⟩ := hA
    subst hE
    refine ⟨?_, fun _ => rfl⟩
    simp
set_option maxRecDepth 100000 in
set_option maxHeartbeats 4000000 in
theorem rat_in (g gf N cp : Nat) (m : Nat → Int) (r p l : Nat) (w : World) (hM : RefAt w g gf N cp m) (hr : r < N) (hp : p < 512) (h1 : 1 ≤ l) (h3 : l ≤ 3) :
    Calls Try.prog 96 #[.pointer (some ⟨g, 0, none⟩), .int .i64 r, .int .i64 p, .int .i64 l] w fun e w' => e = .returned (.tuple #[.int .u64 (atF N m r p l).1, .int .i64 (atF N m r p l).2]) ∧ Below w.heap.size w w' := by
  have HM := hide hM
  have hn := hM.le
  clear hM
  obtain ⟨T, hT⟩ : ∃ T, atF N m r p l = T := ⟨_, rfl⟩
  rw [hT]
  have HT := hide hT
  clear hT
  go_enter Try.func96, Try.ntmps96
  go_wp2_with fail
  refine (rframes_any _ _ _ _ _ _ HM.out).mono ?_
  rintro e w' ⟨rfl, rfl⟩
  go_wp2_with fail
  rename_i q1 q2 q3 qk qa
  clear q1 q2 q3
  go_loopw [10, 11, 12, 13] (fun f i _ _ wr => ∃ k : Nat, 1 ≤ k ∧ k ≤ l ∧ f = .int .i64 (frN m r p k) ∧ i = .int .i64 k ∧ (∀ j, 1 ≤ j → j < k → erN N m r p j = 0) ∧ RefAt wr g gf N cp m ∧ Below w.heap.size w wr) (fun _ i _ _ _ => l - (intOf i).toNat)
  case atStart => exact ⟨1, by omega, h1, rfl, rfl, fun j a b => by omega, HM.out, Below.refl _ _⟩
  case round =>
    obtain ⟨k, k1, k2, rfl, rfl, he, hm, hb⟩ := hrel
    have hf := fr_ok hr k1 (by omega) he
    have hx := ixN_lt k hp
    have HE := hide he
    have HR := hide hm
    have HB := hide hb
    clear hm hb he HM
    by_cases hlt : k < l
    · obtain ⟨x, hX⟩ : ∃ x, m (wdN m r p k) = x := ⟨_, rfl⟩
      have hw := HR.out.word (wdN m r p k)
      rw [hX] at hw
      obtain ⟨x0, x1⟩ := hw
      have hi := idx_nat hp k1 (by omega : k ≤ 3)
      have hwd : wdN m r p k = 8 * frN m r p k + ixN p k := rfl
      rw [hwd] at hX
      have hj := HR.out.cell (8 * frN m r p k + ixN p k) (by omega)
      rw [hX] at hj
      have c0 : wr.cell? ⟨g, 0, none⟩ = some (.slice (some ⟨gf, 0, none⟩) (8 * N) cp) := HR.out.hd.cell 0
      have hX2 := hide hX
      have HI := hide hi
      have HWD := hide hwd
      have hne := hide (show erN N m r p k = 0 → (frN m r p (k + 1) : Int) = x / 256 % 64 from fun h => by rw [(frN_succ k1 h).1, hwd, hX])
      have her := hide (show erN N m r p k = entE N x false by unfold erN; rw [hwd, hX])
      clear hX hi hwd
      generalize frN m r p k = fr at *
      generalize ixN p k = ix at *
      obtain ⟨a5, b5, c5, d5, f5, hA⟩ := decA_lit x
      obtain ⟨E, hE⟩ : ∃ E, decE x = E := ⟨_, rfl⟩
      have HA := hide hA
      have HE5 := hide hE
      have HDE := hide (dec_ent N hA hE)
      clear hA hE
      have hlg := HR.out.hd.lt
      have hlf := HR.out.ltf
      have hwr1 : IntKind.i64.wrap (8 * (fr : Int)) = 8 * (fr : Int) := IntWalk.i64_in _ (by omega)
      have hwr2 : IntKind.i64.wrap (8 * (fr : Int) + (ix : Int)) = ((8 * fr + ix : Nat) : Int) := by rw [IntWalk.i64_in _ (by omega)]; omega
      have hjn : ((8 * fr + ix : Nat) : Int) < 8 * (N : Int) := by omega
      generalize 8 * fr + ix = jj at *
      go_upto_region 9 with fail
      go_cut [12, 13] from 41 to 83 (fun s12 s13 wx => ∃ b, s12 = .pointer (some ⟨b, 0, none⟩) ∧ s13 = .int .i64 E ∧ Blk wx b 50 #[.bool a5, .bool b5, .bool c5, .bool d5, .int .i64 f5] ∧ wr.heap.size ≤ b ∧ Below wr.heap.size wr wx)
      case first =>
        have hz := ((Below.refl wr.heap.size wr).alloc (Nat.le_refl _) (.cells #[.bool false, .bool false, .bool false, .bool false, .int .i64 0] 50)).drew
        have HX5 := hide ((Blk.new wr 50 #[.bool false, .bool false, .bool false, .bool false, .int .i64 0]).drew)
        have HZ := hide hz
        clear hz
        go_region_held3 (fun w' => w'.cell? ⟨g, 0, none⟩ = some (.slice (some ⟨gf, 0, none⟩) (8 * N) cp) ∧ w'.cell? ⟨gf, jj, none⟩ = some (.int .u64 x) ∧ Below wr.heap.size wr w') (first | (with_reducible assumption) | (with_reducible exact TwoB.start c0 hj) | (with_reducible exact TwoB.of c0 hj hlg hlf HZ.out) | (with_reducible exact TwoB.alloc hlg hlf c0 hj (by assumption)) | (with_reducible exact TwoB.alloc' hlg hlf c0 hj (by assumption)) | (with_reducible exact TwoB.set5 hlg hlf c0 hj (Nat.le_refl _) (by assumption)) | (with_reducible exact TwoB.set5 hlg hlf c0 hj hle (by assumption))) ((first
          | (go_at_call 102; refine (ridx_any _ _ _).mono ?_; rintro e w6 ⟨rfl, rfl⟩; rw [HI.out])
          | (go_at_call 97; refine (rdec_any x x0 x1 _).mono ?_; rintro e w6 ⟨rfl, hb6⟩; rw [HA.out, HE5.out]; have hx6 := HX5.out.below hb6 HX5.out.lt; have hS6 := TwoB.of c0 hj hlg hlf (HZ.out.trans (hb6.mono HZ.out.size)); have x0 := hx6.cell 0; have x1 := hx6.cell 1; have x2 := hx6.cell 2; have x3 := hx6.cell 3; have x4 := hx6.cell 4; have y0 := hx6.frozen 0; have y1 := hx6.frozen 1; have y2 := hx6.frozen 2; have y3 := hx6.frozen 3; have y4 := hx6.frozen 4)
          | (go_at_call 97; refine (rdec_any x x0 x1 _).mono ?_; rintro e w6 ⟨rfl, hb6⟩; rw [HA.out, HE5.out]; have hle : wr.heap.size ≤ w6.heap.size := hb6.size; have hS6 := TwoB.of c0 hj hlg hlf ((Below.refl _ wr).drew.trans hb6))))
        · go_wp2
          go_meet
          case rel => exact ⟨w6.heap.size, rfl, rfl, Blk.new _ _ _, hle, hS6.2.2.alloc hle _⟩
        all_goals
          go_wp2
          go_meet
          case rel => exact ⟨wr.heap.size, rfl, rfl, hx6.set5 _ _ _ _ _, Nat.le_refl _, below_set5 hS6.2.2 (Nat.le_refl _) _ _ _ _ _⟩
      case rest =>
        obtain ⟨b, rfl, rfl, hk, hlb, hb6⟩ := hcut
        have HR6 := hide (HR.out.below hb6 hlg hlf)
        replace HB := hide (HB.out.trans (hb6.mono HB.out.size))
        obtain ⟨e0, e1, e2, e3, e4⟩ := hk.c5
        clear hb6 HR c0 hj hlg hlf hlb hwr1 hwr2 HA HE5
        by_cases hE0 : E = 0
        · subst hE0
          cases a5 with
          | false =>
            have hen := hide (show entE N x false = 6 from HDE.out.1)
            clear HDE
            have hT2 : Hid (T = (0, 6)) := hide (by rw [← HT.out, at_stop k1 hlt h3 HE.out (by rw [her.out, hen.out]; decide), her.out, hen.out])
            go_upto_region 10 with fail
            go_quiet (fail)
            rename_i nq
            replace hk := hk.drewN nq
            replace HB := hide (below_drewN HB.out nq)
            generalize wc.drewN nq = wd at *
            obtain ⟨e0, e1, e2, e3, e4⟩ := hk.c5
            go_wp2
            go_ret2
            exact ⟨by rw [hT2.out]; rfl, HB.out⟩
          | true =>
            cases b5 with
            | true =>
              have hen := hide (show entE N x false = 5 by rw [HDE.out.1]; simp)
              clear HDE
              have hT2 : Hid (T = (0, 5)) := hide (by rw [← HT.out, at_stop k1 hlt h3 HE.out (by rw [her.out, hen.out]; decide), her.out, hen.out])
              go_upto_region 10 with fail
              go_quiet (fail)
              rename_i nq
              replace hk := hk.drewN nq
              replace HB := hide (below_drewN HB.out nq)
              generalize wc.drewN nq = wd at *
              obtain ⟨e0, e1, e2, e3, e4⟩ := hk.c5
              go_wp2
              go_ret2
              exact ⟨by rw [hT2.out]; rfl, HB.out⟩
            | false =>
              by_cases hN : (N : Int) ≤ f5
              · have hen := hide (show entE N x false = 5 by rw [HDE.out.1]; simp [hN])
                clear HDE
                have hT2 : Hid (T = (0, 5)) := hide (by rw [← HT.out, at_stop k1 hlt h3 HE.out (by rw [her.out, hen.out]; decide), her.out, hen.out])
                go_upto_region 10 with fail
                go_quiet ((go_at_call 68; exact Calls.quiet_of_same ((rframes_any g gf N cp m _ (HR6.out.on (below_drewN (Below.refl _ _) _))).mono fun _ _ h => ⟨h.1, h.2.symm⟩)))
                rename_i nq
                replace hk := hk.drewN nq
                replace HB := hide (below_drewN HB.out nq)
                generalize wc.drewN nq = wd at *
                obtain ⟨e0, e1, e2, e3, e4⟩ := hk.c5
                go_wp2
                go_ret2
                exact ⟨by rw [hT2.out]; rfl, HB.out⟩
              · have hen := hide (show entE N x false = 0 by rw [HDE.out.1]; simp [hN])
                have hf5 := HDE.out.2 rfl
                clear HDE
                have hfn := hide (show (frN m r p (k + 1) : Int) = f5 by rw [hf5]; exact hne.out (her.out.trans hen.out))
                have hk0 := hide (show erN N m r p k = 0 from her.out.trans hen.out)
                have hnx : Hid (∀ j, 1 ≤ j → j < k + 1 → erN N m r p j = 0) := hide (fun j j1 j2 => by
                  rcases Nat.lt_or_ge j k with h | h
                  · exact HE.out j j1 h
                  · obtain rfl : j = k := by omega
                    exact hk0.out)
                clear hf5 hne
                go_upto_region 10 with fail
                go_quiet ((go_at_call 68; exact Calls.quiet_of_same ((rframes_any g gf N cp m _ (HR6.out.on (below_drewN (Below.refl _ _) _))).mono fun _ _ h => ⟨h.1, h.2.symm⟩)))
                rename_i nq
                replace hk := hk.drewN nq
                replace HB := hide (below_drewN HB.out nq)
                replace HR6 := hide (HR6.out.on (below_drewN (Below.refl _ wc) nq))
                generalize wc.drewN nq = wd at *
                obtain ⟨e0, e1, e2, e3, e4⟩ := hk.c5
                go_wp2
                go_roundw
                case rel => exact ⟨k + 1, by omega, by omega, by rw [hfn.out], by simp, hnx.out, HR6.out, HB.out⟩
                case measure => simp [intOf]; omega
        · have hen := hide (show entE N x false = 5 by rw [HDE.out.1, if_pos hE0])
          have t : (E != 0) = true := bne_iff_ne.2 hE0
          clear HDE
          have hT2 : Hid (T = (0, 5)) := hide (by rw [← HT.out, at_stop k1 hlt h3 HE.out (by rw [her.out, hen.out]; decide), her.out, hen.out])
          go_upto_region 10 with fail
          go_quiet (fail)
          rename_i nq
          replace hk := hk.drewN nq
          replace HB := hide (below_drewN HB.out nq)
          generalize wc.drewN nq = wd at *
          obtain ⟨e0, e1, e2, e3, e4⟩ := hk.c5
          go_wp2
          go_ret2
          exact ⟨by rw [hT2.out]; rfl, HB.out⟩
    · obtain rfl : k = l := by omega
      have hi := idx_nat hp k1 h3
      have HI := hide hi
      have hT2 : Hid (T = (64 * (frN m r p k : Int) + 8 * (ixN p k : Int), 0)) := hide (by rw [← HT.out, at_end h1 h3 HE.out, show wdN m r p k = 8 * frN m r p k + ixN p k from rfl]; congr 1; omega)
      clear hi HR
      generalize frN m r p k = fr at *
      generalize ixN p k = ix at *
      go_wp2_with fail
      refine (ridx_any _ _ _).mono ?_
      rintro e w6 ⟨rfl, rfl⟩
      rw [HI.out]
      go_wp2_with fail
      go_ret2
      exact ⟨by rw [hT2.out]; rfl, HB.out⟩
theorem rat_any (g gf N cp : Nat) (m : Nat → Int) (root page level : Int) (w : World) (hM : RefAt w g gf N cp m) :
    Calls Try.prog 96 #[.pointer (some ⟨g, 0, none⟩), .int .i64 root, .int .i64 page, .int .i64 level] w fun e w' => e = .returned (.tuple #[.int .u64 (atV N m root page level).1, .int .i64 (atV N m root page level).2]) ∧ Below w.heap.size w w' := by
  unfold atV
  by_cases h : badV N root page level = 0
  · rw [if_pos h]
    obtain ⟨r, p, l, rfl, rfl, rfl, hr, hp, h1, h3⟩ := badV_no h
    exact rat_in g gf N cp m r p l w hM hr hp h1 h3
  · rw [if_neg h]
    have h3 := badV_yes h
    rw [h3]
    exact (rat_bad g gf N cp m root page level w hM h3).mono fun _ _ hh => ⟨hh.1, hh.2 ▸ Below.refl _ _⟩
end Go.Proofs.Ytlfenakabedmfaa
