/- What a translation answers, and leaves; the walk of package cores: Translate. -/
import Derived.Test.YtlfenakabedmfaaCores2
import Derived.Test.YtlfenakabedmfaaTwoB
import Derived.Deep.CutBlock
import Derived.Deep.DeepCutAuto
namespace Go.Proofs.Ytlfenakabedmfaa
open Go.RowKit Go.Shelf
/-! The leaf's word, and what it says. -/
section
variable (N : Nat) (m : Nat → Int) (r p : Int)
def leafX : Int := m ((atV N m r p 3).1 / 8).toNat
/-- The translation that a walk gives. -/
def wlkT (sp : Int) : Tr := ⟨sp, p, leafX N m r p / 256 % 64, bitB (leafX N m r p) 2, bitB (leafX N m r p) 3⟩
theorem wlk_good (h : wlkE N m r p = 0) : wlkC N m r p = #[.bool true, .bool true, .bool (bitB (leafX N m r p) 2), .bool (bitB (leafX N m r p) 3), .int .i64 (leafX N m r p / 256 % 64)] ∧ leafX N m r p / 256 % 64 < N ∧ (bitB (leafX N m r p) 2 = true ∨ bitB (leafX N m r p) 3 = true) ∧ 0 ≤ p ∧ p < 512 := by
  unfold wlkE at h
  unfold wlkC
  by_cases h0 : (atV N m r p 3).2 = 0
  · rw [if_pos h0] at h ⊢
    have hx : m ((atV N m r p 3).1 / 8).toNat = leafX N m r p := rfl
    rw [hx] at h ⊢
    obtain ⟨q1, q2, q3, q4⟩ := entE_zero h
    unfold entC
    rw [if_pos h, q2, q3]
    refine ⟨rfl, q4, ?_, ?_⟩
    · have hm : mayB (bitB (leafX N m r p) 0) (bitB (leafX N m r p) 1) (bitB (leafX N m r p) 2) (bitB (leafX N m r p) 3) (leafX N m r p / 256 % 64) = true := by
        unfold decOk at q1
        exact (Bool.and_eq_true _ _ ▸ q1).2
      rw [q2, q3] at hm
      unfold mayB at hm
      cases h2 : bitB (leafX N m r p) 2 <;> cases h3 : bitB (leafX N m r p) 3 <;> simp_all
    · unfold atV at h0
      by_cases hb : badV N r p 3 = 0
      · obtain ⟨r', p', l, rfl, rfl, _, _, hp, _⟩ := badV_no hb
        omega
      · rw [if_neg hb] at h0; exact absurd h0 hb
  · rw [if_neg h0] at h
    exact absurd h h0
theorem wlkT_may {sp : Int} (h : wlkE N m r p = 0) (hs : 1 ≤ sp) : mayFill (wlkT N m r p sp) := by
  obtain ⟨_, _, q, q1, q2⟩ := wlk_good N m r p h
  exact ⟨hs, q1, q2, Int.emod_nonneg _ (by decide), Int.emod_lt_of_pos _ (by decide), q⟩
end
/-! What a translation answers. -/
section
variable (n : Nat) (K : Nat → Core) (N : Nat) (m : Nat → Int) (k p : Int)
/-- What core k answers that is there, at a page that may be. -/
def trIn (x : Core) : Tr × Bool × Int :=
  if x.rt < 0 then (Tr.zero, false, 19) else if findOk x.c x.sp p = true then (findTr x.c x.sp p, true, 0) else if wlkE N m x.rt p = 0 then (wlkT N m x.rt p x.sp, false, 0) else (Tr.zero, false, wlkE N m x.rt p)
/-- Its cache behind it. -/
def trInC (x : Core) : Cache :=
  if x.rt < 0 then x.c else if findOk x.c x.sp p = true then x.c else if wlkE N m x.rt p = 0 then fillC x.c (wlkT N m x.rt p x.sp) else x.c
end
theorem results_cell_tmp2 {P : Program} {fn : Func} {p t u : Tmp} {ty : TypeId} (h : fn.results = #[.cell p ty, .tmp t, .tmp u]) (tmps : Array Value) (w : World) (g : Nat) (T : TypeId) (cs : Array Value) (fr : Nat × Nat) (d : TypeDesc)
    (hp : tmps.getD p undef = .pointer (some ⟨g, 0, none⟩)) (hg : w.heap[g]? = some (.cells cs T fr))
    (hu : P.underlying ty = some d) (hd : (match d with | .struct _ | .array _ _ => true | _ => false) = true) (hi : (P.info? ty).map (·.size) = some cs.size) :
    (results fn tmps).run P w = .ok (.tuple #[.agg cs, tmps.getD t undef, tmps.getD u undef]) w := by
  have hp' : tmps[p]?.getD undef = .pointer (some ⟨g, 0, none⟩) := by simpa using hp
  simp [results, h, hp', asAddr, run_loadVar_row w g T ty cs fr d hg hu hd hi]
set_option maxRecDepth 100000 in
set_option maxHeartbeats 2000000 in
theorem ctrans_nil (q : Option Addr) (k p : Int) (w : World) : Calls Try.prog 23 #[.pointer none, .int .i64 k, .pointer q, .int .i64 p] w fun e w' => e = .returned (.tuple #[.agg Tr.zero.row, .bool false, .int .i64 1]) ∧ Below w.heap.size w w' := by
  go_enter Try.func23, Try.ntmps23
  go_upto_region 1 with fail
  have hk := Blk.new w 42 #[.int .i64 0, .int .i64 0, .int .i64 0, .bool false, .bool false]
  have hB : Below w.heap.size w (w.alloc (.cells #[.int .i64 0, .int .i64 0, .int .i64 0, .bool false, .bool false] 42)) := (Below.refl _ w).alloc (Nat.le_refl _) _
  generalize w.alloc (.cells #[.int .i64 0, .int .i64 0, .int .i64 0, .bool false, .bool false] 42) = W at *
  go_wp2_with fail
  refine (cat_nil _ _).mono ?_
  rintro e w' ⟨rfl, rfl⟩
  obtain ⟨e0, e1, e2, e3, e4⟩ := hk.c5
  obtain ⟨f0, f1, f2, f3, f4⟩ := hk.f5
  go_wp2_with fail
  exact bodyPost_ret (results_cell_tmp2 rfl _ _ w.heap.size 42 _ (0, 0) _ rfl (hk.set5 _ _ _ _ _) Try.underlying42 rfl (by kernel_rfl)) rfl ⟨rfl, below_set5 hB (Nat.le_refl _) _ _ _ _ _⟩
set_option maxRecDepth 100000 in
set_option maxHeartbeats 2000000 in
theorem ctrans_bad (q : Option Addr) (g gb cap n : Nat) (tl : Nat → Nat) (K : Nat → Core) (k p : Int) (w : World) (hC : CoresAt w g gb cap n tl K) (h : k < 0 ∨ (n : Int) ≤ k ∨ p < 0 ∨ 512 ≤ p) :
    Calls Try.prog 23 #[.pointer (some ⟨g, 0, none⟩), .int .i64 k, .pointer q, .int .i64 p] w fun e w' => e = .returned (.tuple #[.agg Tr.zero.row, .bool false, .int .i64 3]) ∧ Below w.heap.size w w' := by
  have hC0 := hC.on ((Below.refl _ w).alloc (Nat.le_refl _) (.cells #[.int .i64 0, .int .i64 0, .int .i64 0, .bool false, .bool false] 42))
  clear hC
  have hc : (k < 0 ∨ (n : Int) ≤ k) ∨ ((0 ≤ k ∧ k < n) ∧ p < 0) ∨ ((0 ≤ k ∧ k < n) ∧ 512 ≤ p) := by omega
  clear h
  rcases hc with h | ⟨⟨hk0, hk1⟩, hp⟩ | ⟨⟨hk0, hk1⟩, hp⟩
  · have H := hide h
    clear h
    go_enter Try.func23, Try.ntmps23
    go_upto_region 1 with fail
    have hk := Blk.new w 42 #[.int .i64 0, .int .i64 0, .int .i64 0, .bool false, .bool false]
    have hB : Below w.heap.size w (w.alloc (.cells #[.int .i64 0, .int .i64 0, .int .i64 0, .bool false, .bool false] 42)) := (Below.refl _ w).alloc (Nat.le_refl _) _
    generalize w.alloc (.cells #[.int .i64 0, .int .i64 0, .int .i64 0, .bool false, .bool false] 42) = W at *
    go_wp2_with fail
    refine (cat_bad _ _ _ _ _ _ _ _ hC0 H.out).mono ?_
    rintro e w' ⟨rfl, rfl⟩
    obtain ⟨e0, e1, e2, e3, e4⟩ := hk.c5
    obtain ⟨f0, f1, f2, f3, f4⟩ := hk.f5
    clear hC0
    go_wp2_with fail
    exact bodyPost_ret (results_cell_tmp2 rfl _ _ w.heap.size 42 _ (0, 0) _ rfl (hk.set5 _ _ _ _ _) Try.underlying42 rfl (by kernel_rfl)) rfl ⟨rfl, below_set5 hB (Nat.le_refl _) _ _ _ _ _⟩
  all_goals
    obtain ⟨i, rfl⟩ : ∃ i : Nat, k = i := ⟨k.toNat, by omega⟩
    have hin : i < n := by omega
    clear hk0 hk1
    go_enter Try.func23, Try.ntmps23
    go_upto_region 1 with fail
    have hk := Blk.new w 42 #[.int .i64 0, .int .i64 0, .int .i64 0, .bool false, .bool false]
    have hB : Below w.heap.size w (w.alloc (.cells #[.int .i64 0, .int .i64 0, .int .i64 0, .bool false, .bool false] 42)) := (Below.refl _ w).alloc (Nat.le_refl _) _
    generalize w.alloc (.cells #[.int .i64 0, .int .i64 0, .int .i64 0, .bool false, .bool false] 42) = W at *
    go_wp2_with fail
    refine (cat_in _ _ _ _ _ _ i _ hC0 hin).mono ?_
    rintro e w' ⟨rfl, rfl⟩
    obtain ⟨e0, e1, e2, e3, e4⟩ := hk.c5
    obtain ⟨f0, f1, f2, f3, f4⟩ := hk.f5
    clear hC0
    go_wp2_with fail
    exact bodyPost_ret (results_cell_tmp2 rfl _ _ w.heap.size 42 _ (0, 0) _ rfl (hk.set5 _ _ _ _ _) Try.underlying42 rfl (by kernel_rfl)) rfl ⟨rfl, below_set5 hB (Nat.le_refl _) _ _ _ _ _⟩
theorem mod_set5 {S : Nat → Prop} {a w : World} (hm : Mod S a w) {g : Nat} (hg : S g ∨ a.heap.size ≤ g) (v0 v1 v2 v3 v4 : Value) : Mod S a (((((w.setCell ⟨g, 0, none⟩ v0).setCell ⟨g, 1, none⟩ v1).setCell ⟨g, 2, none⟩ v2).setCell ⟨g, 3, none⟩ v3).setCell ⟨g, 4, none⟩ v4) :=
  ((((hm.setCell (p := ⟨g, 0, none⟩) hg v0).setCell (p := ⟨g, 1, none⟩) hg v1).setCell (p := ⟨g, 2, none⟩) hg v2).setCell (p := ⟨g, 3, none⟩) hg v3).setCell (p := ⟨g, 4, none⟩) hg v4
theorem MemAt.apart {w : World} {gm gf N cp t : Nat} {m : Nat → Int} {c : Cache} (hM : MemAt w gm gf N cp m) (hT : TlbAt w t c) : gm ≠ t ∧ gf ≠ t := by
  obtain ⟨cs, hb, _⟩ := hT
  obtain ⟨cs2, hb2, _⟩ := hM.row
  exact ⟨hM.hd.ne_ hb (by decide), hb2.ne_ hb (by decide)⟩
set_option maxRecDepth 100000 in
set_option maxHeartbeats 2000000 in
theorem ctrans_in (g gb cap n : Nat) (tl : Nat → Nat) (K : Nat → Core) (gm gf N cp : Nat) (m : Nat → Int) (i : Nat) (p : Int) (w : World) (hC : CoresAt w g gb cap n tl K) (hM : MemAt w gm gf N cp m) (hin : i < n) (p0 : 0 ≤ p) (p1 : p < 512) (hok : (K i).c.ok) :
    Calls Try.prog 23 #[.pointer (some ⟨g, 0, none⟩), .int .i64 i, .pointer (some ⟨gm, 0, none⟩), .int .i64 p] w fun e w' =>
      e = .returned (.tuple #[.agg (trIn N m p (K i)).1.row, .bool (trIn N m p (K i)).2.1, .int .i64 (trIn N m p (K i)).2.2]) ∧ CoresAt w' g gb cap n tl (upd K i ⟨(K i).rt, (K i).sp, trInC N m p (K i)⟩) ∧ Mod (· = tl i) w w' := by
  have hb0 := (Below.refl _ w).alloc (Nat.le_refl _) (.cells #[.int .i64 0, .int .i64 0, .int .i64 0, .bool false, .bool false] 42)
  have hC0 := hC.on hb0
  have hM0 := hM.on hb0
  have HT0 := hide (hC0.tlb i hin)
  obtain ⟨c0, c1, c2⟩ := hC0.cells i hin
  have HCK := hide (fun (c : Cache) (w2 : World) (ht : TlbAt w2 (tl i) c) (hm : Mod (· = tl i) w w2) => hC.setC i hin ht hm)
  have HA := hide (hM.apart (hC.tlb i hin))
  have HTw := hide (hC.tlb i hin)
  have htl := (hC.tlb i hin).lt
  have hgb := hC.ltb
  have hne := (hC.off i hin).2
  clear hC hM hb0
  obtain ⟨X, hX⟩ : ∃ X, K i = X := ⟨_, rfl⟩
  rw [hX] at c0 c1 HT0 HTw HCK hok ⊢
  clear hX
  obtain ⟨rt, sp, c⟩ := X
  dsimp only at c0 c1 HT0 HTw HCK hok ⊢
  have HFN := hide (fun (w2 : World) (hb : Below w.heap.size w w2) => And.intro (HCK.out c w2 (HTw.out.below hb htl) (Mod.of_below hb _)) (Mod.of_below hb (· = tl i)))
  obtain ⟨V, hV⟩ : ∃ V, trIn N m p ⟨rt, sp, c⟩ = V := ⟨_, rfl⟩
  obtain ⟨C', hC'⟩ : ∃ C', trInC N m p ⟨rt, sp, c⟩ = C' := ⟨_, rfl⟩
  rw [hV, hC']
  have HV := hide hV
  have HC' := hide hC'
  clear hV hC'
  go_enter Try.func23, Try.ntmps23
  go_upto_region 1 with fail
  have hk := Blk.new w 42 #[.int .i64 0, .int .i64 0, .int .i64 0, .bool false, .bool false]
  have hB : Below w.heap.size w (w.alloc (.cells #[.int .i64 0, .int .i64 0, .int .i64 0, .bool false, .bool false] 42)) := (Below.refl _ w).alloc (Nat.le_refl _) _
  generalize w.alloc (.cells #[.int .i64 0, .int .i64 0, .int .i64 0, .bool false, .bool false] 42) = W at *
  have HC0 := hide hC0
  have HM0 := hide hM0
  clear hC0 hM0
  generalize hH : w.heap.size = H at *
  have HH := hide hH
  clear hH
  go_wp2_with fail
  refine (cat_in _ _ _ _ _ _ i _ HC0.out hin).mono ?_
  rintro e w' ⟨rfl, rfl⟩
  by_cases hrt : rt < 0
  · have HV2 := hide (show V = (Tr.zero, false, 19) by rw [← HV.out]; unfold trIn; exact if_pos hrt)
    have HC2 := hide (show C' = c by rw [← HC'.out]; unfold trInC; exact if_pos hrt)
    clear HV HC'
    obtain ⟨e0, e1, e2, e3, e4⟩ := hk.c5
    obtain ⟨f0, f1, f2, f3, f4⟩ := hk.f5
    go_wp2_with fail
    have hb2 := below_set5 hB (Nat.le_refl _) (.int .i64 0) (.int .i64 0) (.int .i64 0) (.bool false) (.bool false)
    refine bodyPost_ret (results_cell_tmp2 rfl _ _ H 42 _ (0, 0) _ rfl (hk.set5 _ _ _ _ _) Try.underlying42 rfl (by kernel_rfl)) rfl ⟨by rw [HV2.out]; rfl, ?_⟩
    rw [HC2.out]
    exact HFN.out _ hb2
  have hrt0 : 0 ≤ rt := by omega
  obtain ⟨F, hF⟩ : ∃ F, findTr c sp p = F := ⟨_, rfl⟩
  obtain ⟨O, hO⟩ : ∃ O, findOk c sp p = O := ⟨_, rfl⟩
  have HF := hide hF
  have HO := hide hO
  clear hF hO
  have hlb := HC0.out.ltb
  have hz := ((Below.refl W.heap.size W).alloc (Nat.le_refl _) (.cells #[.int .i64 0, .int .i64 0, .int .i64 0, .bool false, .bool false] 42)).drew
  have HX5 := hide ((Blk.new W 42 #[.int .i64 0, .int .i64 0, .int .i64 0, .bool false, .bool false]).drew)
  have HT5 := hide (HT0.out.below hz HT0.out.lt)
  have HZ := hide hz
  clear hz
  go_upto_region 8 with fail
  go_cut [13, 14] (fun s13 s14 wx => ∃ b, s13 = .pointer (some ⟨b, 0, none⟩) ∧ s14 = .bool O ∧ Blk wx b 42 #[.int .i64 F.sp, .int .i64 F.pg, .int .i64 F.fr, .bool F.rd, .bool F.wr] ∧ W.heap.size ≤ b ∧ Below W.heap.size W wx)
  case first =>
    go_region_held3 (fun w' => w'.cell? ⟨gb, i * 3 + 1, none⟩ = some (.int .i64 sp) ∧ w'.cell? ⟨gb, i * 3 + 2, none⟩ = some (.pointer (some ⟨tl i, 0, none⟩)) ∧ Below W.heap.size W w') (first | (with_reducible assumption) | (with_reducible exact TwoB.start c1 c2) | (with_reducible exact TwoB.of c1 c2 hlb hlb HZ.out) | (with_reducible exact TwoB.alloc hlb hlb c1 c2 (by assumption)) | (with_reducible exact TwoB.alloc' hlb hlb c1 c2 (by assumption)) | (with_reducible exact TwoB.set5 hlb hlb c1 c2 (Nat.le_refl _) (by assumption)) | (with_reducible exact TwoB.set5 hlb hlb c1 c2 hle (by assumption))) ((first
      | (go_at_call 51; refine (find_in _ _ _ _ _ HT5.out).mono ?_; rintro e w6 ⟨rfl, hb6⟩; rw [HF.out, HO.out]; unfold Tr.row; have hx6 := HX5.out.below hb6 HX5.out.lt; have hS6 := TwoB.of c1 c2 hlb hlb (HZ.out.trans (hb6.mono HZ.out.size)); have x0 := hx6.cell 0; have x1 := hx6.cell 1; have x2 := hx6.cell 2; have x3 := hx6.cell 3; have x4 := hx6.cell 4; have y0 := hx6.frozen 0; have y1 := hx6.frozen 1; have y2 := hx6.frozen 2; have y3 := hx6.frozen 3; have y4 := hx6.frozen 4)
      | (go_at_call 51; refine (find_in _ _ _ _ _ HT0.out.drew).mono ?_; rintro e w6 ⟨rfl, hb6⟩; rw [HF.out, HO.out]; unfold Tr.row; have hle : W.heap.size ≤ w6.heap.size := hb6.size; have hS6 := TwoB.of c1 c2 hlb hlb ((Below.refl _ W).drew.trans hb6))))
    · go_wp2
      go_meet
      case rel => exact ⟨w6.heap.size, rfl, rfl, Blk.new _ _ _, hle, hS6.2.2.alloc hle _⟩
    all_goals
      go_wp2
      go_meet
      case rel => exact ⟨W.heap.size, rfl, rfl, hx6.set5 _ _ _ _ _, Nat.le_refl _, below_set5 hS6.2.2 (Nat.le_refl _) _ _ _ _ _⟩
  case rest =>
    obtain ⟨b, rfl, rfl, hkx, hlb2, hb6⟩ := hcut
    clear HX5 HT5 HZ
    have hHl := hk.lt
    replace hB := hB.trans (hb6.mono (Nat.le_of_lt hHl))
    replace hk := hk.below hb6 hHl
    have HM6 := hide (HM0.out.on hb6)
    have HT6 := hide (HT0.out.below hb6 HT0.out.lt)
    replace c0 := (hb6.cell (p := ⟨gb, i * 3, none⟩) hlb).trans c0
    replace c1 := (hb6.cell (p := ⟨gb, i * 3 + 1, none⟩) hlb).trans c1
    replace c2 := (hb6.cell (p := ⟨gb, i * 3 + 2, none⟩) hlb).trans c2
    have hlb6 := Nat.lt_of_lt_of_le hlb hb6.size
    have hbH : H < b := by omega
    clear HC0 HM0 HT0 hb6 hlb hlb2 hHl
    cases O with
    | true =>
      have HV2 := hide (show V = (F, true, 0) by rw [← HV.out, ← HF.out]; unfold trIn; rw [if_neg (show ¬ rt < 0 by omega), if_pos HO.out])
      have HC2 := hide (show C' = c by rw [← HC'.out]; unfold trInC; rw [if_neg (show ¬ rt < 0 by omega), if_pos HO.out])
      clear HV HC'
      obtain ⟨d0, d1, d2, d3, d4⟩ := hkx.c5
      obtain ⟨e0, e1, e2, e3, e4⟩ := hk.c5
      obtain ⟨f0, f1, f2, f3, f4⟩ := hk.f5
      go_wp2_with fail
      have hb2 := below_set5 hB (Nat.le_refl _) (.int .i64 F.sp) (.int .i64 F.pg) (.int .i64 F.fr) (.bool F.rd) (.bool F.wr)
      refine bodyPost_ret (results_cell_tmp2 rfl _ _ H 42 _ (0, 0) _ rfl (hk.set5 _ _ _ _ _) Try.underlying42 rfl (by kernel_rfl)) rfl ⟨by rw [HV2.out]; rfl, ?_⟩
      rw [HC2.out]
      exact HFN.out _ hb2
    | false =>
      by_cases hwe : wlkE N m rt p = 0
      · have HV2 := hide (show V = (wlkT N m rt p sp, false, 0) by rw [← HV.out]; unfold trIn; rw [if_neg (show ¬ rt < 0 by omega), if_neg (by rw [HO.out]; decide), if_pos hwe])
        have HC2 := hide (show C' = fillC c (wlkT N m rt p sp) by rw [← HC'.out]; unfold trInC; rw [if_neg (show ¬ rt < 0 by omega), if_neg (by rw [HO.out]; decide), if_pos hwe])
        clear HV HC'
        obtain ⟨hwc, _⟩ := wlk_good N m rt p hwe
        have HWT := hide (show wlkT N m rt p sp = ⟨sp, p, leafX N m rt p / 256 % 64, bitB (leafX N m rt p) 2, bitB (leafX N m rt p) 3⟩ from rfl)
        have HWW := hide (fun W => wwalk_any gm gf N cp m rt p W)
        rw [hwc, hwe] at HWW
        generalize wlkT N m rt p sp = T at *
        generalize leafX N m rt p / 256 % 64 = f at *
        generalize bitB (leafX N m rt p) 2 = rb at *
        generalize bitB (leafX N m rt p) 3 = wb at *
        clear hwc hwe
        go_wp2_with fail
        refine (HWW.out _ HM6.out).mono ?_
        rintro e w7 ⟨rfl, hb7⟩
        clear HWW HM6
        have hHl := hk.lt
        replace hB := hB.trans (hb7.mono (Nat.le_of_lt hHl))
        replace hk := blk_below hk hb7
        have HT7 := hide (HT6.out.below hb7 HT6.out.lt)
        replace c1 := (hb7.cell (p := ⟨gb, i * 3 + 1, none⟩) hlb6).trans c1
        replace c2 := (hb7.cell (p := ⟨gb, i * 3 + 2, none⟩) hlb6).trans c2
        have hlb7 := Nat.lt_of_lt_of_le hlb6 hb7.size
        have hH7 := hk.lt
        have hke := Blk.new w7 50 #[.bool true, .bool true, .bool rb, .bool wb, .int .i64 f]
        have hb8 := (Below.refl w7.heap.size w7).alloc (Nat.le_refl _) (.cells #[.bool true, .bool true, .bool rb, .bool wb, .int .i64 f] 50)
        replace hB := hB.trans (hb8.mono (Nat.le_of_lt hH7))
        replace hk := hk.below hb8 hH7
        have HT8 := hide (HT7.out.below hb8 HT7.out.lt)
        replace c1 := (hb8.cell (p := ⟨gb, i * 3 + 1, none⟩) hlb7).trans c1
        replace c2 := (hb8.cell (p := ⟨gb, i * 3 + 2, none⟩) hlb7).trans c2
        have hlb8 := Nat.lt_of_lt_of_le hlb7 hb8.size
        clear c0 hb7 hb8 HT6 HT7 hkx hHl hlb6 hlb7
        go_upto_region 14 with fail
        generalize w7.alloc (.cells #[.bool true, .bool true, .bool rb, .bool wb, .int .i64 f] 50) = w8 at *
        generalize w7.heap.size = G at *
        obtain ⟨d0, d1, d2, d3, d4⟩ := hke.c5
        have hGl := hke.lt
        have HK4 := hide (fun (W : World) (hb : Below w8.heap.size w8 W) => (show W.cell? ⟨gb, i * 3 + 1, none⟩ = some (.int .i64 sp) ∧ W.cell? ⟨G, 2, none⟩ = some (.bool rb) ∧ W.cell? ⟨G, 3, none⟩ = some (.bool wb) ∧ W.cell? ⟨G, 4, none⟩ = some (.int .i64 f) ∧ Below w8.heap.size w8 W from
          ⟨(hb.cell (p := ⟨gb, i * 3 + 1, none⟩) hlb8).trans c1, (hb.cell (p := ⟨G, 2, none⟩) hGl).trans d2, (hb.cell (p := ⟨G, 3, none⟩) hGl).trans d3, (hb.cell (p := ⟨G, 4, none⟩) hGl).trans d4, hb⟩))
        go_region_held3 (fun w' => w'.cell? ⟨gb, i * 3 + 1, none⟩ = some (.int .i64 sp) ∧ w'.cell? ⟨G, 2, none⟩ = some (.bool rb) ∧ w'.cell? ⟨G, 3, none⟩ = some (.bool wb) ∧ w'.cell? ⟨G, 4, none⟩ = some (.int .i64 f) ∧ Below w8.heap.size w8 w') (first | (with_reducible assumption) | (with_reducible exact HK4.out _ (Below.refl _ w8).drew) | (exact HK4.out _ (by go_grown))) (fail)
        rename_i hH
        clear hH HK4
        have hk9 := (Blk.new w8 42 #[.int .i64 sp, .int .i64 p, .int .i64 f, .bool rb, .bool wb]).drew
        have hb9 := ((Below.refl w8.heap.size w8).alloc (Nat.le_refl _) (.cells #[.int .i64 sp, .int .i64 p, .int .i64 f, .bool rb, .bool wb] 42)).drew
        have hH8 := hk.lt
        replace hB := hB.trans (hb9.mono (Nat.le_of_lt hH8))
        replace hk := hk.below hb9 hH8
        have HT9 := hide (HT8.out.below hb9 HT8.out.lt)
        replace c2 := (hb9.cell (p := ⟨gb, i * 3 + 2, none⟩) hlb8).trans c2
        clear c1 d0 d1 d2 d3 d4 hke hb9 HT8
        go_upto_region 15 with fail
        generalize (w8.alloc (.cells #[.int .i64 sp, .int .i64 p, .int .i64 f, .bool rb, .bool wb] 42)).drew = w9 at *
        generalize w8.heap.size = G2 at *
        obtain ⟨d0, d1, d2, d3, d4⟩ := hk9.c5
        have hne2 : G2 ≠ tl i := fun e => by omega
        have HK6 := hide (fun (W : World) (hb : Mod (· = tl i) w9 W) => (show W.cell? ⟨gb, i * 3 + 2, none⟩ = some (.pointer (some ⟨tl i, 0, none⟩)) ∧ W.cell? ⟨G2, 0, none⟩ = some (.int .i64 sp) ∧ W.cell? ⟨G2, 1, none⟩ = some (.int .i64 p) ∧ W.cell? ⟨G2, 2, none⟩ = some (.int .i64 f) ∧ W.cell? ⟨G2, 3, none⟩ = some (.bool rb) ∧ W.cell? ⟨G2, 4, none⟩ = some (.bool wb) ∧ Mod (· = tl i) w9 W from
          ⟨(hb.cell (fun e => hne e.symm) (by have := hk9.lt; omega)).trans c2, (hb.cell hne2 hk9.lt).trans d0, (hb.cell hne2 hk9.lt).trans d1, (hb.cell hne2 hk9.lt).trans d2, (hb.cell hne2 hk9.lt).trans d3, (hb.cell hne2 hk9.lt).trans d4, hb⟩))
        go_region_held3 (fun w' => w'.cell? ⟨gb, i * 3 + 2, none⟩ = some (.pointer (some ⟨tl i, 0, none⟩)) ∧ w'.cell? ⟨G2, 0, none⟩ = some (.int .i64 sp) ∧ w'.cell? ⟨G2, 1, none⟩ = some (.int .i64 p) ∧ w'.cell? ⟨G2, 2, none⟩ = some (.int .i64 f) ∧ w'.cell? ⟨G2, 3, none⟩ = some (.bool rb) ∧ w'.cell? ⟨G2, 4, none⟩ = some (.bool wb) ∧ Mod (· = tl i) w9 w') (first | (with_reducible assumption) | (with_reducible exact HK6.out _ (Mod.refl _ w9).drew)) ((go_at_call 52; have hfl := fill_any (tl i) c T _ HT9.out.drew hok; rw [HWT.out] at hfl; refine hfl.mono ?_; rintro e w10 ⟨rfl, ht10, hm10⟩; have hS10 := HK6.out _ ((Mod.refl _ w9).drew.trans hm10)))
        have hm10' := Mod.of_drew hm10
        have hHt : H ≠ tl i := fun e => by omega
        replace hk := hk.mod hm10' hHt
        have HMW := hide ((Mod.of_below (HH.out ▸ hB) (· = tl i)).trans hm10')
        have HT10 := hide ht10
        obtain ⟨_, r0, r1, r2, r3, r4, _⟩ := hS10
        obtain ⟨e0, e1, e2, e3, e4⟩ := hk.c5
        obtain ⟨f0, f1, f2, f3, f4⟩ := hk.f5
        rename_i hHeld
        clear HK6 d0 d1 d2 d3 d4 c2 hm10 hm10' ht10 hHeld
        go_wp2_with fail
        refine bodyPost_ret (results_cell_tmp2 rfl _ _ H 42 _ (0, 0) _ rfl (hk.set5 _ _ _ _ _) Try.underlying42 rfl (by kernel_rfl)) rfl ⟨by rw [HV2.out, HWT.out]; rfl, ?_⟩
        rw [HC2.out, HWT.out]
        have hm2 := mod_set5 HMW.out (.inr (Nat.le_of_eq HH.out)) (.int .i64 sp) (.int .i64 p) (.int .i64 f) (.bool rb) (.bool wb)
        have hm3 := mod_set5 (Mod.refl (· = H) w10) (.inl rfl) (.int .i64 sp) (.int .i64 p) (.int .i64 f) (.bool rb) (.bool wb)
        exact ⟨HCK.out _ _ (HT10.out.mod hm3 (fun e => hHt e.symm)) hm2, hm2⟩
      · have HV2 := hide (show V = (Tr.zero, false, wlkE N m rt p) by rw [← HV.out]; unfold trIn; rw [if_neg (show ¬ rt < 0 by omega), if_neg (by rw [HO.out]; decide), if_neg hwe])
        have HC2 := hide (show C' = c by rw [← HC'.out]; unfold trInC; rw [if_neg (show ¬ rt < 0 by omega), if_neg (by rw [HO.out]; decide), if_neg hwe])
        clear HV HC'
        obtain ⟨x0, x1, x2, x3, x4, hwc⟩ : ∃ (a b c d : Bool) (f : Int), wlkC N m rt p = #[.bool a, .bool b, .bool c, .bool d, .int .i64 f] := by
          unfold wlkC
          split
          · exact entC_lit _ _ _
          · exact ⟨_, _, _, _, _, rfl⟩
        have HWW := hide (fun W => wwalk_any gm gf N cp m rt p W)
        rw [hwc] at HWW
        generalize wlkE N m rt p = E at *
        have t : (E != 0) = true := bne_iff_ne.2 hwe
        clear hwc hwe
        go_wp2_with fail
        refine (HWW.out _ HM6.out).mono ?_
        rintro e w7 ⟨rfl, hb7⟩
        clear HWW HM6
        have hHl := hk.lt
        replace hB := hB.trans (hb7.mono (Nat.le_of_lt hHl))
        replace hk := blk_below hk hb7
        have hH7 := hk.lt
        replace hB := hB.alloc (Nat.le_of_lt hH7) (.cells #[.bool x0, .bool x1, .bool x2, .bool x3, .int .i64 x4] 50)
        replace hk := hk.alloc (.cells #[.bool x0, .bool x1, .bool x2, .bool x3, .int .i64 x4] 50)
        obtain ⟨e0, e1, e2, e3, e4⟩ := hk.c5
        obtain ⟨f0, f1, f2, f3, f4⟩ := hk.f5
        clear c0 c1 c2 hb7 HT6 hkx hHl hlb6
        go_upto_region 13 with fail
        generalize w7.alloc (.cells #[.bool x0, .bool x1, .bool x2, .bool x3, .int .i64 x4] 50) = w8 at *
        go_wp2_with fail
        have hb2 := below_set5 hB (Nat.le_refl _) (.int .i64 0) (.int .i64 0) (.int .i64 0) (.bool false) (.bool false)
        refine bodyPost_ret (results_cell_tmp2 rfl _ _ H 42 _ (0, 0) _ rfl (hk.set5 _ _ _ _ _) Try.underlying42 rfl (by kernel_rfl)) rfl ⟨by rw [HV2.out]; rfl, ?_⟩
        rw [HC2.out]
        exact HFN.out _ hb2
end Go.Proofs.Ytlfenakabedmfaa
