/- The calls of no cache. -/
import Derived.Test.YtlfenakabedmfaaTlb7
namespace Go.Proofs.Ytlfenakabedmfaa
open Go.RowKit Go.Shelf
attribute [local go_sem] Oper.semAt_some
set_option maxHeartbeats 4000000 in
theorem there_none (F : Fence) (n : Nat) (hF : WideF F Try.prog) (hro : F.round = none) (Bt : Nat) (w : World) (bt : Blk w Bt 99 #[.pointer none]) :
    Iter F n Try.prog 89 #[.pointer (some ⟨Bt, 0, none⟩)] (fun _ : Nat => #[.pointer none]) (fun _ _ _ => False) (fun _ _ _ _ => False) (fun xs _ => xs = []) w := by
  intro l J Jx W hsk hl hJ hJx hY h0
  replace bt := hsk.blk bt
  have c0 := bt.cell 0
  refine callsIn_of_wp Try.func89 rfl (hF.fn _) ?_ hro
  simp only [Try.ntmps89, List.size_toArray, List.length_cons, List.length_nil, Nat.reduceAdd, Nat.reduceSub, Array.replicate_succ, Array.replicate_zero, List.push_toArray, List.append_toArray, List.nil_append, List.cons_append]
  clear hF hY hJ hJx bt
  gi_wp2
  refine bodyPost_ret (results_none rfl _ _ _) rfl ?_
  exact ⟨⟨_, rfl⟩, .inl ⟨_, rfl, h0⟩⟩
set_option maxRecDepth 100000 in
set_option maxHeartbeats 4000000 in
theorem find_nil_F (F : Fence) (q : Nat) (hF : WideF F Try.prog) (hro : F.round = none) (hq : 3 ≤ q) (sp pg : Int) (w : World) :
    CallsIn F q Try.prog 51 #[.pointer none, .int .i64 sp, .int .i64 pg] w fun e w' => e = .returned (.tuple #[.agg Tr.zero.row, .bool false]) ∧ Below w.heap.size w w' := by
  have hq1 : 1 ≤ q := by omega
  have HF := hide hF
  have hfn := hF.fn
  refine callsIn_of_wp_marks Try.func51 rfl (hF.fn _) ?_ hro
  clear hF
  simp only [Try.ntmps51, List.size_toArray, List.length_cons, List.length_nil, Nat.reduceAdd, Nat.reduceSub, Array.replicate_succ, Array.replicate_zero, List.push_toArray, List.append_toArray, List.nil_append, List.cons_append]
  gi_wp2_with (gi_at_call 73; refine (there_in F (q - 1) HF.out hro _ _).mono ?_; rintro e w' ⟨rfl, rfl⟩)
  obtain ⟨W0, hW0⟩ : ∃ W0 : World, (((((w.alloc (.cells #[.int .i64 sp] 3)).alloc (.cells #[.int .i64 pg] 3)).alloc (.cells Tr.zero.row 42)).alloc (.cells #[.bool false] 4)).alloc (.cells #[.pointer none] 99)) = W0 := ⟨_, rfl⟩
  have b0 : Blk W0 w.heap.size 3 #[.int .i64 sp] := by rw [← hW0]; exact ((((Blk.new w _ _).alloc _).alloc _).alloc _).alloc _
  have b1 : Blk W0 (w.heap.size + 1) 3 #[.int .i64 pg] := by
    have h := (((Blk.new (w.alloc (.cells #[.int .i64 sp] 3)) 3 #[.int .i64 pg]).alloc (.cells Tr.zero.row 42)).alloc (.cells #[.bool false] 4)).alloc (.cells #[.pointer none] 99)
    simp only [World.size_alloc] at h
    rw [← hW0]; exact h
  have b2 : Blk W0 (w.heap.size + 1 + 1) 42 Tr.zero.row := by
    have h := ((Blk.new ((w.alloc (.cells #[.int .i64 sp] 3)).alloc (.cells #[.int .i64 pg] 3)) 42 Tr.zero.row).alloc (.cells #[.bool false] 4)).alloc (.cells #[.pointer none] 99)
    simp only [World.size_alloc] at h
    rw [← hW0]; exact h
  have b3 : Blk W0 (w.heap.size + 1 + 1 + 1) 4 #[.bool false] := by
    have h := (Blk.new (((w.alloc (.cells #[.int .i64 sp] 3)).alloc (.cells #[.int .i64 pg] 3)).alloc (.cells Tr.zero.row 42)) 4 #[.bool false]).alloc (.cells #[.pointer none] 99)
    simp only [World.size_alloc] at h
    rw [← hW0]; exact h
  have b4 : Blk W0 (w.heap.size + 1 + 1 + 1 + 1) 99 #[.pointer none] := by
    have h := Blk.new ((((w.alloc (.cells #[.int .i64 sp] 3)).alloc (.cells #[.int .i64 pg] 3)).alloc (.cells Tr.zero.row 42)).alloc (.cells #[.bool false] 4)) 99 #[.pointer none]
    simp only [World.size_alloc] at h
    rw [← hW0]; exact h
  have hb0 : Below w.heap.size w W0 := by rw [← hW0]; exact ((((((Below.refl _ w).alloc (Nat.le_refl _) _).alloc (by simp) _).alloc (by simp; omega) _).alloc (by simp; omega) _).alloc (by simp; omega) _)
  change Code.wpIn _ _ _ _ _ _ (((((w.alloc (.cells #[.int .i64 sp] 3)).alloc (.cells #[.int .i64 pg] 3)).alloc (.cells Tr.zero.row 42)).alloc (.cells #[.bool false] 4)).alloc (.cells #[.pointer none] 99))
  rw [hW0]
  clear hW0
  have hl4 := b4.lt
  refine' wpIn_iter1 hro hq1 (gf := 89) (lb := _) rfl (hfn _) (enters_of Try.func89 (by kernel_rfl) rfl) (there_none F (q - 1) HF.out hro _ W0 b4)
    (fun _ _ _ _ _ _ _ h2 _ => h2.elim) (fun _ _ _ _ h _ => h.elim) (fun _ _ _ h _ => h) (fun _ => rfl)
    (fun pre W => Blk W w.heap.size 3 #[.int .i64 sp] ∧ Blk W (w.heap.size + 1) 3 #[.int .i64 pg] ∧ Blk W (w.heap.size + 1 + 1) 42 Tr.zero.row ∧ Blk W (w.heap.size + 1 + 1 + 1) 4 #[.bool false] ∧ Below w.heap.size w W)
    (fun _ _ _ => False)
    ?hI (fun _ _ _ _ h _ => h) ?h0 _ ?assign (fun _ _ _ _ _ _ _ h => h.elim) ?done (fun _ _ _ _ _ h _ => h.elim)
  case hI => exact fun s A C h hk => ⟨hk.blk h.1, hk.blk h.2.1, hk.blk h.2.2.1, hk.blk h.2.2.2.1, below_skips h.2.2.2.2 hk hb0.size (Nat.le_refl _)⟩
  case h0 => exact ⟨b0, b1, b2, b3, hb0⟩
  case assign =>
    intro l x W K hK
    gi_wp2
    exact hK
  case done =>
    rintro D xs W hD hxs ⟨hb0', hb1', hb2', hb3', hB⟩ hd
    subst hxs
    have HB2 := hide hb2'
    have HB3 := hide hb3'
    have HBB := hide hB
    have HDD := hide hd
    obtain ⟨r0, r1, r2, r3, r4⟩ := blk_row hb2'
    have q0 := hb2'.frozen 0
    have q1 := hb2'.frozen 1
    have q2 := hb2'.frozen 2
    have q3 := hb2'.frozen 3
    have q4 := hb2'.frozen 4
    have r5 := hb3'.cell 0
    have q5 := hb3'.frozen 0
    clear hb0' hb1' hb2' hb3' hB hd
    gi_wp2
    have hz2 := (blk5_set HB2.out Tr.zero).far (p := ⟨w.heap.size + 1 + 1 + 1, 0, none⟩) (show w.heap.size + 1 + 1 ≠ w.heap.size + 1 + 1 + 1 by omega) (.bool false)
    have hm3 := stored5_mod (Mod.refl (· = w.heap.size + 1 + 1) W) (g := w.heap.size + 1 + 1) (.inl rfl) 0 Tr.zero
    have hz3 := (HB3.out.mod hm3 (by omega)).set_ 0 (.bool false)
    have hmz := (stored5_mod (Mod.refl (fun k => k = w.heap.size + 1 + 1 ∨ k = w.heap.size + 1 + 1 + 1) W) (g := w.heap.size + 1 + 1) (.inl (.inl rfl)) 0 Tr.zero).setCell (p := ⟨w.heap.size + 1 + 1 + 1, 0, none⟩) (.inl (.inr rfl)) (.bool false)
    have hBz := below_mod HBB.out (Nat.le_refl _) hmz (fun k hk => by omega)
    have hdz := (keeps_set (p := ⟨w.heap.size + 1 + 1 + 1, 0, none⟩) (u := .bool false) (stored5_keeps (KeepsOthers.refl W) (w.heap.size + 1 + 1) 0 Tr.zero)).same D _ HDD.out rfl
    change bodyPostM F q Try.prog Try.f51 _ _ _ ((stored5 W (w.heap.size + 1 + 1) 0 Tr.zero).setCell ⟨w.heap.size + 1 + 1 + 1, 0, none⟩ (.bool false))
    clear hm3 hmz
    generalize (stored5 W (w.heap.size + 1 + 1) 0 Tr.zero).setCell ⟨w.heap.size + 1 + 1 + 1, 0, none⟩ (.bool false) = Wz at *
    have hz3 : Blk Wz (w.heap.size + 1 + 1 + 1) 4 #[.bool false] := hz3
    have skf := Skips.putObj (B := W0.heap.size) hdz rfl hD (.deferred none)
    refine ⟨by simp, .inl ⟨_, _, rfl, run_takeDeferred hdz, ?_⟩⟩
    have zr := skf.blk hz2
    have zb := skf.blk hz3
    obtain ⟨z0, z1, z2, z3, z4⟩ := blk_row zr
    have z5 := zb.cell 0
    refine ⟨.tuple #[.agg Tr.zero.row, .bool false], ?_, ?_, below_skips hBz skf hb0.size (Nat.le_refl _)⟩
    · simp [results, Try.f51, go_sem, z0, z1, z2, z3, z4, z5, Tr.row]
    · rfl
theorem find_none (sp pg : Int) (w : World) :
    Calls Try.prog 51 #[.pointer none, .int .i64 sp, .int .i64 pg] w fun e w' => e = .returned (.tuple #[.agg Tr.zero.row, .bool false]) ∧ Below w.heap.size w w' :=
  callsIn_wide.1 (find_nil_F Fence.wide 10 (wideF _) rfl (by omega) sp pg w)
set_option maxRecDepth 100000 in
set_option maxHeartbeats 4000000 in
theorem drop_nil_F (F : Fence) (q : Nat) (hF : WideF F Try.prog) (hro : F.round = none) (hq : 3 ≤ q) (f : FuncId) (lb : Array Value) (w : World) :
    CallsIn F q Try.prog 75 #[.pointer none, .func (.func f) #[] lb] w fun e w' => e = .returned (.int .i64 0) ∧ Below w.heap.size w w' := by
  have hq1 : 1 ≤ q := by omega
  have HF := hide hF
  have hfn := hF.fn
  refine callsIn_of_wp_marks Try.func75 rfl (hF.fn _) ?_ hro
  clear hF
  simp only [Try.ntmps75, List.size_toArray, List.length_cons, List.length_nil, Nat.reduceAdd, Nat.reduceSub, Array.replicate_succ, Array.replicate_zero, List.push_toArray, List.append_toArray, List.nil_append, List.cons_append]
  gi_wp2_with (gi_at_call 73; refine (there_in F (q - 1) HF.out hro _ _).mono ?_; rintro e w' ⟨rfl, rfl⟩)
  obtain ⟨W0, hW0⟩ : ∃ W0 : World, (((w.alloc (.cells #[.func (.func f) #[] lb] 164)).alloc (.cells #[.int .i64 0] 3)).alloc (.cells #[.pointer none] 99)) = W0 := ⟨_, rfl⟩
  have b0 : Blk W0 w.heap.size 164 #[.func (.func f) #[] lb] := by rw [← hW0]; exact ((Blk.new w _ _).alloc _).alloc _
  have b1 : Blk W0 (w.heap.size + 1) 3 #[.int .i64 0] := by
    have h := (Blk.new (w.alloc (.cells #[.func (.func f) #[] lb] 164)) 3 #[.int .i64 0]).alloc (.cells #[.pointer none] 99)
    simp only [World.size_alloc] at h
    rw [← hW0]; exact h
  have b2 : Blk W0 (w.heap.size + 1 + 1) 99 #[.pointer none] := by
    have h := Blk.new ((w.alloc (.cells #[.func (.func f) #[] lb] 164)).alloc (.cells #[.int .i64 0] 3)) 99 #[.pointer none]
    simp only [World.size_alloc] at h
    rw [← hW0]; exact h
  have hbw : Below w.heap.size w W0 := by rw [← hW0]; exact (((Below.refl _ w).alloc (Nat.le_refl _) _).alloc (by simp) _).alloc (by simp; omega) _
  have hb0 := hbw
  change Code.wpIn _ _ _ _ _ _ (((w.alloc (.cells #[.func (.func f) #[] lb] 164)).alloc (.cells #[.int .i64 0] 3)).alloc (.cells #[.pointer none] 99))
  rw [hW0]
  clear hW0
  have hl4 := b2.lt
  refine' wpIn_iter1 hro hq1 (gf := 89) (lb := _) rfl (hfn _) (enters_of Try.func89 (by kernel_rfl) rfl) (there_none F (q - 1) HF.out hro _ W0 b2)
    (fun _ _ _ _ _ _ _ h2 _ => h2.elim) (fun _ _ _ _ h _ => h.elim) (fun _ _ _ h _ => h) (fun _ => rfl)
    (fun pre W => Blk W (w.heap.size + 1) 3 #[.int .i64 0] ∧ Blk W (w.heap.size + 1 + 1) 99 #[.pointer none] ∧ Below w.heap.size w W)
    (fun _ _ _ => False)
    ?hI (fun _ _ _ _ h _ => h) ?h0 _ ?assign (fun _ _ _ _ _ _ _ h => h.elim) ?done (fun _ _ _ _ _ h _ => h.elim)
  case hI =>
    rintro s A C ⟨h3, h4, h5⟩ hk
    exact ⟨hk.blk h3, hk.blk h4, below_skips h5 hk hb0.size (Nat.le_refl _)⟩
  case h0 => exact ⟨b1, b2, hbw⟩
  case assign =>
    intro l x W K hK
    gi_wp2
    exact hK
  case done =>
    rintro D xs W hD rfl ⟨hn, hbt, hm⟩ hd
    have c1 := hn.cell 0
    have HM := hide hm
    clear hn hbt hm
    gi_wp2
    have sk := Skips.putObj (B := W0.heap.size) hd rfl hD (.deferred none)
    refine ⟨by simp, .inl ⟨_, _, rfl, run_takeDeferred hd, ?_⟩⟩
    exact ⟨_, by simp [results, Try.f75, go_sem], rfl, below_skips HM.out sk hb0.size (Nat.le_refl _)⟩
theorem drop_none (f : FuncId) (lb : Array Value) (w : World) :
    Calls Try.prog 75 #[.pointer none, .func (.func f) #[] lb] w fun e w' => e = .returned (.int .i64 0) ∧ Below w.heap.size w w' :=
  callsIn_wide.1 (drop_nil_F Fence.wide 10 (wideF _) rfl (by omega) f lb w)
set_option maxHeartbeats 1000000 in
theorem dropPage_nil (sp pg : Int) (w : World) : Calls Try.prog 50 #[.pointer none, .int .i64 sp, .int .i64 pg] w fun e w' => e = .returned (.int .i64 0) ∧ Below w.heap.size w w' := by
  go_enter Try.func50, Try.ntmps50
  go_wp2_with fail
  have hb0 := ((Below.refl _ w).alloc (Nat.le_refl _) (.cells #[.int .i64 sp] 3)).alloc (by simp) (.cells #[.int .i64 pg] 3)
  refine (drop_none _ _ _).mono ?_
  rintro e w1 ⟨rfl, hb⟩
  have HB := hide (hb0.trans (hb.mono hb0.size))
  clear hb hb0
  go_wp2_with fail
  go_ret
  exact ⟨rfl, HB.out⟩
set_option maxHeartbeats 1000000 in
theorem dropSpace_nil (sp : Int) (w : World) : Calls Try.prog 55 #[.pointer none, .int .i64 sp] w fun e w' => e = .returned (.int .i64 0) ∧ Below w.heap.size w w' := by
  go_enter Try.func55, Try.ntmps55
  go_wp2_with fail
  have hb0 := (Below.refl _ w).alloc (Nat.le_refl _) (.cells #[.int .i64 sp] 3)
  refine (drop_none _ _ _).mono ?_
  rintro e w1 ⟨rfl, hb⟩
  have HB := hide (hb0.trans (hb.mono hb0.size))
  clear hb hb0
  go_wp2_with fail
  go_ret
  exact ⟨rfl, HB.out⟩
set_option maxRecDepth 100000 in
set_option maxHeartbeats 4000000 in
theorem all_nil_F (F : Fence) (q : Nat) (hF : WideF F Try.prog) (hro : F.round = none) (hq : 3 ≤ q) (w : World) :
    CallsIn F q Try.prog 47 #[.pointer none] w fun e w' => e = .returned (.slice none 0 0) ∧ Below w.heap.size w w' := by
  have hq1 : 1 ≤ q := by omega
  have HF := hide hF
  have hfn := hF.fn
  refine callsIn_of_wp_marks Try.func47 rfl (hF.fn _) ?_ hro
  clear hF
  simp only [Try.ntmps47, List.size_toArray, List.length_cons, List.length_nil, Nat.reduceAdd, Nat.reduceSub, Array.replicate_succ, Array.replicate_zero, List.push_toArray, List.append_toArray, List.nil_append, List.cons_append]
  gi_wp2_with (gi_at_call 73; refine (there_in F (q - 1) HF.out hro _ _).mono ?_; rintro e w' ⟨rfl, rfl⟩)
  obtain ⟨W0, hW0⟩ : ∃ W0 : World, (w.alloc (.cells #[.slice none 0 0] 38)).alloc (.cells #[.pointer none] 99) = W0 := ⟨_, rfl⟩
  have b0 : Blk W0 w.heap.size 38 #[.slice none 0 0] := by rw [← hW0]; exact (Blk.new w _ _).alloc _
  have b1 : Blk W0 (w.heap.size + 1) 99 #[.pointer none] := by
    have h := Blk.new (w.alloc (.cells #[.slice none 0 0] 38)) 99 #[.pointer none]
    simp only [World.size_alloc] at h
    rw [← hW0]; exact h
  have hb0 : Below w.heap.size w W0 := by rw [← hW0]; exact ((Below.refl _ w).alloc (Nat.le_refl _) _).alloc (by simp) _
  change Code.wpIn _ _ _ _ _ _ ((w.alloc (.cells #[.slice none 0 0] 38)).alloc (.cells #[.pointer none] 99))
  rw [hW0]
  clear hW0
  have hl4 := b1.lt
  obtain ⟨i0, hi0, hz0, hz1, hz2⟩ := info_parts transInfo
  refine' wpIn_iter1 hro hq1 (gf := 89) (lb := _) rfl (hfn _) (enters_of Try.func89 (by kernel_rfl) rfl) (there_none F (q - 1) HF.out hro _ W0 b1)
    (fun _ _ _ _ _ _ _ h2 _ => h2.elim) (fun _ _ _ _ h _ => h.elim) (fun _ _ _ h _ => h) (fun _ => rfl)
    (fun pre W => Blk W (w.heap.size + 1) 99 #[.pointer none] ∧ Blk W w.heap.size 38 #[.slice none 0 0] ∧ Below w.heap.size w W)
    (fun _ _ _ => False)
    ?hI (fun _ _ _ _ h _ => h) ?h0 _ ?assign (fun _ _ _ _ _ _ _ h => h.elim) ?done (fun _ _ _ _ _ h _ => h.elim)
  case hI =>
    rintro s A C ⟨h2, h3, h5⟩ hk
    exact ⟨hk.blk h2, hk.blk h3, below_skips h5 hk hb0.size (Nat.le_refl _)⟩
  case h0 => exact ⟨b1, b0, hb0⟩
  case assign =>
    intro l x W K hK
    gi_wp2
    exact hK
  case done =>
    rintro D xs W hD rfl ⟨hb, hv, hB⟩ hd
    have c1 := hv.cell 0
    have HB := hide hB
    have HV := hide hv
    clear hB hb hv
    gi_wp2
    have sk := Skips.putObj (B := W0.heap.size) hd rfl hD (.deferred none)
    refine ⟨by simp, .inl ⟨_, _, rfl, run_takeDeferred hd, ?_⟩⟩
    exact ⟨_, by simp [results, Try.f47, go_sem], rfl, below_skips HB.out sk hb0.size (Nat.le_refl _)⟩
theorem all_none (w : World) :
    Calls Try.prog 47 #[.pointer none] w fun e w' => e = .returned (.slice none 0 0) ∧ Below w.heap.size w w' :=
  callsIn_wide.1 (all_nil_F Fence.wide 10 (wideF _) rfl (by omega) w)
/-- What filling leaves. -/
def fillC (c : Cache) (x : Tr) : Cache :=
  match x with
  | ⟨a, pN, fr, rd, wb⟩ =>
    if 1 ≤ a ∧ 0 ≤ pN ∧ pN < 512 ∧ 0 ≤ fr ∧ fr < 64 ∧ (rd = true ∨ wb = true) then
      let s := pN.toNat % 4
      if wayV c s a pN = 0 then c.put (2 * s) x else if wayV c s a pN = 1 then c.put (2 * s + 1) x else if c.due s = 0 then (c.setDue s 1).put (2 * s) x else (c.setDue s 0).put (2 * s + 1) x
    else c
def fillE (x : Tr) : Int := if 1 ≤ x.sp ∧ 0 ≤ x.pg ∧ x.pg < 512 ∧ 0 ≤ x.fr ∧ x.fr < 64 ∧ (x.rd = true ∨ x.wr = true) then 0 else 2
/-- Which way is due is 0 or 1. -/
def Cache.ok (c : Cache) : Prop := ∀ s, s < 4 → c.due s = 0 ∨ c.due s = 1
theorem wayV_of (c : Cache) (s : Nat) (a p : Int) : wayV c s a p = 0 ∨ wayV c s a p = 1 ∨ wayV c s a p = -1 := by
  unfold wayV
  repeat' split
  all_goals simp
theorem fill_any (g : Nat) (c : Cache) (x : Tr) (w : World) (hT : TlbAt w g c) (hc : c.ok) :
    Calls Try.prog 52 #[.pointer (some ⟨g, 0, none⟩), .agg x.row] w fun e w' => e = .returned (.int .i64 (fillE x)) ∧ TlbAt w' g (fillC c x) ∧ Mod (· = g) w w' := by
  by_cases h : mayFill x
  · obtain ⟨a, p, fr, rd, wb⟩ := x
    have h' : 1 ≤ a ∧ 0 ≤ p ∧ p < 512 ∧ 0 ≤ fr ∧ fr < 64 ∧ (rd = true ∨ wb = true) := h
    obtain ⟨pN, rfl⟩ := Int.eq_ofNat_of_zero_le h'.2.1
    have hs : pN % 4 < 4 := Nat.mod_lt _ (by decide)
    have e0 : fillE ⟨a, pN, fr, rd, wb⟩ = 0 := if_pos h'
    rw [e0]
    have e1 : fillC c ⟨a, pN, fr, rd, wb⟩ = if wayV c (pN % 4) a pN = 0 then c.put (2 * (pN % 4)) ⟨a, pN, fr, rd, wb⟩ else if wayV c (pN % 4) a pN = 1 then c.put (2 * (pN % 4) + 1) ⟨a, pN, fr, rd, wb⟩ else if c.due (pN % 4) = 0 then (c.setDue (pN % 4) 1).put (2 * (pN % 4)) ⟨a, pN, fr, rd, wb⟩ else (c.setDue (pN % 4) 0).put (2 * (pN % 4) + 1) ⟨a, pN, fr, rd, wb⟩ := if_pos h'
    refine fill_ways g pN c a fr rd wb w hT h'.1 (by omega) h'.2.2.2.1 h'.2.2.2.2.1 h'.2.2.2.2.2 _ (hc _ hs) (fun e => ?_) (fun e => ?_) (fun e d => ?_) (fun e d => ?_)
    · rw [e1, if_pos e]
    · rw [e1, if_neg (by rw [e]; decide), if_pos e]
    · rw [e1, if_neg (by rw [e]; decide), if_neg (by rw [e]; decide), if_pos d]
    · rw [e1, if_neg (by rw [e]; decide), if_neg (by rw [e]; decide), if_neg (by rw [d]; decide)]
  · refine (fill_bad g x w h).mono ?_
    rintro e w' ⟨rfl, hb⟩
    have e0 : fillE x = 2 := if_neg h
    have e1 : fillC c x = c := by
      obtain ⟨a, p, fr, rd, wb⟩ := x
      exact if_neg h
    rw [e0, e1]
    exact ⟨rfl, hT.below hb hT.lt, Mod.of_below hb _⟩
theorem fillC_ok {c : Cache} (h : c.ok) (x : Tr) : (fillC c x).ok := by
  obtain ⟨a, p, fr, rd, wb⟩ := x
  unfold fillC
  dsimp only
  split
  · split
    · exact h
    · split
      · exact h
      · split
        all_goals
          intro s hs
          simp only [Cache.put, Cache.setDue]
          split
          · simp
          · exact h s hs
  · exact h
end Go.Proofs.Ytlfenakabedmfaa
