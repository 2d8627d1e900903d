/- The walks of package cores: at, Len, Regs, Set, Evict, All. -/
import Derived.Test.YtlfenakabedmfaaCores
import Derived.Test.YtlfenakabedmfaaTlb8
namespace Go.Proofs.Ytlfenakabedmfaa
open Go.RowKit Go.Shelf
theorem cat_nil (k : Int) (w : World) : Calls Try.prog 46 #[.pointer none, .int .i64 k] w fun e w' => e = .returned (.tuple #[.pointer none, .int .i64 1]) ∧ w = w' := by
  go_enter Try.func46, Try.ntmps46
  go_wp2_with fail
  go_ret2
  exact ⟨rfl, rfl⟩
theorem cat_bad (g gb cap n : Nat) (tl : Nat → Nat) (K : Nat → Core) (k : Int) (w : World) (hC : CoresAt w g gb cap n tl K) (h : k < 0 ∨ (n : Int) ≤ k) :
    Calls Try.prog 46 #[.pointer (some ⟨g, 0, none⟩), .int .i64 k] w fun e w' => e = .returned (.tuple #[.pointer none, .int .i64 3]) ∧ w = w' := by
  have c0 := hC.hd0
  clear hC
  rcases h with h | h
  all_goals
    by_cases h2 : k < 0
    · go_enter Try.func46, Try.ntmps46
      go_wp2_with fail
      go_ret2
      exact ⟨rfl, rfl⟩
    · first
      | exact absurd h h2
      | go_enter Try.func46, Try.ntmps46
        go_wp2_with fail
        go_ret2
        exact ⟨rfl, rfl⟩
theorem cat_in (g gb cap n : Nat) (tl : Nat → Nat) (K : Nat → Core) (i : Nat) (w : World) (hC : CoresAt w g gb cap n tl K) (h : i < n) :
    Calls Try.prog 46 #[.pointer (some ⟨g, 0, none⟩), .int .i64 i] w fun e w' => e = .returned (.tuple #[.pointer (some ⟨gb, i * 3, none⟩), .int .i64 0]) ∧ w = w' := by
  have c0 := hC.hd0
  have hn := hC.le
  clear hC
  go_enter Try.func46, Try.ntmps46
  go_wp2_with fail
  go_ret2
  exact ⟨rfl, rfl⟩
theorem clen_any (g gb cap n : Nat) (tl : Nat → Nat) (K : Nat → Core) (w : World) (hC : CoresAt w g gb cap n tl K) :
    Calls Try.prog 37 #[.pointer (some ⟨g, 0, none⟩)] w fun e w' => e = .returned (.int .i64 n) ∧ w = w' := by
  have c0 := hC.hd0
  clear hC
  go_enter Try.func37, Try.ntmps37
  go_wp2_with fail
  go_ret
  exact ⟨rfl, rfl⟩
theorem clen_nil (w : World) : Calls Try.prog 37 #[.pointer none] w fun e w' => e = .returned (.int .i64 0) ∧ w = w' := by
  go_enter Try.func37, Try.ntmps37
  go_wp2_with fail
  go_ret
  exact ⟨rfl, rfl⟩
/-! Regs -/
theorem cregs_nil (k : Int) (w : World) : Calls Try.prog 36 #[.pointer none, .int .i64 k] w fun e w' => e = .returned (.tuple #[.int .i64 0, .int .i64 0, .int .i64 1]) ∧ w = w' := by
  go_enter Try.func36, Try.ntmps36
  go_wp2_with fail
  refine (cat_nil _ _).mono ?_
  rintro e w' ⟨rfl, rfl⟩
  go_wp2_with fail
  go_ret3
  exact ⟨rfl, rfl⟩
theorem cregs_bad (g gb cap n : Nat) (tl : Nat → Nat) (K : Nat → Core) (k : Int) (w : World) (hC : CoresAt w g gb cap n tl K) (h : k < 0 ∨ (n : Int) ≤ k) :
    Calls Try.prog 36 #[.pointer (some ⟨g, 0, none⟩), .int .i64 k] w fun e w' => e = .returned (.tuple #[.int .i64 0, .int .i64 0, .int .i64 3]) ∧ w = w' := by
  have HC := hide hC
  have H := hide h
  clear hC h
  go_enter Try.func36, Try.ntmps36
  go_wp2_with fail
  refine (cat_bad _ _ _ _ _ _ _ _ HC.out H.out).mono ?_
  rintro e w' ⟨rfl, rfl⟩
  go_wp2_with fail
  go_ret3
  exact ⟨rfl, rfl⟩
theorem cregs_in (g gb cap n : Nat) (tl : Nat → Nat) (K : Nat → Core) (i : Nat) (w : World) (hC : CoresAt w g gb cap n tl K) (h : i < n) :
    Calls Try.prog 36 #[.pointer (some ⟨g, 0, none⟩), .int .i64 i] w fun e w' => e = .returned (.tuple #[.int .i64 (K i).rt, .int .i64 (K i).sp, .int .i64 0]) ∧ Below w.heap.size w w' := by
  have HC := hide hC
  obtain ⟨c0, c1, c2⟩ := hC.cells i h
  generalize (K i).rt = a at *
  generalize (K i).sp = b at *
  clear hC
  go_enter Try.func36, Try.ntmps36
  go_wp2_with fail
  refine (cat_in _ _ _ _ _ _ i _ HC.out h).mono ?_
  rintro e w' ⟨rfl, rfl⟩
  go_upto_region 4 with fail
  go_quiet (fail)
  rename_i nq
  have hB := below_drewN (Below.refl w.heap.size w) nq
  go_wp2
  go_ret3
  exact ⟨rfl, hB⟩
/-! Set -/
def setOk (r s : Int) : Prop := (r = -1 ∧ s = 0) ∨ (0 ≤ r ∧ r < 64 ∧ 1 ≤ s)
instance (r s : Int) : Decidable (setOk r s) := by unfold setOk; infer_instance
theorem cset_nil (k r s : Int) (w : World) : Calls Try.prog 17 #[.pointer none, .int .i64 k, .int .i64 r, .int .i64 s] w fun e w' => e = .returned (.int .i64 1) ∧ w = w' := by
  go_enter Try.func17, Try.ntmps17
  go_wp2_with fail
  refine (cat_nil _ _).mono ?_
  rintro e w' ⟨rfl, rfl⟩
  go_wp2_with fail
  go_ret
  exact ⟨rfl, rfl⟩
theorem cset_bad (g gb cap n : Nat) (tl : Nat → Nat) (K : Nat → Core) (k r s : Int) (w : World) (hC : CoresAt w g gb cap n tl K) (h : k < 0 ∨ (n : Int) ≤ k) :
    Calls Try.prog 17 #[.pointer (some ⟨g, 0, none⟩), .int .i64 k, .int .i64 r, .int .i64 s] w fun e w' => e = .returned (.int .i64 3) ∧ w = w' := by
  have HC := hide hC
  have H := hide h
  clear hC h
  go_enter Try.func17, Try.ntmps17
  go_wp2_with fail
  refine (cat_bad _ _ _ _ _ _ _ _ HC.out H.out).mono ?_
  rintro e w' ⟨rfl, rfl⟩
  go_wp2_with fail
  go_ret
  exact ⟨rfl, rfl⟩
theorem cset_no (g gb cap n : Nat) (tl : Nat → Nat) (K : Nat → Core) (i : Nat) (r s : Int) (w : World) (hC : CoresAt w g gb cap n tl K) (h : i < n) (hs : ¬ setOk r s) :
    Calls Try.prog 17 #[.pointer (some ⟨g, 0, none⟩), .int .i64 i, .int .i64 r, .int .i64 s] w fun e w' => e = .returned (.int .i64 2) ∧ w = w' := by
  have HC := hide hC
  clear hC
  unfold setOk at hs
  have hc : (r = -1 ∧ (s == 0) = false) ∨ ((r == -1) = false ∧ r < 0) ∨ ((r == -1) = false ∧ 64 ≤ r) ∨ ((r == -1) = false ∧ 0 ≤ r ∧ r < 64 ∧ s < 1) := by
    simp only [beq_eq_false_iff_ne, ne_eq]
    omega
  clear hs
  rcases hc with ⟨rfl, h1⟩ | ⟨h0, h1⟩ | ⟨h0, h1⟩ | ⟨h0, h1, h2, h3⟩
  all_goals
    go_enter Try.func17, Try.ntmps17
    go_wp2_with fail
    refine (cat_in _ _ _ _ _ _ i _ HC.out h).mono ?_
    rintro e w' ⟨rfl, rfl⟩
    go_wp2_with fail
    go_ret
    exact ⟨rfl, rfl⟩
theorem cset_yes (g gb cap n : Nat) (tl : Nat → Nat) (K : Nat → Core) (i : Nat) (r s : Int) (w : World) (hC : CoresAt w g gb cap n tl K) (h : i < n) (hs : setOk r s) :
    Calls Try.prog 17 #[.pointer (some ⟨g, 0, none⟩), .int .i64 i, .int .i64 r, .int .i64 s] w fun e w' => e = .returned (.int .i64 0) ∧ CoresAt w' g gb cap n tl (upd K i ⟨r, s, (K i).c⟩) ∧ Mod (· = gb) w w' := by
  have hfin := hC.setRegs i h r s
  have hm : Mod (· = gb) w ((w.setCell ⟨gb, i * 3, none⟩ (.int .i64 r)).setCell ⟨gb, i * 3 + 1, none⟩ (.int .i64 s)) := (Mod.one gb w _ _).trans (Mod.one gb _ _ _)
  have HF := hide hfin
  have HM := hide hm
  have HC := hide hC
  have f0 := hC.frozen (i * 3)
  have f1 := hC.frozen (i * 3 + 1)
  obtain ⟨c0, c1, c2⟩ := hC.cells i h
  clear hC hfin hm
  unfold setOk at hs
  have hs' : (r = -1 ∧ s = 0) ∨ ((r == -1) = false ∧ 0 ≤ r ∧ r < 64 ∧ 1 ≤ s) := by
    simp only [beq_eq_false_iff_ne, ne_eq]
    omega
  clear hs
  rcases hs' with ⟨rfl, rfl⟩ | ⟨h0, h1, h2, h3⟩
  all_goals
    go_enter Try.func17, Try.ntmps17
    go_wp2_with fail
    refine (cat_in _ _ _ _ _ _ i _ HC.out h).mono ?_
    rintro e w' ⟨rfl, rfl⟩
    go_wp2_with fail
    go_ret
    exact ⟨rfl, HF.out, HM.out⟩
/-! Evict, All -/
theorem cevict_nil (k s t : Int) (w : World) : Calls Try.prog 21 #[.pointer none, .int .i64 k, .int .i64 s, .int .i64 t] w fun e w' => e = .returned (.bool false) ∧ w = w' := by
  go_enter Try.func21, Try.ntmps21
  go_wp2_with fail
  refine (cat_nil _ _).mono ?_
  rintro e w' ⟨rfl, rfl⟩
  go_wp2_with fail
  go_ret
  exact ⟨rfl, rfl⟩
theorem cevict_bad (g gb cap n : Nat) (tl : Nat → Nat) (K : Nat → Core) (k s t : Int) (w : World) (hC : CoresAt w g gb cap n tl K) (h : k < 0 ∨ (n : Int) ≤ k) :
    Calls Try.prog 21 #[.pointer (some ⟨g, 0, none⟩), .int .i64 k, .int .i64 s, .int .i64 t] w fun e w' => e = .returned (.bool false) ∧ w = w' := by
  have HC := hide hC
  have H := hide h
  clear hC h
  go_enter Try.func21, Try.ntmps21
  go_wp2_with fail
  refine (cat_bad _ _ _ _ _ _ _ _ HC.out H.out).mono ?_
  rintro e w' ⟨rfl, rfl⟩
  go_wp2_with fail
  go_ret
  exact ⟨rfl, rfl⟩
theorem cevict_in (g gb cap n : Nat) (tl : Nat → Nat) (K : Nat → Core) (i : Nat) (s t : Int) (w : World) (hC : CoresAt w g gb cap n tl K) (h : i < n) :
    Calls Try.prog 21 #[.pointer (some ⟨g, 0, none⟩), .int .i64 i, .int .i64 s, .int .i64 t] w fun e w' => e = .returned (.bool (evictB (K i).c s t)) ∧ CoresAt w' g gb cap n tl (upd K i ⟨(K i).rt, (K i).sp, evictC (K i).c s t⟩) ∧ Mod (· = tl i) w w' := by
  have HC := hide hC
  have HT := hide (hC.tlb i h)
  obtain ⟨c0, c1, c2⟩ := hC.cells i h
  clear hC
  go_enter Try.func21, Try.ntmps21
  go_wp2_with fail
  refine (cat_in _ _ _ _ _ _ i _ HC.out h).mono ?_
  rintro e w' ⟨rfl, rfl⟩
  go_wp2_with fail
  refine (evict_any _ s t _ _ HT.out).mono ?_
  rintro e w2 ⟨rfl, ht, hm⟩
  have HC2 := hide (HC.out.setC i h ht hm)
  have HM := hide hm
  clear ht hm
  go_wp2_with fail
  go_ret
  exact ⟨rfl, HC2.out, HM.out⟩
theorem call_nil (k : Int) (w : World) : Calls Try.prog 20 #[.pointer none, .int .i64 k] w fun e w' => e = .returned (.slice none 0 0) ∧ w = w' := by
  go_enter Try.func20, Try.ntmps20
  go_wp2_with fail
  refine (cat_nil _ _).mono ?_
  rintro e w' ⟨rfl, rfl⟩
  go_wp2_with fail
  go_ret
  exact ⟨rfl, rfl⟩
theorem call_bad (g gb cap n : Nat) (tl : Nat → Nat) (K : Nat → Core) (k : Int) (w : World) (hC : CoresAt w g gb cap n tl K) (h : k < 0 ∨ (n : Int) ≤ k) :
    Calls Try.prog 20 #[.pointer (some ⟨g, 0, none⟩), .int .i64 k] w fun e w' => e = .returned (.slice none 0 0) ∧ w = w' := by
  have HC := hide hC
  have H := hide h
  clear hC h
  go_enter Try.func20, Try.ntmps20
  go_wp2_with fail
  refine (cat_bad _ _ _ _ _ _ _ _ HC.out H.out).mono ?_
  rintro e w' ⟨rfl, rfl⟩
  go_wp2_with fail
  go_ret
  exact ⟨rfl, rfl⟩
theorem call_of (g gb cap n : Nat) (tl : Nat → Nat) (K : Nat → Core) (i : Nat) (w : World) (hC : CoresAt w g gb cap n tl K) (h : i < n) :
    Calls Try.prog 20 #[.pointer (some ⟨g, 0, none⟩), .int .i64 i] w fun e w' => ∃ v, e = .returned v ∧ w'.ownsRow w.heap.size 42 5 v (vis (K i).c 8).length (rowsOf (K i).c (vis (K i).c 8)) ∧ Below w.heap.size w w' := by
  have HC := hide hC
  have HT := hide (hC.tlb i h)
  obtain ⟨c0, c1, c2⟩ := hC.cells i h
  clear hC
  go_enter Try.func20, Try.ntmps20
  go_wp2_with fail
  refine (cat_in _ _ _ _ _ _ i _ HC.out h).mono ?_
  rintro e w' ⟨rfl, rfl⟩
  go_wp2_with fail
  refine (all_of _ _ _ HT.out).mono ?_
  rintro e w2 ⟨v, rfl, hr, hb⟩
  have HR := hide hr
  have HB := hide hb
  clear hr hb
  go_wp2_with fail
  go_ret
  exact ⟨v, rfl, HR.out, HB.out⟩
theorem call_rows (g gb cap n : Nat) (tl : Nat → Nat) (K : Nat → Core) (i : Nat) (w : World) (hC : CoresAt w g gb cap n tl K) (h : i < n) :
    Calls Try.prog 20 #[.pointer (some ⟨g, 0, none⟩), .int .i64 i] w fun e w' => ∃ A cap, e = .returned (.slice A (vis (K i).c 8).length cap) ∧ RowsAt w' w.heap.size A (vis (K i).c 8).length (ts (K i).c) ∧ Below w.heap.size w w' := by
  refine (call_of g gb cap n tl K i w hC h).mono ?_
  rintro e w' ⟨v, rfl, hrow, hb⟩
  obtain ⟨A, cap, rfl, hr⟩ := rows_of_owns hrow
  exact ⟨A, cap, rfl, hr, hb⟩
end Go.Proofs.Ytlfenakabedmfaa
