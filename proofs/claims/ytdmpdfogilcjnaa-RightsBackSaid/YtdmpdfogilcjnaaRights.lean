/- The walks of package rights: May, Mask, Has, Text, Parse, each at every argument of its types. -/
import Derived.Test.YtdmpdfogilcjnaaBase
import Derived.WalkLawsBesides
import Derived.WalkSpells
import Derived.WalkMore
import Derived.Lib.SlBytesConst
namespace Go.Proofs.Ytdmpdfogilcjnaa
open Go.RowKit

theorem rmay_yes (r : Int) (w : World) (h : 0 ≤ r ∧ r ≤ 7) : Calls Try.prog 27 #[.int .i64 r] w fun e w' => e = .returned (.bool true) ∧ w = w' := by
  obtain ⟨h0, h1⟩ := h
  go_enter Try.func27, Try.ntmps27
  go_wp2
  go_ret
  exact ⟨by simp, rfl⟩
theorem rmay_no (r : Int) (w : World) (h : ¬ (0 ≤ r ∧ r ≤ 7)) : Calls Try.prog 27 #[.int .i64 r] w fun e w' => e = .returned (.bool false) ∧ w = w' := by
  by_cases h0 : 0 ≤ r
  · have h1 : ¬ r ≤ 7 := fun h1 => h ⟨h0, h1⟩
    clear h
    go_enter Try.func27, Try.ntmps27
    go_wp2
    go_ret
    exact ⟨by simp, rfl⟩
  · clear h
    go_enter Try.func27, Try.ntmps27
    go_wp2
    go_ret
    exact ⟨rfl, rfl⟩
theorem mask_yes (a b : Int) (w : World) (ha : 0 ≤ a ∧ a ≤ 7) (hb : 0 ≤ b ∧ b ≤ 7) : Calls Try.prog 24 #[.int .i64 a, .int .i64 b] w fun e w' => e = .returned (.int .i64 (bits .and .i64 a b)) ∧ w = w' := by
  have HA := hide ha
  have HB := hide hb
  clear ha hb
  go_enter Try.func24, Try.ntmps24
  go_wp2_with fail
  refine (rmay_yes _ _ HA.out).mono ?_
  rintro e w' ⟨rfl, rfl⟩
  go_wp2_with fail
  refine (rmay_yes _ _ HB.out).mono ?_
  rintro e w' ⟨rfl, rfl⟩
  go_wp2_with fail
  go_ret
  exact ⟨rfl, rfl⟩
theorem has_yes (a b : Int) (w : World) (ha : 0 ≤ a ∧ a ≤ 7) (hb : 0 ≤ b ∧ b ≤ 7) : Calls Try.prog 25 #[.int .i64 a, .int .i64 b] w fun e w' => e = .returned (.bool (bits .and .i64 a b == b)) ∧ w = w' := by
  have HA := hide ha
  have HB := hide hb
  clear ha hb
  go_enter Try.func25, Try.ntmps25
  go_wp2_with fail
  refine (rmay_yes _ _ HA.out).mono ?_
  rintro e w' ⟨rfl, rfl⟩
  go_wp2_with fail
  refine (rmay_yes _ _ HB.out).mono ?_
  rintro e w' ⟨rfl, rfl⟩
  go_wp2_with fail
  go_ret
  exact ⟨rfl, rfl⟩

/-! Text -/
theorem lb0 : ((⟨#[114, 119, 103]⟩ : ByteArray)[0]'(by decide)) = (114 : UInt8) := rfl
theorem lb1 : ((⟨#[114, 119, 103]⟩ : ByteArray)[1]'(by decide)) = (119 : UInt8) := rfl
theorem lb2 : ((⟨#[114, 119, 103]⟩ : ByteArray)[2]'(by decide)) = (103 : UInt8) := rfl
theorem dashes (w : World) : (∀ i, i < 3 → (w.alloc (Obj.cells #[Value.int IntKind.u8 45, Value.int IntKind.u8 45, Value.int IntKind.u8 45] 5 (3, 4))).cell? ⟨w.heap.size, i, none⟩ = some (.int .u8 45) ∧
    (w.alloc (Obj.cells #[Value.int IntKind.u8 45, Value.int IntKind.u8 45, Value.int IntKind.u8 45] 5 (3, 4))).frozen? ⟨w.heap.size, i, none⟩ = false) := by
  intro i hi
  have h : (w.alloc (Obj.cells #[Value.int IntKind.u8 45, Value.int IntKind.u8 45, Value.int IntKind.u8 45] 5 (3, 4))).heap[w.heap.size]? = some (Obj.cells #[Value.int IntKind.u8 45, Value.int IntKind.u8 45, Value.int IntKind.u8 45] 5 (3, 4)) := heap_alloc_new w _
  constructor
  · simp only [World.cell?, h]
    match i, hi with
    | 0, _ => rfl
    | 1, _ => rfl
    | 2, _ => rfl
  · simp only [World.frozen?, h]
    match i, hi with
    | 0, _ => rfl
    | 1, _ => rfl
    | 2, _ => rfl
set_option maxHeartbeats 1000000 in
theorem text_0 (w : World) : Calls Try.prog 26 #[.int .i64 0] w fun e w' => e = .returned (.string ⟨#[45, 45, 45]⟩) ∧ Below w.heap.size w w' := by
  have hd := dashes w
  have hB := (Below.refl w.heap.size w).alloc (Nat.le_refl _) (Obj.cells #[Value.int IntKind.u8 45, Value.int IntKind.u8 45, Value.int IntKind.u8 45] 5 (3, 4))
  go_enter Try.func26, Try.ntmps26
  have kc := fun (w : World) (C : Array Value) (n c : Nat) => Lib.run_convert_bytes_const (P := Try.prog) w 63 5 C n c Try.underlying63 Try.underlying5
  go_wp2
  go_step3
  go_wp2
  go_step3
  go_wp2
  clear kc
  generalize w.alloc (Obj.cells #[Value.int IntKind.u8 45, Value.int IntKind.u8 45, Value.int IntKind.u8 45] 5 (3, 4)) = W at hd hB ⊢
  generalize hg : w.heap.size = g at hd ⊢
  have HB := hide hB
  have HG := hide hg
  clear hB hg
  have c0 := (hd 0 (by omega)).1
  have c1 := (hd 1 (by omega)).1
  have c2 := (hd 2 (by omega)).1
  have f0 := (hd 0 (by omega)).2
  have f1 := (hd 1 (by omega)).2
  have f2 := (hd 2 (by omega)).2
  clear hd
  have hl0 := lb0
  have hl1 := lb1
  have hl2 := lb2
  have b0 : (bits .and .i64 0 1 == 0) = true := by decide +kernel
  have hconv := run_convert_bytes_back (P := Try.prog) (W) 63 9 5 ⟨g, 0, none⟩ 3 [45, 45, 45] Try.underlying63 Try.underlying5 Try.underlying9 (by
    intro j hj
    match j, hj with
    | 0, _ => simp [Addr.add, c0, go_sem]
    | 1, _ => simp [Addr.add, c1, go_sem]
    | 2, _ => simp [Addr.add, c2, go_sem])
  simp only [List.length_cons, List.length_nil, Nat.zero_add, Nat.reduceAdd] at hconv
  refine wp_loop_rounds 4 ?_
  rw [rounds_succ]
  go_wp2
  rw [rounds_succ]
  go_wp2
  rw [rounds_succ]
  go_wp2
  rw [rounds_succ]
  go_wp2
  rw [Exit.noGoto_ret]
  go_ret
  exact ⟨rfl, HB.out⟩
set_option maxHeartbeats 1000000 in
theorem text_1 (w : World) : Calls Try.prog 26 #[.int .i64 1] w fun e w' => e = .returned (.string ⟨#[114, 45, 45]⟩) ∧ Below w.heap.size w w' := by
  have hd := dashes w
  have hB := (Below.refl w.heap.size w).alloc (Nat.le_refl _) (Obj.cells #[Value.int IntKind.u8 45, Value.int IntKind.u8 45, Value.int IntKind.u8 45] 5 (3, 4))
  go_enter Try.func26, Try.ntmps26
  have kc := fun (w : World) (C : Array Value) (n c : Nat) => Lib.run_convert_bytes_const (P := Try.prog) w 63 5 C n c Try.underlying63 Try.underlying5
  go_wp2
  go_step3
  go_wp2
  go_step3
  go_wp2
  clear kc
  generalize w.alloc (Obj.cells #[Value.int IntKind.u8 45, Value.int IntKind.u8 45, Value.int IntKind.u8 45] 5 (3, 4)) = W at hd hB ⊢
  generalize hg : w.heap.size = g at hd ⊢
  have HB := hide hB
  have HG := hide hg
  clear hB hg
  have c0 := (hd 0 (by omega)).1
  have c1 := (hd 1 (by omega)).1
  have c2 := (hd 2 (by omega)).1
  have f0 := (hd 0 (by omega)).2
  have f1 := (hd 1 (by omega)).2
  have f2 := (hd 2 (by omega)).2
  clear hd
  have hl0 := lb0
  have hl1 := lb1
  have hl2 := lb2
  have b0 : (bits .and .i64 1 1 == 0) = false := by decide +kernel
  have b1 : (bits .and .i64 0 1 == 0) = true := by decide +kernel
  have hconv := run_convert_bytes_back (P := Try.prog) ((W.setCell ⟨g, 0, none⟩ (.int .u8 114))) 63 9 5 ⟨g, 0, none⟩ 3 [114, 45, 45] Try.underlying63 Try.underlying5 Try.underlying9 (by
    intro j hj
    match j, hj with
    | 0, _ => simp [Addr.add, c0, go_sem]
    | 1, _ => simp [Addr.add, c1, go_sem]
    | 2, _ => simp [Addr.add, c2, go_sem])
  simp only [List.length_cons, List.length_nil, Nat.zero_add, Nat.reduceAdd] at hconv
  refine wp_loop_rounds 4 ?_
  rw [rounds_succ]
  go_wp2
  rw [rounds_succ]
  go_wp2
  rw [rounds_succ]
  go_wp2
  rw [rounds_succ]
  go_wp2
  rw [Exit.noGoto_ret]
  go_ret
  have hge : w.heap.size ≤ g := Nat.le_of_eq HG.out
  exact ⟨rfl, (HB.out.setCell (p := ⟨g, 0, none⟩) hge _)⟩
set_option maxHeartbeats 1000000 in
theorem text_2 (w : World) : Calls Try.prog 26 #[.int .i64 2] w fun e w' => e = .returned (.string ⟨#[45, 119, 45]⟩) ∧ Below w.heap.size w w' := by
  have hd := dashes w
  have hB := (Below.refl w.heap.size w).alloc (Nat.le_refl _) (Obj.cells #[Value.int IntKind.u8 45, Value.int IntKind.u8 45, Value.int IntKind.u8 45] 5 (3, 4))
  go_enter Try.func26, Try.ntmps26
  have kc := fun (w : World) (C : Array Value) (n c : Nat) => Lib.run_convert_bytes_const (P := Try.prog) w 63 5 C n c Try.underlying63 Try.underlying5
  go_wp2
  go_step3
  go_wp2
  go_step3
  go_wp2
  clear kc
  generalize w.alloc (Obj.cells #[Value.int IntKind.u8 45, Value.int IntKind.u8 45, Value.int IntKind.u8 45] 5 (3, 4)) = W at hd hB ⊢
  generalize hg : w.heap.size = g at hd ⊢
  have HB := hide hB
  have HG := hide hg
  clear hB hg
  have c0 := (hd 0 (by omega)).1
  have c1 := (hd 1 (by omega)).1
  have c2 := (hd 2 (by omega)).1
  have f0 := (hd 0 (by omega)).2
  have f1 := (hd 1 (by omega)).2
  have f2 := (hd 2 (by omega)).2
  clear hd
  have hl0 := lb0
  have hl1 := lb1
  have hl2 := lb2
  have b0 : (bits .and .i64 2 1 == 0) = true := by decide +kernel
  have b1 : (bits .and .i64 1 1 == 0) = false := by decide +kernel
  have b2 : (bits .and .i64 0 1 == 0) = true := by decide +kernel
  have hconv := run_convert_bytes_back (P := Try.prog) ((W.setCell ⟨g, 1, none⟩ (.int .u8 119))) 63 9 5 ⟨g, 0, none⟩ 3 [45, 119, 45] Try.underlying63 Try.underlying5 Try.underlying9 (by
    intro j hj
    match j, hj with
    | 0, _ => simp [Addr.add, c0, go_sem]
    | 1, _ => simp [Addr.add, c1, go_sem]
    | 2, _ => simp [Addr.add, c2, go_sem])
  simp only [List.length_cons, List.length_nil, Nat.zero_add, Nat.reduceAdd] at hconv
  refine wp_loop_rounds 4 ?_
  rw [rounds_succ]
  go_wp2
  rw [rounds_succ]
  go_wp2
  rw [rounds_succ]
  go_wp2
  rw [rounds_succ]
  go_wp2
  rw [Exit.noGoto_ret]
  go_ret
  have hge : w.heap.size ≤ g := Nat.le_of_eq HG.out
  exact ⟨rfl, (HB.out.setCell (p := ⟨g, 1, none⟩) hge _)⟩
set_option maxHeartbeats 1000000 in
theorem text_3 (w : World) : Calls Try.prog 26 #[.int .i64 3] w fun e w' => e = .returned (.string ⟨#[114, 119, 45]⟩) ∧ Below w.heap.size w w' := by
  have hd := dashes w
  have hB := (Below.refl w.heap.size w).alloc (Nat.le_refl _) (Obj.cells #[Value.int IntKind.u8 45, Value.int IntKind.u8 45, Value.int IntKind.u8 45] 5 (3, 4))
  go_enter Try.func26, Try.ntmps26
  have kc := fun (w : World) (C : Array Value) (n c : Nat) => Lib.run_convert_bytes_const (P := Try.prog) w 63 5 C n c Try.underlying63 Try.underlying5
  go_wp2
  go_step3
  go_wp2
  go_step3
  go_wp2
  clear kc
  generalize w.alloc (Obj.cells #[Value.int IntKind.u8 45, Value.int IntKind.u8 45, Value.int IntKind.u8 45] 5 (3, 4)) = W at hd hB ⊢
  generalize hg : w.heap.size = g at hd ⊢
  have HB := hide hB
  have HG := hide hg
  clear hB hg
  have c0 := (hd 0 (by omega)).1
  have c1 := (hd 1 (by omega)).1
  have c2 := (hd 2 (by omega)).1
  have f0 := (hd 0 (by omega)).2
  have f1 := (hd 1 (by omega)).2
  have f2 := (hd 2 (by omega)).2
  clear hd
  have hl0 := lb0
  have hl1 := lb1
  have hl2 := lb2
  have b0 : (bits .and .i64 3 1 == 0) = false := by decide +kernel
  have b1 : (bits .and .i64 1 1 == 0) = false := by decide +kernel
  have b2 : (bits .and .i64 0 1 == 0) = true := by decide +kernel
  have hconv := run_convert_bytes_back (P := Try.prog) (((W.setCell ⟨g, 0, none⟩ (.int .u8 114)).setCell ⟨g, 1, none⟩ (.int .u8 119))) 63 9 5 ⟨g, 0, none⟩ 3 [114, 119, 45] Try.underlying63 Try.underlying5 Try.underlying9 (by
    intro j hj
    match j, hj with
    | 0, _ => simp [Addr.add, c0, go_sem]
    | 1, _ => simp [Addr.add, c1, go_sem]
    | 2, _ => simp [Addr.add, c2, go_sem])
  simp only [List.length_cons, List.length_nil, Nat.zero_add, Nat.reduceAdd] at hconv
  refine wp_loop_rounds 4 ?_
  rw [rounds_succ]
  go_wp2
  rw [rounds_succ]
  go_wp2
  rw [rounds_succ]
  go_wp2
  rw [rounds_succ]
  go_wp2
  rw [Exit.noGoto_ret]
  go_ret
  have hge : w.heap.size ≤ g := Nat.le_of_eq HG.out
  exact ⟨rfl, ((HB.out.setCell (p := ⟨g, 0, none⟩) hge _).setCell (p := ⟨g, 1, none⟩) hge _)⟩
set_option maxHeartbeats 1000000 in
theorem text_4 (w : World) : Calls Try.prog 26 #[.int .i64 4] w fun e w' => e = .returned (.string ⟨#[45, 45, 103]⟩) ∧ Below w.heap.size w w' := by
  have hd := dashes w
  have hB := (Below.refl w.heap.size w).alloc (Nat.le_refl _) (Obj.cells #[Value.int IntKind.u8 45, Value.int IntKind.u8 45, Value.int IntKind.u8 45] 5 (3, 4))
  go_enter Try.func26, Try.ntmps26
  have kc := fun (w : World) (C : Array Value) (n c : Nat) => Lib.run_convert_bytes_const (P := Try.prog) w 63 5 C n c Try.underlying63 Try.underlying5
  go_wp2
  go_step3
  go_wp2
  go_step3
  go_wp2
  clear kc
  generalize w.alloc (Obj.cells #[Value.int IntKind.u8 45, Value.int IntKind.u8 45, Value.int IntKind.u8 45] 5 (3, 4)) = W at hd hB ⊢
  generalize hg : w.heap.size = g at hd ⊢
  have HB := hide hB
  have HG := hide hg
  clear hB hg
  have c0 := (hd 0 (by omega)).1
  have c1 := (hd 1 (by omega)).1
  have c2 := (hd 2 (by omega)).1
  have f0 := (hd 0 (by omega)).2
  have f1 := (hd 1 (by omega)).2
  have f2 := (hd 2 (by omega)).2
  clear hd
  have hl0 := lb0
  have hl1 := lb1
  have hl2 := lb2
  have b0 : (bits .and .i64 4 1 == 0) = true := by decide +kernel
  have b1 : (bits .and .i64 2 1 == 0) = true := by decide +kernel
  have b2 : (bits .and .i64 1 1 == 0) = false := by decide +kernel
  have hconv := run_convert_bytes_back (P := Try.prog) ((W.setCell ⟨g, 2, none⟩ (.int .u8 103))) 63 9 5 ⟨g, 0, none⟩ 3 [45, 45, 103] Try.underlying63 Try.underlying5 Try.underlying9 (by
    intro j hj
    match j, hj with
    | 0, _ => simp [Addr.add, c0, go_sem]
    | 1, _ => simp [Addr.add, c1, go_sem]
    | 2, _ => simp [Addr.add, c2, go_sem])
  simp only [List.length_cons, List.length_nil, Nat.zero_add, Nat.reduceAdd] at hconv
  refine wp_loop_rounds 4 ?_
  rw [rounds_succ]
  go_wp2
  rw [rounds_succ]
  go_wp2
  rw [rounds_succ]
  go_wp2
  rw [rounds_succ]
  go_wp2
  rw [Exit.noGoto_ret]
  go_ret
  have hge : w.heap.size ≤ g := Nat.le_of_eq HG.out
  exact ⟨rfl, (HB.out.setCell (p := ⟨g, 2, none⟩) hge _)⟩
set_option maxHeartbeats 1000000 in
theorem text_5 (w : World) : Calls Try.prog 26 #[.int .i64 5] w fun e w' => e = .returned (.string ⟨#[114, 45, 103]⟩) ∧ Below w.heap.size w w' := by
  have hd := dashes w
  have hB := (Below.refl w.heap.size w).alloc (Nat.le_refl _) (Obj.cells #[Value.int IntKind.u8 45, Value.int IntKind.u8 45, Value.int IntKind.u8 45] 5 (3, 4))
  go_enter Try.func26, Try.ntmps26
  have kc := fun (w : World) (C : Array Value) (n c : Nat) => Lib.run_convert_bytes_const (P := Try.prog) w 63 5 C n c Try.underlying63 Try.underlying5
  go_wp2
  go_step3
  go_wp2
  go_step3
  go_wp2
  clear kc
  generalize w.alloc (Obj.cells #[Value.int IntKind.u8 45, Value.int IntKind.u8 45, Value.int IntKind.u8 45] 5 (3, 4)) = W at hd hB ⊢
  generalize hg : w.heap.size = g at hd ⊢
  have HB := hide hB
  have HG := hide hg
  clear hB hg
  have c0 := (hd 0 (by omega)).1
  have c1 := (hd 1 (by omega)).1
  have c2 := (hd 2 (by omega)).1
  have f0 := (hd 0 (by omega)).2
  have f1 := (hd 1 (by omega)).2
  have f2 := (hd 2 (by omega)).2
  clear hd
  have hl0 := lb0
  have hl1 := lb1
  have hl2 := lb2
  have b0 : (bits .and .i64 5 1 == 0) = false := by decide +kernel
  have b1 : (bits .and .i64 2 1 == 0) = true := by decide +kernel
  have b2 : (bits .and .i64 1 1 == 0) = false := by decide +kernel
  have hconv := run_convert_bytes_back (P := Try.prog) (((W.setCell ⟨g, 0, none⟩ (.int .u8 114)).setCell ⟨g, 2, none⟩ (.int .u8 103))) 63 9 5 ⟨g, 0, none⟩ 3 [114, 45, 103] Try.underlying63 Try.underlying5 Try.underlying9 (by
    intro j hj
    match j, hj with
    | 0, _ => simp [Addr.add, c0, go_sem]
    | 1, _ => simp [Addr.add, c1, go_sem]
    | 2, _ => simp [Addr.add, c2, go_sem])
  simp only [List.length_cons, List.length_nil, Nat.zero_add, Nat.reduceAdd] at hconv
  refine wp_loop_rounds 4 ?_
  rw [rounds_succ]
  go_wp2
  rw [rounds_succ]
  go_wp2
  rw [rounds_succ]
  go_wp2
  rw [rounds_succ]
  go_wp2
  rw [Exit.noGoto_ret]
  go_ret
  have hge : w.heap.size ≤ g := Nat.le_of_eq HG.out
  exact ⟨rfl, ((HB.out.setCell (p := ⟨g, 0, none⟩) hge _).setCell (p := ⟨g, 2, none⟩) hge _)⟩
set_option maxHeartbeats 1000000 in
theorem text_6 (w : World) : Calls Try.prog 26 #[.int .i64 6] w fun e w' => e = .returned (.string ⟨#[45, 119, 103]⟩) ∧ Below w.heap.size w w' := by
  have hd := dashes w
  have hB := (Below.refl w.heap.size w).alloc (Nat.le_refl _) (Obj.cells #[Value.int IntKind.u8 45, Value.int IntKind.u8 45, Value.int IntKind.u8 45] 5 (3, 4))
  go_enter Try.func26, Try.ntmps26
  have kc := fun (w : World) (C : Array Value) (n c : Nat) => Lib.run_convert_bytes_const (P := Try.prog) w 63 5 C n c Try.underlying63 Try.underlying5
  go_wp2
  go_step3
  go_wp2
  go_step3
  go_wp2
  clear kc
  generalize w.alloc (Obj.cells #[Value.int IntKind.u8 45, Value.int IntKind.u8 45, Value.int IntKind.u8 45] 5 (3, 4)) = W at hd hB ⊢
  generalize hg : w.heap.size = g at hd ⊢
  have HB := hide hB
  have HG := hide hg
  clear hB hg
  have c0 := (hd 0 (by omega)).1
  have c1 := (hd 1 (by omega)).1
  have c2 := (hd 2 (by omega)).1
  have f0 := (hd 0 (by omega)).2
  have f1 := (hd 1 (by omega)).2
  have f2 := (hd 2 (by omega)).2
  clear hd
  have hl0 := lb0
  have hl1 := lb1
  have hl2 := lb2
  have b0 : (bits .and .i64 6 1 == 0) = true := by decide +kernel
  have b1 : (bits .and .i64 3 1 == 0) = false := by decide +kernel
  have b2 : (bits .and .i64 1 1 == 0) = false := by decide +kernel
  have hconv := run_convert_bytes_back (P := Try.prog) (((W.setCell ⟨g, 1, none⟩ (.int .u8 119)).setCell ⟨g, 2, none⟩ (.int .u8 103))) 63 9 5 ⟨g, 0, none⟩ 3 [45, 119, 103] Try.underlying63 Try.underlying5 Try.underlying9 (by
    intro j hj
    match j, hj with
    | 0, _ => simp [Addr.add, c0, go_sem]
    | 1, _ => simp [Addr.add, c1, go_sem]
    | 2, _ => simp [Addr.add, c2, go_sem])
  simp only [List.length_cons, List.length_nil, Nat.zero_add, Nat.reduceAdd] at hconv
  refine wp_loop_rounds 4 ?_
  rw [rounds_succ]
  go_wp2
  rw [rounds_succ]
  go_wp2
  rw [rounds_succ]
  go_wp2
  rw [rounds_succ]
  go_wp2
  rw [Exit.noGoto_ret]
  go_ret
  have hge : w.heap.size ≤ g := Nat.le_of_eq HG.out
  exact ⟨rfl, ((HB.out.setCell (p := ⟨g, 1, none⟩) hge _).setCell (p := ⟨g, 2, none⟩) hge _)⟩
set_option maxHeartbeats 1000000 in
theorem text_7 (w : World) : Calls Try.prog 26 #[.int .i64 7] w fun e w' => e = .returned (.string ⟨#[114, 119, 103]⟩) ∧ Below w.heap.size w w' := by
  have hd := dashes w
  have hB := (Below.refl w.heap.size w).alloc (Nat.le_refl _) (Obj.cells #[Value.int IntKind.u8 45, Value.int IntKind.u8 45, Value.int IntKind.u8 45] 5 (3, 4))
  go_enter Try.func26, Try.ntmps26
  have kc := fun (w : World) (C : Array Value) (n c : Nat) => Lib.run_convert_bytes_const (P := Try.prog) w 63 5 C n c Try.underlying63 Try.underlying5
  go_wp2
  go_step3
  go_wp2
  go_step3
  go_wp2
  clear kc
  generalize w.alloc (Obj.cells #[Value.int IntKind.u8 45, Value.int IntKind.u8 45, Value.int IntKind.u8 45] 5 (3, 4)) = W at hd hB ⊢
  generalize hg : w.heap.size = g at hd ⊢
  have HB := hide hB
  have HG := hide hg
  clear hB hg
  have c0 := (hd 0 (by omega)).1
  have c1 := (hd 1 (by omega)).1
  have c2 := (hd 2 (by omega)).1
  have f0 := (hd 0 (by omega)).2
  have f1 := (hd 1 (by omega)).2
  have f2 := (hd 2 (by omega)).2
  clear hd
  have hl0 := lb0
  have hl1 := lb1
  have hl2 := lb2
  have b0 : (bits .and .i64 7 1 == 0) = false := by decide +kernel
  have b1 : (bits .and .i64 3 1 == 0) = false := by decide +kernel
  have b2 : (bits .and .i64 1 1 == 0) = false := by decide +kernel
  have hconv := run_convert_bytes_back (P := Try.prog) ((((W.setCell ⟨g, 0, none⟩ (.int .u8 114)).setCell ⟨g, 1, none⟩ (.int .u8 119)).setCell ⟨g, 2, none⟩ (.int .u8 103))) 63 9 5 ⟨g, 0, none⟩ 3 [114, 119, 103] Try.underlying63 Try.underlying5 Try.underlying9 (by
    intro j hj
    match j, hj with
    | 0, _ => simp [Addr.add, c0, go_sem]
    | 1, _ => simp [Addr.add, c1, go_sem]
    | 2, _ => simp [Addr.add, c2, go_sem])
  simp only [List.length_cons, List.length_nil, Nat.zero_add, Nat.reduceAdd] at hconv
  refine wp_loop_rounds 4 ?_
  rw [rounds_succ]
  go_wp2
  rw [rounds_succ]
  go_wp2
  rw [rounds_succ]
  go_wp2
  rw [rounds_succ]
  go_wp2
  rw [Exit.noGoto_ret]
  go_ret
  have hge : w.heap.size ≤ g := Nat.le_of_eq HG.out
  exact ⟨rfl, (((HB.out.setCell (p := ⟨g, 0, none⟩) hge _).setCell (p := ⟨g, 1, none⟩) hge _).setCell (p := ⟨g, 2, none⟩) hge _)⟩
theorem text_out (r : Int) (w : World) (h : ¬ (0 ≤ r ∧ r ≤ 7)) : Calls Try.prog 26 #[.int .i64 r] w fun e w' => e = .returned (.string ⟨#[]⟩) ∧ Below w.heap.size w w' := by
  have H := hide h
  clear h
  go_enter Try.func26, Try.ntmps26
  go_wp2_with fail
  go_step3
  go_wp2_with fail
  refine (rmay_no _ _ H.out).mono ?_
  rintro e w' ⟨rfl, rfl⟩
  go_wp2_with fail
  rw [Exit.noGoto_ret]
  go_ret
  exact ⟨rfl, Below.refl _ _⟩

/-! Parse -/
set_option maxHeartbeats 1000000 in
theorem parse_0 (w : World) : Calls Try.prog 22 #[.string ⟨#[45, 45, 45]⟩] w fun e w' => e = .returned (.tuple #[.int .i64 0, .int .i64 0]) ∧ w = w' := by
  have hl0 := lb0
  have hl1 := lb1
  have hl2 := lb2
  have hs0 : ((⟨#[45, 45, 45]⟩ : ByteArray)[0]'(by decide)) = (45 : UInt8) := rfl
  have hs1 : ((⟨#[45, 45, 45]⟩ : ByteArray)[1]'(by decide)) = (45 : UInt8) := rfl
  have hs2 : ((⟨#[45, 45, 45]⟩ : ByteArray)[2]'(by decide)) = (45 : UInt8) := rfl
  have hz : (⟨#[45, 45, 45]⟩ : ByteArray).size = 3 := rfl

  go_enter Try.func22, Try.ntmps22
  go_wp2
  go_step3
  go_wp2
  go_step3
  go_wp2
  refine wp_loop_rounds 4 ?_
  rw [rounds_succ]
  go_wp2
  rw [rounds_succ]
  go_wp2
  rw [rounds_succ]
  go_wp2
  rw [rounds_succ]
  go_wp2
  rw [Exit.noGoto_ret]
  go_ret2
  exact ⟨rfl, rfl⟩
set_option maxHeartbeats 1000000 in
theorem parse_1 (w : World) : Calls Try.prog 22 #[.string ⟨#[114, 45, 45]⟩] w fun e w' => e = .returned (.tuple #[.int .i64 1, .int .i64 0]) ∧ w = w' := by
  have hl0 := lb0
  have hl1 := lb1
  have hl2 := lb2
  have hs0 : ((⟨#[114, 45, 45]⟩ : ByteArray)[0]'(by decide)) = (114 : UInt8) := rfl
  have hs1 : ((⟨#[114, 45, 45]⟩ : ByteArray)[1]'(by decide)) = (45 : UInt8) := rfl
  have hs2 : ((⟨#[114, 45, 45]⟩ : ByteArray)[2]'(by decide)) = (45 : UInt8) := rfl
  have hz : (⟨#[114, 45, 45]⟩ : ByteArray).size = 3 := rfl
  have q0 : bits .or .i64 0 1 = 1 := by decide +kernel
  go_enter Try.func22, Try.ntmps22
  go_wp2
  go_step3
  go_wp2
  go_step3
  go_wp2
  refine wp_loop_rounds 4 ?_
  rw [rounds_succ]
  go_wp2
  rw [rounds_succ]
  go_wp2
  rw [rounds_succ]
  go_wp2
  rw [rounds_succ]
  go_wp2
  rw [Exit.noGoto_ret]
  go_ret2
  exact ⟨rfl, rfl⟩
set_option maxHeartbeats 1000000 in
theorem parse_2 (w : World) : Calls Try.prog 22 #[.string ⟨#[45, 119, 45]⟩] w fun e w' => e = .returned (.tuple #[.int .i64 2, .int .i64 0]) ∧ w = w' := by
  have hl0 := lb0
  have hl1 := lb1
  have hl2 := lb2
  have hs0 : ((⟨#[45, 119, 45]⟩ : ByteArray)[0]'(by decide)) = (45 : UInt8) := rfl
  have hs1 : ((⟨#[45, 119, 45]⟩ : ByteArray)[1]'(by decide)) = (119 : UInt8) := rfl
  have hs2 : ((⟨#[45, 119, 45]⟩ : ByteArray)[2]'(by decide)) = (45 : UInt8) := rfl
  have hz : (⟨#[45, 119, 45]⟩ : ByteArray).size = 3 := rfl
  have q1 : bits .or .i64 0 2 = 2 := by decide +kernel
  go_enter Try.func22, Try.ntmps22
  go_wp2
  go_step3
  go_wp2
  go_step3
  go_wp2
  refine wp_loop_rounds 4 ?_
  rw [rounds_succ]
  go_wp2
  rw [rounds_succ]
  go_wp2
  rw [rounds_succ]
  go_wp2
  rw [rounds_succ]
  go_wp2
  rw [Exit.noGoto_ret]
  go_ret2
  exact ⟨rfl, rfl⟩
set_option maxHeartbeats 1000000 in
theorem parse_3 (w : World) : Calls Try.prog 22 #[.string ⟨#[114, 119, 45]⟩] w fun e w' => e = .returned (.tuple #[.int .i64 3, .int .i64 0]) ∧ w = w' := by
  have hl0 := lb0
  have hl1 := lb1
  have hl2 := lb2
  have hs0 : ((⟨#[114, 119, 45]⟩ : ByteArray)[0]'(by decide)) = (114 : UInt8) := rfl
  have hs1 : ((⟨#[114, 119, 45]⟩ : ByteArray)[1]'(by decide)) = (119 : UInt8) := rfl
  have hs2 : ((⟨#[114, 119, 45]⟩ : ByteArray)[2]'(by decide)) = (45 : UInt8) := rfl
  have hz : (⟨#[114, 119, 45]⟩ : ByteArray).size = 3 := rfl
  have q0 : bits .or .i64 0 1 = 1 := by decide +kernel
  have q1 : bits .or .i64 1 2 = 3 := by decide +kernel
  go_enter Try.func22, Try.ntmps22
  go_wp2
  go_step3
  go_wp2
  go_step3
  go_wp2
  refine wp_loop_rounds 4 ?_
  rw [rounds_succ]
  go_wp2
  rw [rounds_succ]
  go_wp2
  rw [rounds_succ]
  go_wp2
  rw [rounds_succ]
  go_wp2
  rw [Exit.noGoto_ret]
  go_ret2
  exact ⟨rfl, rfl⟩
set_option maxHeartbeats 1000000 in
theorem parse_4 (w : World) : Calls Try.prog 22 #[.string ⟨#[45, 45, 103]⟩] w fun e w' => e = .returned (.tuple #[.int .i64 4, .int .i64 0]) ∧ w = w' := by
  have hl0 := lb0
  have hl1 := lb1
  have hl2 := lb2
  have hs0 : ((⟨#[45, 45, 103]⟩ : ByteArray)[0]'(by decide)) = (45 : UInt8) := rfl
  have hs1 : ((⟨#[45, 45, 103]⟩ : ByteArray)[1]'(by decide)) = (45 : UInt8) := rfl
  have hs2 : ((⟨#[45, 45, 103]⟩ : ByteArray)[2]'(by decide)) = (103 : UInt8) := rfl
  have hz : (⟨#[45, 45, 103]⟩ : ByteArray).size = 3 := rfl
  have q2 : bits .or .i64 0 4 = 4 := by decide +kernel
  go_enter Try.func22, Try.ntmps22
  go_wp2
  go_step3
  go_wp2
  go_step3
  go_wp2
  refine wp_loop_rounds 4 ?_
  rw [rounds_succ]
  go_wp2
  rw [rounds_succ]
  go_wp2
  rw [rounds_succ]
  go_wp2
  rw [rounds_succ]
  go_wp2
  rw [Exit.noGoto_ret]
  go_ret2
  exact ⟨rfl, rfl⟩
set_option maxHeartbeats 1000000 in
theorem parse_5 (w : World) : Calls Try.prog 22 #[.string ⟨#[114, 45, 103]⟩] w fun e w' => e = .returned (.tuple #[.int .i64 5, .int .i64 0]) ∧ w = w' := by
  have hl0 := lb0
  have hl1 := lb1
  have hl2 := lb2
  have hs0 : ((⟨#[114, 45, 103]⟩ : ByteArray)[0]'(by decide)) = (114 : UInt8) := rfl
  have hs1 : ((⟨#[114, 45, 103]⟩ : ByteArray)[1]'(by decide)) = (45 : UInt8) := rfl
  have hs2 : ((⟨#[114, 45, 103]⟩ : ByteArray)[2]'(by decide)) = (103 : UInt8) := rfl
  have hz : (⟨#[114, 45, 103]⟩ : ByteArray).size = 3 := rfl
  have q0 : bits .or .i64 0 1 = 1 := by decide +kernel
  have q2 : bits .or .i64 1 4 = 5 := by decide +kernel
  go_enter Try.func22, Try.ntmps22
  go_wp2
  go_step3
  go_wp2
  go_step3
  go_wp2
  refine wp_loop_rounds 4 ?_
  rw [rounds_succ]
  go_wp2
  rw [rounds_succ]
  go_wp2
  rw [rounds_succ]
  go_wp2
  rw [rounds_succ]
  go_wp2
  rw [Exit.noGoto_ret]
  go_ret2
  exact ⟨rfl, rfl⟩
set_option maxHeartbeats 1000000 in
theorem parse_6 (w : World) : Calls Try.prog 22 #[.string ⟨#[45, 119, 103]⟩] w fun e w' => e = .returned (.tuple #[.int .i64 6, .int .i64 0]) ∧ w = w' := by
  have hl0 := lb0
  have hl1 := lb1
  have hl2 := lb2
  have hs0 : ((⟨#[45, 119, 103]⟩ : ByteArray)[0]'(by decide)) = (45 : UInt8) := rfl
  have hs1 : ((⟨#[45, 119, 103]⟩ : ByteArray)[1]'(by decide)) = (119 : UInt8) := rfl
  have hs2 : ((⟨#[45, 119, 103]⟩ : ByteArray)[2]'(by decide)) = (103 : UInt8) := rfl
  have hz : (⟨#[45, 119, 103]⟩ : ByteArray).size = 3 := rfl
  have q1 : bits .or .i64 0 2 = 2 := by decide +kernel
  have q2 : bits .or .i64 2 4 = 6 := by decide +kernel
  go_enter Try.func22, Try.ntmps22
  go_wp2
  go_step3
  go_wp2
  go_step3
  go_wp2
  refine wp_loop_rounds 4 ?_
  rw [rounds_succ]
  go_wp2
  rw [rounds_succ]
  go_wp2
  rw [rounds_succ]
  go_wp2
  rw [rounds_succ]
  go_wp2
  rw [Exit.noGoto_ret]
  go_ret2
  exact ⟨rfl, rfl⟩
set_option maxHeartbeats 1000000 in
theorem parse_7 (w : World) : Calls Try.prog 22 #[.string ⟨#[114, 119, 103]⟩] w fun e w' => e = .returned (.tuple #[.int .i64 7, .int .i64 0]) ∧ w = w' := by
  have hl0 := lb0
  have hl1 := lb1
  have hl2 := lb2
  have hs0 : ((⟨#[114, 119, 103]⟩ : ByteArray)[0]'(by decide)) = (114 : UInt8) := rfl
  have hs1 : ((⟨#[114, 119, 103]⟩ : ByteArray)[1]'(by decide)) = (119 : UInt8) := rfl
  have hs2 : ((⟨#[114, 119, 103]⟩ : ByteArray)[2]'(by decide)) = (103 : UInt8) := rfl
  have hz : (⟨#[114, 119, 103]⟩ : ByteArray).size = 3 := rfl
  have q0 : bits .or .i64 0 1 = 1 := by decide +kernel
  have q1 : bits .or .i64 1 2 = 3 := by decide +kernel
  have q2 : bits .or .i64 3 4 = 7 := by decide +kernel
  go_enter Try.func22, Try.ntmps22
  go_wp2
  go_step3
  go_wp2
  go_step3
  go_wp2
  refine wp_loop_rounds 4 ?_
  rw [rounds_succ]
  go_wp2
  rw [rounds_succ]
  go_wp2
  rw [rounds_succ]
  go_wp2
  rw [rounds_succ]
  go_wp2
  rw [Exit.noGoto_ret]
  go_ret2
  exact ⟨rfl, rfl⟩
end Go.Proofs.Ytdmpdfogilcjnaa
