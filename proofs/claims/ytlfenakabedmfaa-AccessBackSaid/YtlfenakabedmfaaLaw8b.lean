/- Chapter 8: AccessBack. -/
import Derived.Test.YtlfenakabedmfaaLaw8
namespace Go.Proofs.Ytlfenakabedmfaa
open Go.RowKit Go.Shelf
def bkK1 (u : Int) : Nat → Core := accK 2 readyK 8 (readyM 9) 0 u
def bkM (u v : Int) : Nat → Int := accM 2 readyK 8 (readyM 9) 0 u v
def bkK2 (u v : Int) : Nat → Core := accK 2 (bkK1 u) 8 (bkM u v) 0 u
def bkF (u : Int) : Int := accF 2 readyK 8 (readyM 9) 0 u true
def bkG (u v : Int) : Int := accF 2 (bkK1 u) 8 (bkM u v) 0 u false
def bkH (u v : Int) : Int := accF 2 (bkK2 u v) 8 (bkM u v) 1 u false
def bkX (u v : Int) : Int := accL 2 (bkK1 u) 8 (bkM u v) 0 u
def bkY (u v : Int) : Int := accL 2 (bkK2 u v) 8 (bkM u v) 1 u
def both (p : Int) : Bool := p == 2 || p == 4
theorem bk_no : ∀ p : Fin 8, ∀ q : Fin 8, p ≠ 2 → p ≠ 4 → p ≠ 1 → bkF (64 * (p.val : Int) + 8 * (q.val : Int)) ≠ 0 := by decide +kernel
theorem bk_1_0 : (fun v : Int => bkG 64 v) = fun _ => 5 := by kernel_rfl
theorem bk_1_1 : (fun v : Int => bkG 72 v) = fun _ => 5 := by kernel_rfl
theorem bk_1_2 : (fun v : Int => bkG 80 v) = fun _ => 5 := by kernel_rfl
theorem bk_1_3 : (fun v : Int => bkG 88 v) = fun _ => 5 := by kernel_rfl
theorem bk_1_4 : (fun v : Int => bkG 96 v) = fun _ => 5 := by kernel_rfl
theorem bk_1_5 : (fun v : Int => bkG 104 v) = fun _ => 5 := by kernel_rfl
theorem bk_1_6 : (fun v : Int => bkG 112 v) = fun _ => 5 := by kernel_rfl
theorem bk_1_7 : (fun v : Int => bkG 120 v) = fun _ => 5 := by kernel_rfl
theorem bk_2_0 : (fun v : Int => (bkF 128, bkG 128 v, bkH 128 v, bkX 128 v, bkY 128 v)) = fun v => (0, 0, 0, v, v) := by kernel_rfl
theorem bk_2_1 : (fun v : Int => (bkF 136, bkG 136 v, bkH 136 v, bkX 136 v, bkY 136 v)) = fun v => (0, 0, 0, v, v) := by kernel_rfl
theorem bk_2_2 : (fun v : Int => (bkF 144, bkG 144 v, bkH 144 v, bkX 144 v, bkY 144 v)) = fun v => (0, 0, 0, v, v) := by kernel_rfl
theorem bk_2_3 : (fun v : Int => (bkF 152, bkG 152 v, bkH 152 v, bkX 152 v, bkY 152 v)) = fun v => (0, 0, 0, v, v) := by kernel_rfl
theorem bk_2_4 : (fun v : Int => (bkF 160, bkG 160 v, bkH 160 v, bkX 160 v, bkY 160 v)) = fun v => (0, 0, 0, v, v) := by kernel_rfl
theorem bk_2_5 : (fun v : Int => (bkF 168, bkG 168 v, bkH 168 v, bkX 168 v, bkY 168 v)) = fun v => (0, 0, 0, v, v) := by kernel_rfl
theorem bk_2_6 : (fun v : Int => (bkF 176, bkG 176 v, bkH 176 v, bkX 176 v, bkY 176 v)) = fun v => (0, 0, 0, v, v) := by kernel_rfl
theorem bk_2_7 : (fun v : Int => (bkF 184, bkG 184 v, bkH 184 v, bkX 184 v, bkY 184 v)) = fun v => (0, 0, 0, v, v) := by kernel_rfl
theorem bk_4_0 : (fun v : Int => (bkF 256, bkG 256 v, bkH 256 v, bkX 256 v, bkY 256 v)) = fun v => (0, 0, 0, v, v) := by kernel_rfl
theorem bk_4_1 : (fun v : Int => (bkF 264, bkG 264 v, bkH 264 v, bkX 264 v, bkY 264 v)) = fun v => (0, 0, 0, v, v) := by kernel_rfl
theorem bk_4_2 : (fun v : Int => (bkF 272, bkG 272 v, bkH 272 v, bkX 272 v, bkY 272 v)) = fun v => (0, 0, 0, v, v) := by kernel_rfl
theorem bk_4_3 : (fun v : Int => (bkF 280, bkG 280 v, bkH 280 v, bkX 280 v, bkY 280 v)) = fun v => (0, 0, 0, v, v) := by kernel_rfl
theorem bk_4_4 : (fun v : Int => (bkF 288, bkG 288 v, bkH 288 v, bkX 288 v, bkY 288 v)) = fun v => (0, 0, 0, v, v) := by kernel_rfl
theorem bk_4_5 : (fun v : Int => (bkF 296, bkG 296 v, bkH 296 v, bkX 296 v, bkY 296 v)) = fun v => (0, 0, 0, v, v) := by kernel_rfl
theorem bk_4_6 : (fun v : Int => (bkF 304, bkG 304 v, bkH 304 v, bkX 304 v, bkY 304 v)) = fun v => (0, 0, 0, v, v) := by kernel_rfl
theorem bk_4_7 : (fun v : Int => (bkF 312, bkG 312 v, bkH 312 v, bkX 312 v, bkY 312 v)) = fun v => (0, 0, 0, v, v) := by kernel_rfl
theorem bk_1 (q : Fin 8) (v : Int) : bkG (64 + 8 * (q.val : Int)) v = 5 := by
  obtain ⟨q, hq⟩ := q
  have h : q = 0 ∨ q = 1 ∨ q = 2 ∨ q = 3 ∨ q = 4 ∨ q = 5 ∨ q = 6 ∨ q = 7 := by omega
  rcases h with rfl | rfl | rfl | rfl | rfl | rfl | rfl | rfl
  · exact congrFun bk_1_0 v
  · exact congrFun bk_1_1 v
  · exact congrFun bk_1_2 v
  · exact congrFun bk_1_3 v
  · exact congrFun bk_1_4 v
  · exact congrFun bk_1_5 v
  · exact congrFun bk_1_6 v
  · exact congrFun bk_1_7 v
theorem bk_2 (q : Fin 8) (v : Int) : (bkF (128 + 8 * (q.val : Int)), bkG (128 + 8 * (q.val : Int)) v, bkH (128 + 8 * (q.val : Int)) v, bkX (128 + 8 * (q.val : Int)) v, bkY (128 + 8 * (q.val : Int)) v) = (0, 0, 0, v, v) := by
  obtain ⟨q, hq⟩ := q
  have h : q = 0 ∨ q = 1 ∨ q = 2 ∨ q = 3 ∨ q = 4 ∨ q = 5 ∨ q = 6 ∨ q = 7 := by omega
  rcases h with rfl | rfl | rfl | rfl | rfl | rfl | rfl | rfl
  · exact congrFun bk_2_0 v
  · exact congrFun bk_2_1 v
  · exact congrFun bk_2_2 v
  · exact congrFun bk_2_3 v
  · exact congrFun bk_2_4 v
  · exact congrFun bk_2_5 v
  · exact congrFun bk_2_6 v
  · exact congrFun bk_2_7 v
theorem bk_4 (q : Fin 8) (v : Int) : (bkF (256 + 8 * (q.val : Int)), bkG (256 + 8 * (q.val : Int)) v, bkH (256 + 8 * (q.val : Int)) v, bkX (256 + 8 * (q.val : Int)) v, bkY (256 + 8 * (q.val : Int)) v) = (0, 0, 0, v, v) := by
  obtain ⟨q, hq⟩ := q
  have h : q = 0 ∨ q = 1 ∨ q = 2 ∨ q = 3 ∨ q = 4 ∨ q = 5 ∨ q = 6 ∨ q = 7 := by omega
  rcases h with rfl | rfl | rfl | rfl | rfl | rfl | rfl | rfl
  · exact congrFun bk_4_0 v
  · exact congrFun bk_4_1 v
  · exact congrFun bk_4_2 v
  · exact congrFun bk_4_3 v
  · exact congrFun bk_4_4 v
  · exact congrFun bk_4_5 v
  · exact congrFun bk_4_6 v
  · exact congrFun bk_4_7 v
/-- The two ways that it goes. -/
theorem bk_way (p q : Nat) (hp : p < 8) (hq : q < 8) (v : Int) :
    (both p = true ∧ bkF (64 * (p : Int) + 8 * (q : Int)) = 0 ∧ bkG (64 * (p : Int) + 8 * (q : Int)) v = 0 ∧ bkH (64 * (p : Int) + 8 * (q : Int)) v = 0 ∧ bkX (64 * (p : Int) + 8 * (q : Int)) v = v ∧ bkY (64 * (p : Int) + 8 * (q : Int)) v = v) ∨
    (both p = false ∧ (bkF (64 * (p : Int) + 8 * (q : Int)) ≠ 0 ∨ bkG (64 * (p : Int) + 8 * (q : Int)) v ≠ 0)) := by
  by_cases h2 : p = 2
  · subst h2
    have h := bk_2 ⟨q, hq⟩ v
    simp only [Prod.mk.injEq] at h
    exact .inl ⟨rfl, h⟩
  by_cases h4 : p = 4
  · subst h4
    have h := bk_4 ⟨q, hq⟩ v
    simp only [Prod.mk.injEq] at h
    exact .inl ⟨rfl, h⟩
  refine .inr ⟨?_, ?_⟩
  · unfold both
    simp only [Bool.or_eq_false_iff, beq_eq_false_iff_ne]
    exact ⟨by omega, by omega⟩
  by_cases h1 : p = 1
  · subst h1
    refine .inr ?_
    rw [show (64 * ((1 : Nat) : Int) + 8 * (q : Int)) = 64 + 8 * (q : Int) by omega, bk_1 ⟨q, hq⟩ v]
    decide
  · exact .inl (bk_no ⟨p, hp⟩ ⟨q, hq⟩ (fun e => h2 (congrArg Fin.val e)) (fun e => h4 (congrArg Fin.val e)) (fun e => h1 (congrArg Fin.val e)))
end Go.Proofs.Ytlfenakabedmfaa
