/- Memories with one table of leaves, and what cores translate there. -/
import Derived.Test.YtjnnimdgmcpjoaaLaw7
namespace Go.Proofs.Ytjnnimdgmcpjoaa
open Go.RowKit Go.Shelf
theorem storeV_at {N j : Nat} (m : Nat → Int) (v : Int) (h : j < 8 * N) : storeV N m (8 * (j : Int)) v = upd m j v := by
  unfold storeV
  rw [if_pos (adr_of h), show (8 * (j : Int) / 8).toNat = j by omega]
  rfl
theorem ent_t {N : Nat} {x : Int} {f : Nat} (h1 : decOk x = true) (h2 : bitB x 0 = true) (h3 : bitB x 1 = false) (h4 : x / 256 % 64 = f) (h5 : f < N) : entE N x false = 0 := by
  unfold entE
  rw [if_neg (by rw [h1]; decide), if_neg (by rw [h2]; decide), if_neg]
  rintro (h | h)
  · exact h h3
  · omega
/-- What a walk tells of a page of the first table, where the tables lie in 0, 1 and 2. -/
theorem tab_walk {N : Nat} {m : Nat → Int} (hN : 3 ≤ N) (h0 : m 0 = 257) (h8 : m 8 = 513) {p : Nat} (hp : p < 8) : wlkE N m 0 p = entE N (m (16 + p)) true ∧ leafX N m 0 p = m (16 + p) := by
  have hb : badV N 0 p 3 = 0 := by unfold badV; rw [if_neg (by omega)]
  have hA : atV N m 0 p 3 = atF N m 0 p 3 := by unfold atV; rw [if_pos hb]; rfl
  have w1 : wdN m 0 p 1 = 0 := by show 8 * 0 + p / 64 = _; omega
  have er1 : erN N m 0 p 1 = 0 := by
    unfold erN; rw [w1, h0]
    exact ent_t (f := 1) (by decide +kernel) (by decide +kernel) (by decide +kernel) (by decide) (by omega)
  have w2 : wdN m 0 p 2 = 8 := by
    show 8 * (m (8 * 0 + p / 64) / 256 % 64).toNat + p / 8 % 8 = _
    rw [show 8 * 0 + p / 64 = 0 by omega, h0]
    have : ((257 : Int) / 256 % 64).toNat = 1 := by decide
    omega
  have er2 : erN N m 0 p 2 = 0 := by
    unfold erN; rw [w2, h8]
    exact ent_t (f := 2) (by decide +kernel) (by decide +kernel) (by decide +kernel) (by decide) (by omega)
  have w3 : wdN m 0 p 3 = 16 + p := by
    show 8 * (m (wdN m 0 p 2) / 256 % 64).toNat + p % 8 = _
    rw [w2, h8]
    have : ((513 : Int) / 256 % 64).toNat = 2 := by decide
    omega
  have hF : atF N m 0 p 3 = (8 * ((16 + p : Nat) : Int), 0) := by rw [atF_3, if_pos er1, if_pos er2, w3]
  unfold wlkE leafX
  rw [hA, hF]
  rw [show (8 * ((16 + p : Nat) : Int) / 8).toNat = 16 + p by omega]
  exact ⟨if_pos rfl, rfl⟩
theorem tab_yes {N : Nat} {m : Nat → Int} (hN : 3 ≤ N) (h0 : m 0 = 257) (h8 : m 8 = 513) {p : Nat} (hp : p < 8) (he : entE N (m (16 + p)) true = 0) {s : Int} {c : Cache} (hf : findOk c s p = false) :
    trIn N m p ⟨0, s, c⟩ = (⟨s, p, m (16 + p) / 256 % 64, bitB (m (16 + p)) 2, bitB (m (16 + p)) 3⟩, false, 0) ∧ trInC N m p ⟨0, s, c⟩ = fillC c ⟨s, p, m (16 + p) / 256 % 64, bitB (m (16 + p)) 2, bitB (m (16 + p)) 3⟩ := by
  obtain ⟨e1, e2⟩ := tab_walk hN h0 h8 hp
  have hw : wlkE N m 0 p = 0 := e1.trans he
  have ht : wlkT N m 0 p s = ⟨s, p, m (16 + p) / 256 % 64, bitB (m (16 + p)) 2, bitB (m (16 + p)) 3⟩ := by unfold wlkT; rw [e2]
  unfold trIn trInC
  dsimp only
  have hz : ¬ ((0 : Int) < 0) := by decide
  have hf' : ¬ findOk c s p = true := by rw [hf]; decide
  constructor
  · rw [if_neg hz, if_neg hf', if_pos hw, ht]
  · rw [if_neg hz, if_neg hf', if_pos hw, ht]
theorem tab_hit {N : Nat} {m : Nat → Int} {p s : Int} {c : Cache} (hf : findOk c s p = true) : trIn N m p ⟨0, s, c⟩ = (findTr c s p, true, 0) ∧ trInC N m p ⟨0, s, c⟩ = c := by
  unfold trIn trInC
  dsimp only
  have hz : ¬ ((0 : Int) < 0) := by decide
  constructor
  · rw [if_neg hz, if_pos hf]
  · rw [if_neg hz, if_pos hf]
/-- The memory of CoresOwn and CoresDown, when k leaves are laid. -/
def memD (k : Nat) : Nat → Int := fun i => if i = 0 then 257 else if i = 8 then 513 else if 16 ≤ i ∧ i < 16 + k then 775 else 0
theorem memD_start : storeV 4 (storeV 4 (fun _ => 0) 0 257) 64 513 = memD 0 := by
  have e1 := storeV_at (N := 4) (j := 0) (fun _ => 0) 257 (by decide)
  have e2 := storeV_at (N := 4) (j := 8) (upd (fun _ => 0) 0 257) 513 (by decide)
  rw [show (64 : Int) = 8 * ((8 : Nat) : Int) from rfl, show (0 : Int) = 8 * ((0 : Nat) : Int) from rfl]
  rw [show (fun _ => 8 * ((0 : Nat) : Int)) = ((fun _ => 0) : Nat → Int) from rfl, e1, e2]
  funext i
  unfold upd memD
  by_cases h0 : i = 0
  · subst h0; rfl
  · by_cases h8 : i = 8
    · subst h8; rfl
    · rw [if_neg h8, if_neg h0, if_neg h0, if_neg h8, if_neg (by omega)]
theorem memD_next {k : Nat} (hk : k < 8) : storeV 4 (memD k) (128 + 8 * (k : Int)) 775 = memD (k + 1) := by
  rw [show 128 + 8 * (k : Int) = 8 * ((16 + k : Nat) : Int) by omega, storeV_at _ _ (by omega)]
  funext i
  unfold upd memD
  by_cases h : i = 16 + k
  · subst h; rw [if_pos rfl, if_neg (by omega), if_neg (by omega), if_pos (by omega)]
  · rw [if_neg h]
    by_cases h0 : i = 0
    · rw [if_pos h0, if_pos h0]
    · rw [if_neg h0, if_neg h0]
      by_cases h8 : i = 8
      · rw [if_pos h8, if_pos h8]
      · rw [if_neg h8, if_neg h8]
        by_cases h16 : 16 ≤ i ∧ i < 16 + k
        · rw [if_pos h16, if_pos (by omega)]
        · rw [if_neg h16, if_neg (by omega)]
/-- The translation of a page there. -/
def tD (s p : Nat) : Tr := ⟨s, p, 3, true, false⟩
theorem memD_ent : entE 4 775 true = 0 := by decide +kernel
theorem memD_yes {p s : Nat} (hp : p < 8) {c : Cache} (hf : findOk c s p = false) : trIn 4 (memD 8) p ⟨0, s, c⟩ = (tD s p, false, 0) ∧ trInC 4 (memD 8) p ⟨0, s, c⟩ = fillC c (tD s p) := by
  have hm : memD 8 (16 + p) = 775 := by unfold memD; rw [if_neg (by omega), if_neg (by omega), if_pos (by omega)]
  obtain ⟨a, b⟩ := tab_yes (N := 4) (m := memD 8) (by decide) rfl rfl hp (by rw [hm]; exact memD_ent) hf
  rw [hm] at a b
  exact ⟨a, b⟩
end Go.Proofs.Ytjnnimdgmcpjoaa
