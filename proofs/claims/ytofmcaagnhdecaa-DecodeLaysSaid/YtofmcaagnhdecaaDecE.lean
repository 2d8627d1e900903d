/- The walk of decode.Decode: its loop over the words. -/
import Derived.Test.YtofmcaagnhdecaaDecD
namespace Go.Proofs.Ytofmcaagnhdecaa
open Go.RowKit Go.Shelf
attribute [local go_sem] Oper.semAt_some

/-! Plain facts. -/
theorem tailBad_le {n : Nat} {x : Nat → Int} {k j : Nat} (h : tailBad n x k = true) (hj : k ≤ j) : tailBad n x j = true := by
  induction j with
  | zero => rw [show k = 0 by omega] at h; exact h
  | succ j ih =>
    by_cases e : k = j + 1
    · rw [← e]; exact h
    · unfold tailBad
      rw [ih (by omega), Bool.true_or]
theorem tailBad_at {n : Nat} {x : Nat → Int} {k : Nat} (hn : n ≤ k) (hx : x k ≠ 0) : tailBad n x (k + 1) = true := by
  unfold tailBad
  rw [decide_eq_true hn, decide_eq_true hx, Bool.and_self, Bool.or_true]
theorem tailBad_in {n : Nat} {x : Nat → Int} {k : Nat} (h : tailBad n x k = false) (hn : k < n ∨ x k = 0) : tailBad n x (k + 1) = false := by
  unfold tailBad
  rw [h, Bool.false_or]
  rcases hn with hn | hn
  · rw [decide_eq_false (by omega), Bool.false_and]
  · rw [hn]; simp
theorem mTo_in {fs : List (Int × Int × Nat)} {x : Nat → Int} {k : Nat} {f : Int × Int × Nat} (hk : fs[k]? = some f) (hr : inr f (x k) = true) : mTo fs x (k + 1) = fun j => if j = f.2.2 then x k else mTo fs x k j := by
  conv => lhs; unfold mTo
  simp only [hk]
  rw [if_pos hr]
theorem mTo_out {fs : List (Int × Int × Nat)} {x : Nat → Int} {k : Nat} (hr : ∀ f, fs[k]? = some f → inr f (x k) = false) : mTo fs x (k + 1) = mTo fs x k := by
  conv => lhs; unfold mTo
  cases hk : fs[k]? with
  | none => rfl
  | some f => simp only [hr f hk]; rfl
theorem rangeBad_in {fs : List (Int × Int × Nat)} {x : Nat → Int} {k : Nat} (hr : ∀ f, fs[k]? = some f → inr f (x k) = true) : rangeBad fs x (k + 1) = rangeBad fs x k := by
  conv => lhs; unfold rangeBad
  cases hk : fs[k]? with
  | none => simp
  | some f => simp [hr f hk]
theorem rangeBad_out {fs : List (Int × Int × Nat)} {x : Nat → Int} {k : Nat} {f : Int × Int × Nat} (hk : fs[k]? = some f) (hr : inr f (x k) = false) : rangeBad fs x (k + 1) = true := by
  conv => lhs; unfold rangeBad
  simp [hk, hr]
theorem ordA_n (m : Nat → Int) (t : Nat) (v : Int) (h1 : t ≤ 6) : (ordA m).setIfInBounds t (.int .i64 v) = ordA (fun j => if j = t then v else m j) := by
  have : t = 0 ∨ t = 1 ∨ t = 2 ∨ t = 3 ∨ t = 4 ∨ t = 5 ∨ t = 6 := by omega
  rcases this with rfl | rfl | rfl | rfl | rfl | rfl | rfl <;> rfl
theorem ordA_w (m : Nat → Int) (t : Nat) (v : Int) (h1 : 7 ≤ t) (h2 : t ≤ 11) : (ordA m).setIfInBounds t (.int .u64 v) = ordA (fun j => if j = t then v else m j) := by
  have : t = 7 ∨ t = 8 ∨ t = 9 ∨ t = 10 ∨ t = 11 := by omega
  rcases this with rfl | rfl | rfl | rfl | rfl <;> rfl
theorem ordA_12 (m : Nat → Int) (v : Int) : ordA (fun j => if j = 12 then v else m j) = ordA m := rfl
theorem ordA_cell_n (m : Nat → Int) (t : Nat) (h1 : t ≤ 6) : (ordA m)[t]? = some (.int .i64 (m t)) := by
  have : t = 0 ∨ t = 1 ∨ t = 2 ∨ t = 3 ∨ t = 4 ∨ t = 5 ∨ t = 6 := by omega
  rcases this with rfl | rfl | rfl | rfl | rfl | rfl | rfl <;> rfl
theorem ordA_cell_w (m : Nat → Int) (t : Nat) (h1 : 7 ≤ t) (h2 : t ≤ 11) : (ordA m)[t]? = some (.int .u64 (m t)) := by
  have : t = 7 ∨ t = 8 ∨ t = 9 ∨ t = 10 ∨ t = 11 := by omega
  rcases this with rfl | rfl | rfl | rfl | rfl <;> rfl
theorem mod_set12 {S : Nat → Prop} {a w : World} (h : Mod S a w) {g : Nat} (hg : S g ∨ a.heap.size ≤ g) (v0 v1 v2 v3 v4 v5 v6 v7 v8 v9 v10 v11 : Value) : Mod S a ((((((((((((w.setCell ⟨g, 0, none⟩ v0).setCell ⟨g, 1, none⟩ v1).setCell ⟨g, 2, none⟩ v2).setCell ⟨g, 3, none⟩ v3).setCell ⟨g, 4, none⟩ v4).setCell ⟨g, 5, none⟩ v5).setCell ⟨g, 6, none⟩ v6).setCell ⟨g, 7, none⟩ v7).setCell ⟨g, 8, none⟩ v8).setCell ⟨g, 9, none⟩ v9).setCell ⟨g, 10, none⟩ v10).setCell ⟨g, 11, none⟩ v11) := ((((((((((((h.setCell (p := ⟨g, 0, none⟩) hg v0).setCell (p := ⟨g, 1, none⟩) hg v1).setCell (p := ⟨g, 2, none⟩) hg v2).setCell (p := ⟨g, 3, none⟩) hg v3).setCell (p := ⟨g, 4, none⟩) hg v4).setCell (p := ⟨g, 5, none⟩) hg v5).setCell (p := ⟨g, 6, none⟩) hg v6).setCell (p := ⟨g, 7, none⟩) hg v7).setCell (p := ⟨g, 8, none⟩) hg v8).setCell (p := ⟨g, 9, none⟩) hg v9).setCell (p := ⟨g, 10, none⟩) hg v10).setCell (p := ⟨g, 11, none⟩) hg v11)
theorem cell_set12 {w : World} {g C : Nat} {v0 v1 v2 v3 v4 v5 v6 v7 v8 v9 v10 v11 v : Value} (hne : C ≠ g) (hlt : C < w.heap.size) (h : w.cell? ⟨C, 0, none⟩ = some v) : ((((((((((((w.setCell ⟨g, 0, none⟩ v0).setCell ⟨g, 1, none⟩ v1).setCell ⟨g, 2, none⟩ v2).setCell ⟨g, 3, none⟩ v3).setCell ⟨g, 4, none⟩ v4).setCell ⟨g, 5, none⟩ v5).setCell ⟨g, 6, none⟩ v6).setCell ⟨g, 7, none⟩ v7).setCell ⟨g, 8, none⟩ v8).setCell ⟨g, 9, none⟩ v9).setCell ⟨g, 10, none⟩ v10).setCell ⟨g, 11, none⟩ v11).cell? ⟨C, 0, none⟩ = some v :=
  ((mod_set12 (Mod.refl (fun k => k = g) w) (.inl rfl) _ _ _ _ _ _ _ _ _ _ _ _).cell hne hlt).trans h
theorem cell_set12d {w : World} {g C : Nat} {v0 v1 v2 v3 v4 v5 v6 v7 v8 v9 v10 v11 v : Value} (hne : C ≠ g) (hlt : C < w.heap.size) (h : w.cell? ⟨C, 0, none⟩ = some v) : ((((((((((((w.setCell ⟨g, 0, none⟩ v0).setCell ⟨g, 1, none⟩ v1).setCell ⟨g, 2, none⟩ v2).setCell ⟨g, 3, none⟩ v3).setCell ⟨g, 4, none⟩ v4).setCell ⟨g, 5, none⟩ v5).setCell ⟨g, 6, none⟩ v6).setCell ⟨g, 7, none⟩ v7).setCell ⟨g, 8, none⟩ v8).setCell ⟨g, 9, none⟩ v9).setCell ⟨g, 10, none⟩ v10).setCell ⟨g, 11, none⟩ v11).drew.cell? ⟨C, 0, none⟩ = some v := (drew_cell _ _ _).trans (cell_set12 hne hlt h)
theorem mTo_le {fs : List (Int × Int × Nat)} {x : Nat → Int} (hok : fs.all okF = true) (k j : Nat) (hj : j ≤ 6 ∨ j = 12) : 0 ≤ mTo fs x k j ∧ mTo fs x k j ≤ 4096 := by
  induction k with
  | zero => exact ⟨Int.le_refl _, by show (0 : Int) ≤ 4096; decide⟩
  | succ k ih =>
    cases hk : fs[k]? with
    | none => rw [mTo_out (fun f hf => by rw [hk] at hf; cases hf)]; exact ih
    | some f =>
      obtain ⟨b1, b2, b3, b4, b5, b6⟩ := okF_w (List.all_eq_true.1 hok _ (List.mem_of_getElem? hk))
      by_cases hr : inr f (x k) = true
      · rw [mTo_in hk hr]
        show 0 ≤ (if j = f.2.2 then x k else mTo fs x k j) ∧ (if j = f.2.2 then x k else mTo fs x k j) ≤ 4096
        by_cases e : j = f.2.2
        · rw [if_pos e]
          unfold inr at hr
          simp only [Bool.and_eq_true, decide_eq_true_eq] at hr
          have : ¬ isW f.2.2 = true := by
            intro h
            have : 7 ≤ f.2.2 ∧ f.2.2 ≤ 11 := by simpa [isW] using h
            omega
          rcases b4 with b4 | b4
          · exact absurd b4 this
          · omega
        · rw [if_neg e]; exact ih
      · rw [mTo_out (fun f' hf => by rw [hk] at hf; cases hf; simpa using hr)]; exact ih
def codeI (fs : List (Int × Int × Nat)) (x : Nat → Int) (k : Nat) : Int := if rangeBad fs x k then 3 else 0
/-- What the loop over the words keeps. -/
structure DecI (w : World) (H gl Hc : Nat) (op : Int) (x : Nat → Int) (fs : List (Int × Int × Nat)) (cs : Array Value) (k : Nat) (W : World) : Prop where
  tail : tailBad fs.length x k = false
  call : Blk W H 25 (callA op x)
  res : Blk W (H + 1) 29 (ordA fun _ => 0)
  ord : Blk W (H + 1 + 1) 29 (ordA (mTo fs x k))
  cnt : Blk W (H + 1 + 1 + 1) 3 #[.int .i64 (mTo fs x k 12)]
  code : Blk W Hc 30 #[.int .i64 (codeI fs x k)]
  forms : fs.length = 0 ∨ Blk W gl 57 cs
  below : Below H w W
theorem DecI.skips {w : World} {H gl Hc : Nat} {op : Int} {x : Nat → Int} {fs : List (Int × Int × Nat)} {cs : Array Value} {k B : Nat} {A C : World} (h : DecI w H gl Hc op x fs cs k A) (hk : Skips B A C) (hB : H ≤ B) (hw : H ≤ w.heap.size) : DecI w H gl Hc op x fs cs k C :=
  ⟨h.tail, hk.blk h.call, hk.blk h.res, hk.blk h.ord, hk.blk h.cnt, hk.blk h.code, h.forms.imp id hk.blk, below_skips h.below hk hB hw⟩

section
variable {w W : World} {H gl C : Nat} {op : Int} {x : Nat → Int} {fs : List (Int × Int × Nat)} {cs : Array Value} {k : Nat} {f : Int × Int × Nat}
theorem DecI.alloc (h : DecI w H gl C op x fs cs k W) (hw : H ≤ w.heap.size) (o : Obj) : DecI w H gl C op x fs cs k (W.alloc o) := h.skips (Skips.alloc W o H) (Nat.le_refl _) hw
theorem DecI.len {j : Nat} (h : DecI w H gl C op x fs cs k W) (e : j = k) : DecI w H gl C op x fs cs j W := by rw [e]; exact h
theorem DecI.out_ (h : DecI w H gl C op x fs cs k W) (hf : fs[k]? = some f) (hr : inr f (x k) = false) (h1 : H + 4 ≤ C) (h2 : gl ≠ C) : DecI w H gl C op x fs cs (k + 1) (W.setCell ⟨C, 0, none⟩ (.int .i64 3)) := by
  have hm : mTo fs x (k + 1) = mTo fs x k := mTo_out (fun f' hf' => by rw [hf] at hf'; cases hf'; exact hr)
  refine ⟨tailBad_in h.tail (.inl (List.getElem?_eq_some_iff.1 hf).1), h.call.far (by show _ ≠ C; omega) _, h.res.far (by show _ ≠ C; omega) _, by rw [hm]; exact h.ord.far (by show _ ≠ C; omega) _, by rw [hm]; exact h.cnt.far (by show _ ≠ C; omega) _, ?_, h.forms.imp id fun hb => hb.far h2 _, h.below.setCell (by show _ ≤ C; omega) _⟩
  have := h.code.set_ 0 (.int .i64 3)
  rw [show codeI fs x (k + 1) = 3 by unfold codeI; rw [rangeBad_out hf hr]; rfl]
  simpa using this
theorem DecI.skip_ (h : DecI w H gl C op x fs cs k W) (hn : fs.length ≤ k) (hx : x k = 0) : DecI w H gl C op x fs cs (k + 1) W := by
  have hnone : fs[k]? = none := List.getElem?_eq_none hn
  have hm : mTo fs x (k + 1) = mTo fs x k := mTo_out (fun f' hf' => by rw [hnone] at hf'; cases hf')
  have hc : codeI fs x (k + 1) = codeI fs x k := by unfold codeI; rw [rangeBad_in (fun f' hf' => by rw [hnone] at hf'; cases hf')]
  exact ⟨tailBad_in h.tail (.inr hx), h.call, h.res, by rw [hm]; exact h.ord, by rw [hm]; exact h.cnt, by rw [hc]; exact h.code, h.forms, h.below⟩
theorem DecI.put_n (h : DecI w H gl C op x fs cs k W) (hf : fs[k]? = some f) (hr : inr f (x k) = true) (ht : f.2.2 ≤ 6) (h1 : H + 4 ≤ C) (h2 : fs.length = 0 ∨ H + 1 + 1 + 1 + 1 ≤ gl) : DecI w H gl C op x fs cs (k + 1) (W.setCell ⟨H + 1 + 1, f.2.2, none⟩ (.int .i64 (x k))) := by
  have hm := mTo_in hf hr
  have hc : codeI fs x (k + 1) = codeI fs x k := by unfold codeI; rw [rangeBad_in (fun f' hf' => by rw [hf] at hf'; cases hf'; exact hr)]
  have ho := h.ord.set_ f.2.2 (.int .i64 (x k))
  rw [ordA_n _ _ _ ht, ← hm] at ho
  refine ⟨tailBad_in h.tail (.inl (List.getElem?_eq_some_iff.1 hf).1), h.call.far (by show _ ≠ H + 1 + 1; omega) _, h.res.far (by show _ ≠ H + 1 + 1; omega) _, ho, ?_, by rw [hc]; exact h.code.far (by show _ ≠ H + 1 + 1; omega) _, h.forms.imp id fun hb => hb.far (by show _ ≠ H + 1 + 1; have := (List.getElem?_eq_some_iff.1 hf).1; omega) _, h.below.setCell (by show _ ≤ H + 1 + 1; omega) _⟩
  have e : mTo fs x (k + 1) 12 = mTo fs x k 12 := by rw [hm]; exact if_neg (by omega)
  rw [e]
  exact h.cnt.far (by show _ ≠ H + 1 + 1; omega) _
theorem DecI.put_w (h : DecI w H gl C op x fs cs k W) (hf : fs[k]? = some f) (hr : inr f (x k) = true) (ht : 7 ≤ f.2.2) (ht2 : f.2.2 ≤ 11) (h1 : H + 4 ≤ C) (h2 : fs.length = 0 ∨ H + 1 + 1 + 1 + 1 ≤ gl) : DecI w H gl C op x fs cs (k + 1) (W.setCell ⟨H + 1 + 1, f.2.2, none⟩ (.int .u64 (x k))) := by
  have hm := mTo_in hf hr
  have hc : codeI fs x (k + 1) = codeI fs x k := by unfold codeI; rw [rangeBad_in (fun f' hf' => by rw [hf] at hf'; cases hf'; exact hr)]
  have ho := h.ord.set_ f.2.2 (.int .u64 (x k))
  rw [ordA_w _ _ _ ht ht2, ← hm] at ho
  refine ⟨tailBad_in h.tail (.inl (List.getElem?_eq_some_iff.1 hf).1), h.call.far (by show _ ≠ H + 1 + 1; omega) _, h.res.far (by show _ ≠ H + 1 + 1; omega) _, ho, ?_, by rw [hc]; exact h.code.far (by show _ ≠ H + 1 + 1; omega) _, h.forms.imp id fun hb => hb.far (by show _ ≠ H + 1 + 1; have := (List.getElem?_eq_some_iff.1 hf).1; omega) _, h.below.setCell (by show _ ≤ H + 1 + 1; omega) _⟩
  have e : mTo fs x (k + 1) 12 = mTo fs x k 12 := by rw [hm]; exact if_neg (by omega)
  rw [e]
  exact h.cnt.far (by show _ ≠ H + 1 + 1; omega) _
theorem DecI.put_c (h : DecI w H gl C op x fs cs k W) (hf : fs[k]? = some f) (hr : inr f (x k) = true) (ht : f.2.2 = 12) (h1 : H + 4 ≤ C) (h2 : fs.length = 0 ∨ H + 1 + 1 + 1 + 1 ≤ gl) : DecI w H gl C op x fs cs (k + 1) (W.setCell ⟨H + 1 + 1 + 1, 0, none⟩ (.int .i64 (x k))) := by
  have hm := mTo_in hf hr
  rw [ht] at hm
  have hc : codeI fs x (k + 1) = codeI fs x k := by unfold codeI; rw [rangeBad_in (fun f' hf' => by rw [hf] at hf'; cases hf'; exact hr)]
  have ho : ordA (mTo fs x (k + 1)) = ordA (mTo fs x k) := by rw [hm]; exact ordA_12 _ _
  refine ⟨tailBad_in h.tail (.inl (List.getElem?_eq_some_iff.1 hf).1), h.call.far (by show _ ≠ H + 1 + 1 + 1; omega) _, h.res.far (by show _ ≠ H + 1 + 1 + 1; omega) _, by rw [ho]; exact h.ord.far (by show _ ≠ H + 1 + 1 + 1; omega) _, ?_, by rw [hc]; exact h.code.far (by show _ ≠ H + 1 + 1 + 1; omega) _, h.forms.imp id fun hb => hb.far (by show _ ≠ H + 1 + 1 + 1; have := (List.getElem?_eq_some_iff.1 hf).1; omega) _, h.below.setCell (by show _ ≤ H + 1 + 1 + 1; omega) _⟩
  have e : mTo fs x (k + 1) 12 = x k := by rw [hm]; exact if_pos rfl
  rw [e]
  have := h.cnt.set_ 0 (.int .i64 (x k))
  simpa using this
end
set_option maxRecDepth 100000 in
set_option maxHeartbeats 2000000 in
theorem decode_run (op : Int) (x : Nat → Int) (w : World) (fs : List (Int × Int × Nat)) (hx : U64 x) (hf : formL op = some fs) (hn : ¬ (op = 1 ∧ objB (x 1) (x 2) = false)) : Calls Try.prog 7 #[.agg (callA op x)] w (DecPost (decV op x) w) := by
  have hV : decV op x = if tailBad fs.length x 6 then (fun _ => 0, 2) else if rangeBad fs x 6 then (fun _ => 0, 3) else (finM op (mTo fs x 6), 0) := by unfold decV; rw [hf]; exact if_neg hn
  obtain ⟨hlen, hok, hop1, hop2⟩ := formL_ok hf
  have HV := hide hV
  have HF := hide hf
  have HX := hide hx
  have HO := hide hok
  clear hV hf hok
  have hcA : callA op x = #[.int .u64 op, .int .u64 (x 0), .int .u64 (x 1), .int .u64 (x 2), .int .u64 (x 3), .int .u64 (x 4), .int .u64 (x 5)] := rfl
  rw [hcA]
  refine calls_marks Try.func7 rfl ?_
  simp only [Try.ntmps7, List.size_toArray, List.length_cons, List.length_nil, Nat.reduceAdd, Nat.reduceSub, Array.replicate_succ, Array.replicate_zero, List.push_toArray, List.append_toArray, List.nil_append, List.cons_append]
  clear hcA hx
  go_wp2
  go_step3
  go_wp2_with fail
  refine (forms_any _ _ _ _).mono ?_
  rintro e w2 ⟨⟨v, b, rfl, hb, hfs⟩, hB⟩
  replace hfs := hfs _ HF.out
  rw [HF.out] at hb
  subst hb
  obtain ⟨p, gl, cap, cs, rfl, hp, hgl, hcs⟩ := hfs.open_
  obtain ⟨c0, c1, c2, c3, hB0, hz⟩ := dec_w hB
  simp only [World.size_alloc] at hgl
  clear hB hfs
  have HCS := hide hcs
  have HGL := hide hgl
  have HP := hide hp
  clear hcs hgl hp
  generalize hH : w.heap.size = H at *
  have hH' : H ≤ w.heap.size := Nat.le_of_eq hH.symm
  have HH := hide hH
  clear hH
  obtain ⟨n0, n1, n2, n3, n4, n5, n6⟩ := c0.c7
  have HN := hide hn
  clear hn
  go_upto_region 4 with fail
  go_cut [28] from 17 to 28 (fun b wx => b = .bool false ∧ Below w2.heap.size w2 wx)
  case first =>
    by_cases h1 : op = 1
    · subst h1
      have hob : objB (x 1) (x 2) = true := by
        cases h : objB (x 1) (x 2) with
        | true => rfl
        | false => exact absurd ⟨rfl, h⟩ HN.out
      have HOB := hide hob
      clear hob
      go_wp2_with fail
      refine (object_any 1 x _ HX.out).mono ?_
      rintro e w3 ⟨rfl, hB3⟩
      rw [HOB.out]
      go_wp2
      go_meet
      exact ⟨rfl, hB3⟩
    · go_wp2
      go_meet
      exact ⟨rfl, Below.refl _ _⟩
  case rest =>
    obtain ⟨rfl, hB3⟩ := hcut
    have hgl : fs.length = 0 ∨ (H + 1 + 1 + 1 + 1 ≤ gl ∧ Blk wc gl 57 cs) := HGL.out.imp id fun h => ⟨h.1, blk_call h.2 hB3⟩
    replace c0 := blk_call c0 hB3
    replace c1 := blk_call c1 hB3
    replace c2 := blk_call c2 hB3
    replace c3 := blk_call c3 hB3
    replace hB0 := hB0.trans (hB3.mono (by omega))
    have hz3 : H + 4 ≤ wc.heap.size := by have := hB3.size; omega
    clear n0 n1 n2 n3 n4 n5 n6 hB3 HGL
    have hD : DecI w H gl wc.heap.size op x fs cs 0 (wc.alloc (.cells #[.int .i64 0] 30)) :=
      ⟨rfl, c0.alloc _, c1.alloc _, c2.alloc _, c3.alloc _, Blk.new _ _ _, hgl.imp id fun h => h.2.alloc _, hB0.alloc (by omega) _⟩
    have hgl2 : fs.length = 0 ∨ (H + 1 + 1 + 1 + 1 ≤ gl ∧ gl < wc.heap.size) := hgl.imp id fun h => ⟨h.1, h.2.lt⟩
    have HGL := hide hgl2
    clear hgl2
    have hlc : wc.heap.size < (wc.alloc (.cells #[.int .i64 0] 30)).heap.size := by simp
    clear hgl
    go_wp2
    generalize wc.heap.size = C at *
    clear c0 c1 c2 c3 hB0
    generalize wc.alloc (.cells #[.int .i64 0] 30) = W0 at *
    go_step3
    obtain ⟨n0, n1, n2, n3, n4, n5, n6⟩ := (show Blk W0 H 25 #[.int .u64 op, .int .u64 (x 0), .int .u64 (x 1), .int .u64 (x 2), .int .u64 (x 3), .int .u64 (x 4), .int .u64 (x 5)] from hD.call).c7
    have HD := hide hD
    clear hD
    go_wp2_with fail
    refine (callsIn_wide.1 (words_in Fence.wide 10 (wideF _) rfl op x p fs.length cap _)).mono ?_
    rintro e w' ⟨rfl, rfl⟩
    go_wp2
    rename_i K hK
    have hD1 := (HD.out.alloc hH' (.cells (callA op x) 25)).alloc hH' (.cells #[.slice p fs.length cap] 46)
    have bc := (Blk.new W0 25 (callA op x)).alloc (.cells #[.slice p fs.length cap] 46)
    have bs := Blk.new (W0.alloc (.cells (callA op x) 25)) 46 #[.slice p fs.length cap]
    have hz1 : W0.heap.size + 2 ≤ ((W0.alloc (.cells (callA op x) 25)).alloc (.cells #[.slice p fs.length cap] 46)).heap.size := by simp
    simp only [World.size_alloc] at bs
    clear n0 n1 n2 n3 n4 n5 n6 HD
    generalize (W0.alloc (.cells (callA op x) 25)).alloc (.cells #[.slice p fs.length cap] 46) = W1 at *
    refine (wpIn_wide (n := 10)).1 ?_
    refine' wpIn_iter1 (F := Fence.wide) rfl (by decide) (gf := 28) (lb := _) rfl trivial (enters_of Try.func28 (by kernel_rfl) rfl) (words_iter Fence.wide 9 (wideF _) rfl (by omega) op x p gl cap fs.length _ _ W1 HP.out hlen bc bs)
      (fun pre k A B C' D h1 h2 h3 => ?hK) (fun _ _ _ _ h _ => h) (fun _ _ _ h _ => h) (fun _ => rfl)
      (fun pre W => DecI w H gl C op x fs cs pre.length W)
      (fun c _ W => c = .exit 0 ∧ tailBad fs.length x 6 = true ∧ Blk W (H + 1) 29 (ordA fun _ => 0) ∧ Blk W C 30 #[.int .i64 2] ∧ Below H w W)
      ?hI ?hIx ?h0 _ ?assign ?body ?done ?stop
    case assign =>
      intro l x W K hK
      gi_wp2
      exact hK
    case hK => exact KeepB.skips (fun k hk => by omega) h1 h2 h3
    case hI => exact fun s A C' h hk => h.skips hk (by omega) hH'
    case hIx => exact fun c s A C' h hk => ⟨h.1, h.2.1, hk.blk h.2.2.1, hk.blk h.2.2.2.1, below_skips h.2.2.2.2 hk (by omega) hH'⟩
    case h0 => exact hD1
    case body =>
      rintro l pre k W hl hr hI ⟨hk1, hk2⟩
      clear bc bs hD1 hK
      have hWF := (wideF Try.prog).inRound l
      have hfw : ∀ f, Fence.wide.fn f := fun _ => trivial
      have hfr : ∀ f, (Fence.wide.inRound l).fn f := fun _ => trivial
      have hI' : DecI w H gl C op x fs cs k W := by rw [hk1]; exact hI
      have hlen' : (pre ++ [k]).length = k + 1 := by rw [List.length_append, hk1]; rfl
      have HL := hide hlen'
      clear hI hk1 hlen'
      have Hr := hide hr
      clear hr
      have c00 := hI'.code.cell 0
      have cz := hI'.code.frozen 0
      have HI := hide hI'
      clear hI'
      by_cases hkn : k < fs.length
      · rw [fp_in hkn]
        obtain ⟨⟨lo, hi, t⟩, hf⟩ : ∃ f, fs[k]? = some f := ⟨_, List.getElem?_eq_getElem hkn⟩
        obtain ⟨b1, b2, b3, b4, b5, b6⟩ := okF_w (List.all_eq_true.1 HO.out _ (List.mem_of_getElem? hf))
        dsimp only at b1 b2 b3 b4 b5 b6
        have hgb : Blk W gl 57 cs := HI.out.forms.resolve_left (by omega)
        have q0 : W.cell? ⟨gl, k * 4, none⟩ = some (.int .u64 lo) := (hgb.cell (k * 4 + 0)).trans (HCS.out k 0 _ hf (by decide))
        have q1 : W.cell? ⟨gl, k * 4 + 1, none⟩ = some (.int .u64 hi) := (hgb.cell (k * 4 + 1)).trans (HCS.out k 1 _ hf (by decide))
        have q2 : W.cell? ⟨gl, k * 4 + 2, none⟩ = some (if isW t then .pointer none else fptr (H + 1 + 1) (H + 1 + 1 + 1) t) := (hgb.cell (k * 4 + 2)).trans (HCS.out k 2 _ hf (by decide))
        have q3 : W.cell? ⟨gl, k * 4 + 3, none⟩ = some (if isW t then fptr (H + 1 + 1) (H + 1 + 1 + 1) t else .pointer none) := (hgb.cell (k * 4 + 3)).trans (HCS.out k 3 _ hf (by decide))
        have hgC : gl < C ∧ H + 1 + 1 + 1 + 1 ≤ gl := by
          rcases HGL.out with h | h
          · omega
          · exact ⟨h.2, h.1⟩
        have hxk := HX.out k
        have Hf := hide hf
        have Hgb := hide hgb
        clear hf hgb
        by_cases hr1 : x k < lo
        · have Hout : Hid (inr (lo, hi, t) (x k) = false) := hide (by unfold inr; rw [decide_eq_false (by show ¬ lo ≤ x k; omega), Bool.false_and])
          clear q2 q3
          gi_wp2
          exact ⟨(keeps_set (KeepsOthers.refl _)).from _, KeepB.of_mod (Mod.one C W 0 _) (fun b hb => by omega), (HI.out.out_ Hf.out Hout.out hz3 (by omega)).len HL.out⟩
        · by_cases hr2 : hi < x k
          · have Hout : Hid (inr (lo, hi, t) (x k) = false) := hide (by unfold inr; rw [Bool.and_eq_false_iff]; exact .inr (decide_eq_false (by show ¬ x k ≤ hi; omega)))
            clear q2 q3
            gi_wp2
            exact ⟨(keeps_set (KeepsOthers.refl _)).from _, KeepB.of_mod (Mod.one C W 0 _) (fun b hb => by omega), (HI.out.out_ Hf.out Hout.out hz3 (by omega)).len HL.out⟩
          · have Hin : Hid (inr (lo, hi, t) (x k) = true) := hide (by unfold inr; rw [decide_eq_true (by show lo ≤ x k; omega), decide_eq_true (by show x k ≤ hi; omega), Bool.and_self])
            by_cases hw : isW t = true
            · have ht7 : 7 ≤ t ∧ t ≤ 11 := by simpa [isW] using hw
              rw [if_pos hw] at q2 q3
              rw [show fptr (H + 1 + 1) (H + 1 + 1 + 1) t = .pointer (some ⟨H + 1 + 1, t, none⟩) by unfold fptr; rw [if_neg (by omega)]] at q3
              have ho := (HI.out.ord.cell t).trans (ordA_cell_w (mTo fs x k) t ht7.1 ht7.2)
              have hz := HI.out.ord.frozen t
              have hl := HI.out.ord.lt
              clear hw b4
              gi_wp2_with (gi_at_call 17; refine (hWF.calls (put_w _ _ _ _ _ _ _ ho hz hl)).mono ?_; rintro e w' ⟨⟨v, rfl⟩, rfl⟩)
              exact ⟨((keeps_set (KeepsOthers.refl _)).trans (KeepsOthers.alloc _ _)).from _, KeepB.of_mod ((Mod.one (H + 1 + 1) W t _).alloc _) (fun b hb => by omega), ((HI.out.put_w Hf.out Hin.out ht7.1 ht7.2 hz3 (.inr hgC.2)).alloc hH' _).len HL.out⟩
            · have hw' : isW t = false := by simpa using hw
              rw [hw'] at q2 q3
              simp only [Bool.false_eq_true, if_false] at q2 q3
              have hhi : hi ≤ 4096 := by rcases b4 with b4 | b4; exact absurd b4 hw; exact b4
              by_cases ht12 : t = 12
              · subst ht12
                rw [show fptr (H + 1 + 1) (H + 1 + 1 + 1) 12 = .pointer (some ⟨H + 1 + 1 + 1, 0, none⟩) from rfl] at q2
                have ho := HI.out.cnt.cell 0
                have hz := HI.out.cnt.frozen 0
                have hl := HI.out.cnt.lt
                clear hw hw' b4
                gi_wp2_with (gi_at_call 17; refine (hWF.calls (put_n _ _ _ _ _ _ _ ho hz hl (by omega) (by omega))).mono ?_; rintro e w' ⟨⟨v, rfl⟩, rfl⟩)
                exact ⟨((keeps_set (KeepsOthers.refl _)).trans (KeepsOthers.alloc _ _)).from _, KeepB.of_mod ((Mod.one (H + 1 + 1 + 1) W 0 _).alloc _) (fun b hb => by omega), ((HI.out.put_c Hf.out Hin.out rfl hz3 (.inr hgC.2)).alloc hH' _).len HL.out⟩
              · have ht6 : t ≤ 6 := by
                  have : ¬ (7 ≤ t ∧ t ≤ 11) := by simpa [isW] using hw'
                  omega
                rw [show fptr (H + 1 + 1) (H + 1 + 1 + 1) t = .pointer (some ⟨H + 1 + 1, t, none⟩) by unfold fptr; rw [if_neg ht12]] at q2
                have ho := (HI.out.ord.cell t).trans (ordA_cell_n (mTo fs x k) t ht6)
                have hz := HI.out.ord.frozen t
                have hl := HI.out.ord.lt
                clear hw hw' b4 ht12
                gi_wp2_with (gi_at_call 17; refine (hWF.calls (put_n _ _ _ _ _ _ _ ho hz hl (by omega) (by omega))).mono ?_; rintro e w' ⟨⟨v, rfl⟩, rfl⟩)
                exact ⟨((keeps_set (KeepsOthers.refl _)).trans (KeepsOthers.alloc _ _)).from _, KeepB.of_mod ((Mod.one (H + 1 + 1) W t _).alloc _) (fun b hb => by omega), ((HI.out.put_n Hf.out Hin.out ht6 hz3 (.inr hgC.2)).alloc hH' _).len HL.out⟩
      · rw [fp_out hkn]
        by_cases hx0 : x k = 0
        · have d0 : ((x k : Int) == 0) = true := by simpa using hx0
          have d1 : ((x k : Int) != 0) = false := by simpa using hx0
          have HX0 := hide hx0
          clear hx0
          gi_wp2
          exact ⟨KeepsFrom.refl _ _, KeepB.refl _ _, (HI.out.skip_ (by omega) HX0.out).len HL.out⟩
        · have d1 : ((x k : Int) != 0) = true := by simpa using hx0
          have HX0 := hide hx0
          clear hx0
          gi_wp2
          exact ⟨(keeps_set (KeepsOthers.refl _)).from _, rfl, tailBad_le (tailBad_at (by omega) HX0.out) (by omega), HI.out.res.far (by show _ ≠ C; omega) _, by have := HI.out.code.set_ 0 (.int .i64 2); simpa using this, HI.out.below.setCell (by show _ ≤ C; omega) _⟩
    case done =>
      rintro D xs W hD hlen6 hI hd
      have hI6 : DecI w H gl C op x fs cs 6 W := by rw [← hlen6]; exact hI
      have hc0 : W.cell? ⟨C, 0, none⟩ = some (.int .i64 (codeI fs x 6)) := hI6.code.cell 0
      have hDl : H + 1 + 1 < D := by omega
      have hltc0 := hI6.code.lt
      have hm1 := mTo_le HO.out (x := x) 6 6 (.inl (Nat.le_refl _))
      have hm2 := mTo_le HO.out (x := x) 6 12 (.inr rfl)
      have hV := HV.out
      have ht6 := hI6.tail
      rw [ht6] at hV
      simp only [Bool.false_eq_true, if_false] at hV
      clear ht6 HV
      obtain ⟨n0, n1, n2, n3, n4, n5, n6⟩ := (show Blk W H 25 #[.int .u64 op, .int .u64 (x 0), .int .u64 (x 1), .int .u64 (x 2), .int .u64 (x 3), .int .u64 (x 4), .int .u64 (x 5)] from hI6.call).c7
      clear n1 n2 n3 n4 n5 n6
      have hres : Blk W (H + 1) 29 #[.int .i64 0, .int .i64 0, .int .i64 0, .int .i64 0, .int .i64 0, .int .i64 0, .int .i64 0, .int .u64 0, .int .u64 0, .int .u64 0, .int .u64 0, .int .u64 0] := hI6.res
      obtain ⟨e0, e1, e2, e3, e4, e5, e6, e7, e8, e9, e10, e11⟩ := hres.c12
      obtain ⟨f0, f1, f2, f3, f4, f5, f6, f7, f8, f9, f10, f11⟩ := hres.f12
      have hlr := hres.lt
      clear bc bs hD1 hI hlen6
      have HB6 := hide hI6.below
      have Hd := hide hd
      clear hd
      by_cases hb : rangeBad fs x 6 = true
      · have hci : codeI fs x 6 = 3 := by unfold codeI; rw [if_pos hb]
        rw [hci] at hc0
        rw [hb] at hV
        simp only [if_true] at hV
        have HVV := hide hV
        clear hI6 hb hci hV
        go_wp2
        have hcd : W.drew.cell? ⟨C, 0, none⟩ = some (.int .i64 3) := hc0
        have hltc : C < W.drew.heap.size := hltc0
        have hne : C ≠ H + 1 := by omega
        go_region_held3 (fun w' => w'.cell? ⟨C, 0, none⟩ = some (.int .i64 3)) (first | with_reducible assumption | with_reducible exact cell_set12 hne hltc0 hc0 | with_reducible exact cell_set12d hne hltc0 hc0) (fail)
        all_goals
          go_wp2
          rw [Exit.noGoto_ret]
          have hm12 := mod_set12 (Mod.refl (fun k => k = H + 1) W) (.inl rfl) (.int .i64 0) (.int .i64 0) (.int .i64 0) (.int .i64 0) (.int .i64 0) (.int .i64 0) (.int .i64 0) (.int .u64 0) (.int .u64 0) (.int .u64 0) (.int .u64 0) (.int .u64 0)
          have hb12 := (hres.set12 (.int .i64 0) (.int .i64 0) (.int .i64 0) (.int .i64 0) (.int .i64 0) (.int .i64 0) (.int .i64 0) (.int .u64 0) (.int .u64 0) (.int .u64 0) (.int .u64 0) (.int .u64 0)).drew
          have hdD := (hm12.drew.block D (Array.getElem?_eq_some_iff.1 Hd.out).1 (by show ¬ D = H + 1; omega)).trans Hd.out
          have sk := Skips.putObj (B := H + 1 + 1) hdD rfl (by omega) (.deferred none)
          refine marks_ret1 rfl hdD (results_cell_tmp rfl _ _ (H + 1) 29 _ (0, 0) _ rfl (sk.blk hb12) Try.underlying29 rfl (by kernel_rfl)) ⟨by rw [HVV.out]; rfl, ?_⟩
          rw [HH.out]
          exact below_skips (below_mod HB6.out hH' hm12.drew (fun k e => by have e' : k = H + 1 := e; omega)) sk (by omega) hH'
      · have hci : codeI fs x 6 = 0 := by unfold codeI; rw [if_neg hb]
        rw [hci] at hc0
        rw [show rangeBad fs x 6 = false by simpa using hb] at hV
        simp only [Bool.false_eq_true, if_false] at hV
        have HVV := hide hV
        have hord : Blk W (H + 1 + 1) 29 #[.int .i64 (mTo fs x 6 0), .int .i64 (mTo fs x 6 1), .int .i64 (mTo fs x 6 2), .int .i64 (mTo fs x 6 3), .int .i64 (mTo fs x 6 4), .int .i64 (mTo fs x 6 5), .int .i64 (mTo fs x 6 6), .int .u64 (mTo fs x 6 7), .int .u64 (mTo fs x 6 8), .int .u64 (mTo fs x 6 9), .int .u64 (mTo fs x 6 10), .int .u64 (mTo fs x 6 11)] := hI6.ord
        have k0 : W.cell? ⟨H + 1 + 1 + 1, 0, none⟩ = some (.int .i64 (mTo fs x 6 12)) := hI6.cnt.cell 0
        clear hI6 hb hci hV
        generalize mTo fs x 6 = m at *
        obtain ⟨o0, o1, o2, o3, o4, o5, o6, o7, o8, o9, o10, o11⟩ := hord.c12
        have z0 := hord.frozen 0
        have z6 := hord.frozen 6
        go_wp2
        rw [Exit.noGoto_ret]
        have hm2 := ((Mod.refl (fun k => k = H + 1 ∨ k = H + 1 + 1) W).setCell (p := ⟨H + 1 + 1, 0, none⟩) (.inl (.inr rfl)) (.int .i64 op)).setCell (p := ⟨H + 1 + 1, 6, none⟩) (.inl (.inr rfl)) (.int .i64 (m 6 + 16 * m 12))
        have hm12 := mod_set12 hm2 (.inl (.inl rfl)) (.int .i64 op) (.int .i64 (m 1)) (.int .i64 (m 2)) (.int .i64 (m 3)) (.int .i64 (m 4)) (.int .i64 (m 5)) (.int .i64 (m 6 + 16 * m 12)) (.int .u64 (m 7)) (.int .u64 (m 8)) (.int .u64 (m 9)) (.int .u64 (m 10)) (.int .u64 (m 11))
        have hres2 := (hres.far (p := ⟨H + 1 + 1, 0, none⟩) (by show H + 1 ≠ H + 1 + 1; omega) (.int .i64 op)).far (p := ⟨H + 1 + 1, 6, none⟩) (by show H + 1 ≠ H + 1 + 1; omega) (.int .i64 (m 6 + 16 * m 12))
        have hb12 := hres2.set12 (.int .i64 op) (.int .i64 (m 1)) (.int .i64 (m 2)) (.int .i64 (m 3)) (.int .i64 (m 4)) (.int .i64 (m 5)) (.int .i64 (m 6 + 16 * m 12)) (.int .u64 (m 7)) (.int .u64 (m 8)) (.int .u64 (m 9)) (.int .u64 (m 10)) (.int .u64 (m 11))
        have hdD := (hm12.block D (Array.getElem?_eq_some_iff.1 Hd.out).1 (by show ¬ (D = H + 1 ∨ D = H + 1 + 1); omega)).trans Hd.out
        have sk := Skips.putObj (B := H + 1 + 1) hdD rfl (by omega) (.deferred none)
        refine marks_ret1 rfl hdD (results_cell_tmp rfl _ _ (H + 1) 29 _ (0, 0) _ rfl (sk.blk hb12) Try.underlying29 rfl (by kernel_rfl)) ⟨by rw [HVV.out]; rfl, ?_⟩
        rw [HH.out]
        exact below_skips (below_mod HB6.out hH' hm12 (fun k e => by have e' : k = H + 1 ∨ k = H + 1 + 1 := e; omega)) sk (by omega) hH'
    case stop =>
      rintro D c pre W hD ⟨rfl, ht6, hres', hcode, hB⟩ hd
      have hc0 : W.cell? ⟨C, 0, none⟩ = some (.int .i64 2) := hcode.cell 0
      have hDl : H + 1 + 1 < D := by omega
      have hltc0 := hcode.lt
      have hV := HV.out
      rw [ht6] at hV
      simp only [if_true] at hV
      have HVV := hide hV
      have hres : Blk W (H + 1) 29 #[.int .i64 0, .int .i64 0, .int .i64 0, .int .i64 0, .int .i64 0, .int .i64 0, .int .i64 0, .int .u64 0, .int .u64 0, .int .u64 0, .int .u64 0, .int .u64 0] := hres'
      obtain ⟨e0, e1, e2, e3, e4, e5, e6, e7, e8, e9, e10, e11⟩ := hres.c12
      obtain ⟨f0, f1, f2, f3, f4, f5, f6, f7, f8, f9, f10, f11⟩ := hres.f12
      have hlr := hres.lt
      have HB6 := hide hB
      have Hd := hide hd
      clear bc bs hD1 hd ht6 hres' hV HV hB
      refine (wpIn_wide (n := 10)).2 ?_
      go_wp2
      have hcd : W.drew.cell? ⟨C, 0, none⟩ = some (.int .i64 2) := hc0
      have hltc : C < W.drew.heap.size := hltc0
      have hne : C ≠ H + 1 := by omega
      go_region_held3 (fun w' => w'.cell? ⟨C, 0, none⟩ = some (.int .i64 2)) (first | with_reducible assumption | with_reducible exact cell_set12 hne hltc0 hc0 | with_reducible exact cell_set12d hne hltc0 hc0) (fail)
      all_goals
        go_wp2
        rw [Exit.noGoto_ret]
        have hm12 := mod_set12 (Mod.refl (fun k => k = H + 1) W) (.inl rfl) (.int .i64 0) (.int .i64 0) (.int .i64 0) (.int .i64 0) (.int .i64 0) (.int .i64 0) (.int .i64 0) (.int .u64 0) (.int .u64 0) (.int .u64 0) (.int .u64 0) (.int .u64 0)
        have hb12 := (hres.set12 (.int .i64 0) (.int .i64 0) (.int .i64 0) (.int .i64 0) (.int .i64 0) (.int .i64 0) (.int .i64 0) (.int .u64 0) (.int .u64 0) (.int .u64 0) (.int .u64 0) (.int .u64 0)).drew
        have hdD := (hm12.drew.block D (Array.getElem?_eq_some_iff.1 Hd.out).1 (by show ¬ D = H + 1; omega)).trans Hd.out
        have sk := Skips.putObj (B := H + 1 + 1) hdD rfl (by omega) (.deferred none)
        refine marks_ret1 rfl hdD (results_cell_tmp rfl _ _ (H + 1) 29 _ (0, 0) _ rfl (sk.blk hb12) Try.underlying29 rfl (by kernel_rfl)) ⟨by rw [HVV.out]; rfl, ?_⟩
        rw [HH.out]
        exact below_skips (below_mod HB6.out hH' hm12.drew (fun k e => by have e' : k = H + 1 := e; omega)) sk (by omega) hH'
theorem decode_any (op : Int) (x : Nat → Int) (w : World) (hx : U64 x) : Calls Try.prog 7 #[.agg (callA op x)] w (DecPost (decV op x) w) := by
  cases hf : formL op with
  | none => exact decode_none op x w hf
  | some fs =>
    by_cases h : op = 1 ∧ objB (x 1) (x 2) = false
    · obtain ⟨rfl, h⟩ := h
      exact decode_obj x w hx h
    · exact decode_run op x w fs hx hf h
end Go.Proofs.Ytofmcaagnhdecaa
