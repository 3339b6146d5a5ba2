-- Written by this session's program fork.py: a Lean function for each Go function and its walk. Not trusted: Lean checks it.
import Derived.Test.YtpcephbhnbfcmaaR0
import Derived.Test.YtpcephbhnbfcmaaR1
import Derived.Test.YtpcephbhnbfcmaaR4
namespace Go.Proofs.Ytpcephbhnbfcmaa.R
open Go.RowKit Go.Proofs.YtpcephbhnbfcmaaW.PrintWords Go.Proofs.YtpcephbhnbfcmaaW.PrintLast Go.Proofs.YtpcephbhnbfcmaaW.PrintMore
attribute [local go_sem] max2_int min2_int max_two min_two max_three min_three max_four min_four   -- for this text's walks alone
set_option linter.unusedVariables false
set_option linter.unusedSimpArgs false

/-! ### ExtendX: function 46 (by hand) -/
def ExtendX.f (l0 : List Int) (a1 : Int) : Option (List Int) := some (ext l0 a1)
/-- Extend's result as a row to write into: its block may be longer than its capacity. -/
def Kx.R (_d : Kd Int) (_e : Nat) (w : World) (base : Nat) (_ok : Nat → Prop) (v : Value) (xs : List Int) : Prop := ExtRow w base v xs
section
variable {d : Kd Int} {e base base' g n cap m : Nat} {ok : Nat → Prop} {v : Value} {xs : List Int} {w w' : World}
theorem Kx.R_lower (h : Kx.R d e w base ok v xs) (hb : base' ≤ base) : Kx.R d e w base' ok v xs := by
  obtain ⟨g, cap, cur, h1, h2, h3⟩ := h; exact ⟨g, cap, cur, h1, Nat.le_trans hb h2, h3⟩
theorem Kx.R_drewN (h : Kx.R d e w base ok v xs) (m : Nat) : Kx.R d e (w.drewN m) base ok v xs := h
theorem Kx.R_drew (h : Kx.R d e w base ok v xs) : Kx.R d e w.drew base ok v xs := h
theorem Kx.R_alloc (h : Kx.R d e w base ok v xs) (o : Obj) : Kx.R d e (w.alloc o) base ok v xs := by
  obtain ⟨g, cap, cur, h1, h2, h3, h4⟩ := h; have hlt : g < w.heap.size := (Array.getElem?_eq_some_iff.1 h3).1; exact ⟨g, cap, cur, h1, h2, ((below_alloc (Below.refl w.heap.size w) o).block g hlt).trans h3, h4⟩
theorem Kx.R_at (hq : w.drewN m = w') (h : Kx.R d e w base ok v xs) : Kx.R d e w' base ok v xs := by subst hq; exact h
theorem Kx.R_form (h : Kx.R d e w base ok v xs) (_hp : 0 < xs.length) : ∃ g cap, v = .slice (some ⟨g, 0, none⟩) xs.length cap ∧ base ≤ g ∧ g < w.heap.size ∧ ∃ cells, w.heap[g]? = some (.cells cells 5 (0, 0)) := by
  obtain ⟨g, cap, cur, h1, h2, h3, h4⟩ := h; exact ⟨g, cap, h1, h2, (Array.getElem?_eq_some_iff.1 h3).1, cur, h3⟩
theorem Kx.R_ne (h : Kx.R d e w base ok v xs) {g t : Nat} {cells : Array Value} (hb : w.heap[g]? = some (.cells cells t (0, 0))) (ht : 5 ≠ t) : some g ≠ v.ownBlock := by
  obtain ⟨g2, cap, cur, rfl, h2, h3, h4⟩ := h; intro he; simp only [Value.ownBlock, Option.some.injEq] at he; subst he; rw [hb] at h3; injection h3 with h3; injection h3 with _ h3; exact ht h3.symm
theorem Kx.R_celln (_d0 : Int) (h : Kx.R d e w base ok (.slice (some ⟨g, 0, none⟩) n cap) xs) (i : Int) (h0 : 0 ≤ i) (hi : i < n) : w.cell? ⟨g, i.toNat, none⟩ = some (.int .u8 (rdOf 0 xs i)) ∧ w.frozen? ⟨g, i.toNat, none⟩ = false := by
  obtain ⟨g2, cap2, cur, he, h2, h3, h4, h5, h6, h7⟩ := h; injection he with e1 e2 e3; injection e1 with e1; injection e1 with e1; subst e1 e2; refine ⟨?_, by simp [World.frozen?, h3]⟩; have hlt : i.toNat < xs.length := by omega
  have hc := cell_of_row w g i.toNat cur 5 (0, 0) h3; rw [hc, ← Array.getElem?_toList]; have e : cur.toList[i.toNat]? = (nums .u8 xs)[i.toNat]? := by
    rw [← h7, List.getElem?_take, if_pos hlt]
  rw [e]; simp [nums, rdOf, List.getElem?_eq_getElem hlt, List.getD_eq_getElem?_getD]
theorem Kx.R_putg (h : Kx.R d e w base ok (.slice (some ⟨g, 0, none⟩) n cap) xs) (i : Int) (x : Int) : Kx.R d e (w.setCell ⟨g, i.toNat, none⟩ (.int .u8 x)) base ok (.slice (some ⟨g, 0, none⟩) n cap) (xs.set i.toNat x) ∧ w.grownBy (w.setCell ⟨g, i.toNat, none⟩ (.int .u8 x)) (some g) := by
  obtain ⟨g2, cap2, cur, he, h2, h3, h4, h5, h6, h7⟩ := h; injection he with e1 e2 e3; injection e1 with e1; injection e1 with e1; subst e1 e2 e3; refine ⟨⟨g, cap, cur.setIfInBounds i.toNat (.int .u8 x), by rw [List.length_set], h2, ?_, by rw [List.length_set]; exact h4, by simpa using h5, by rw [List.length_set]; exact h6, ?_⟩, ?_⟩
  · simp [World.setCell, Array.getElem?_modify, h3]
  · rw [List.length_set, Array.toList_setIfInBounds, List.take_set, h7]
    simp [nums, List.map_set]
  · exact ⟨rfl, rfl, rfl, by simp [World.setCell], fun k hk hne => Below.heap_setCell w _ _ k (fun he => hne (by rw [he]))⟩
end
theorem ExtendX.calls (A0 : Option Addr) (c0 : Nat) (l0 : List Int) (a1 : Int) (r : List Int) (w : World) (hr0 : Kd.C (Kd.int .u8) w A0 l0.length l0) (_hc0 : l0.length ≤ c0) (h : ExtendX.f l0 a1 = some r) :
    Calls Try.prog 46 #[.slice A0 l0.length c0, .int .i64 a1] w fun e w' => ∃ v0_ : Value, e = .returned (v0_) ∧ Kx.R (Kd.int .u8) 5 w' w.heap.size (fun _ => True) v0_ r ∧ Below w.heap.size w w' := by
  unfold ExtendX.f at h; obtain rfl := Option.some.inj h; exact ExtendS.calls A0 c0 l0 a1 w hr0

/-! ### product_Padding: function 62 (by hand) -/
mutual
def product_Padding.l0 : Nat → List Int → List Int → Int → Int → Int → Int → List Int → List Int → List (S101) → List (S79) → List Int → Bool → Option (List Int)
 | 0, _, _, _, _, _, _, _, _, _, _, _, _ => none
 | k + 1, x1, x5, x21, x22, x266000, x266001, x266002, x266003, x266004, x266005, x266006, x266007 => if x22 < x21 then (if 0 ≤ x22 then (if x22 < (x266003.length : Int) then (if x22 < (x1.length : Int) then (if (rd x266003 x22) < 0 then (product_Padding.j1 k x1 x5 (rd x266003 x22) (rd x1 x22) x21 x22 (decide ((rd x1 x22) > 0)) x266000 x266001 x266002 x266003 x266004 x266005 x266006 x266007) else (product_Padding.j1 k x1 x5 (rd x266003 x22) (rd x1 x22) x21 x22 false x266000 x266001 x266002 x266003 x266004 x266005 x266006 x266007)) else (none)) else (none)) else (none)) else (some x5)
def product_Padding.j1 : Nat → List Int → List Int → Int → Int → Int → Int → Bool → Int → Int → List Int → List Int → List (S101) → List (S79) → List Int → Bool → Option (List Int)
 | 0, _, _, _, _, _, _, _, _, _, _, _, _, _, _, _ => none
 | k + 1, x1, x5, x7, x8, x21, x22, x39, x266000, x266001, x266002, x266003, x266004, x266005, x266006, x266007 => if x39 = true then (product_Padding.j2 k x1 x5 0 (wrap64 (x8 + x7)) x21 x22 x266000 x266001 x266002 x266003 x266004 x266005 x266006 x266007) else (product_Padding.j2 k x1 x5 x7 x8 x21 x22 x266000 x266001 x266002 x266003 x266004 x266005 x266006 x266007)
def product_Padding.j2 : Nat → List Int → List Int → Int → Int → Int → Int → Int → Int → List Int → List Int → List (S101) → List (S79) → List Int → Bool → Option (List Int)
 | 0, _, _, _, _, _, _, _, _, _, _, _, _, _, _ => none
 | k + 1, x1, x5, x7, x8, x21, x22, x266000, x266001, x266002, x266003, x266004, x266005, x266006, x266007 => product_Padding.l1 k x1 x5 x8 x7 x21 x22 x266000 x266001 x266002 x266003 x266004 x266005 x266006 x266007
def product_Padding.l1 : Nat → List Int → List Int → Int → Int → Int → Int → Int → Int → List Int → List Int → List (S101) → List (S79) → List Int → Bool → Option (List Int)
 | 0, _, _, _, _, _, _, _, _, _, _, _, _, _, _ => none
 | k + 1, x1, x5, x8, x9, x21, x22, x266000, x266001, x266002, x266003, x266004, x266005, x266006, x266007 => if x9 ≥ 0 then (if x9 < x266000 then (if x8 > 0 then (if 0 ≤ x9 then (if x9 < (x5.length : Int) then (product_Padding.l1 k x1 (x5.set (x9 : Int).toNat 0) (wrap64 (x8 - 1)) (wrap64 (x9 + 1)) x21 x22 x266000 x266001 x266002 x266003 x266004 x266005 x266006 x266007) else (none)) else (none)) else (product_Padding.l0 k x1 x5 x21 (wrap64 (x22 + 1)) x266000 x266001 x266002 x266003 x266004 x266005 x266006 x266007)) else (product_Padding.l0 k x1 x5 x21 (wrap64 (x22 + 1)) x266000 x266001 x266002 x266003 x266004 x266005 x266006 x266007)) else (product_Padding.l0 k x1 x5 x21 (wrap64 (x22 + 1)) x266000 x266001 x266002 x266003 x266004 x266005 x266006 x266007)
end
def product_Padding.f (k : Nat) (a0_0 : Int) (a0_1 : Int) (l0_2 : List Int) (l0_3 : List Int) (l0_4 : List (S101)) (l0_5 : List (S79)) (l0_6 : List Int) (a0_7 : Bool) (l1 : List Int) : Option (List Int) := (mask_Valid.f a0_0 a0_1 l0_2 l0_3 l0_4 l0_5 l0_6 a0_7).bind fun t266 => (if t266 = true then ((ExtendX.f ([] : List Int) a0_0).bind fun t267 => (product_Padding.l0 k l1 t267 (mn (l0_3.length : Int) (l1.length : Int)) 0 a0_0 a0_1 l0_2 l0_3 l0_4 l0_5 l0_6 a0_7)) else (some ([] : List Int)))
theorem product_Padding.mono_l : ∀ k, (∀ y0 y1 y2 y3 y4 y5 y6 y7 y8 y9 y10 y11, LeO (product_Padding.l0 k y0 y1 y2 y3 y4 y5 y6 y7 y8 y9 y10 y11) (product_Padding.l0 (k + 1) y0 y1 y2 y3 y4 y5 y6 y7 y8 y9 y10 y11)) ∧ (∀ y0 y1 y2 y3 y4 y5 y6 y7 y8 y9 y10 y11 y12 y13 y14, LeO (product_Padding.j1 k y0 y1 y2 y3 y4 y5 y6 y7 y8 y9 y10 y11 y12 y13 y14) (product_Padding.j1 (k + 1) y0 y1 y2 y3 y4 y5 y6 y7 y8 y9 y10 y11 y12 y13 y14)) ∧ (∀ y0 y1 y2 y3 y4 y5 y6 y7 y8 y9 y10 y11 y12 y13, LeO (product_Padding.j2 k y0 y1 y2 y3 y4 y5 y6 y7 y8 y9 y10 y11 y12 y13) (product_Padding.j2 (k + 1) y0 y1 y2 y3 y4 y5 y6 y7 y8 y9 y10 y11 y12 y13)) ∧ (∀ y0 y1 y2 y3 y4 y5 y6 y7 y8 y9 y10 y11 y12 y13, LeO (product_Padding.l1 k y0 y1 y2 y3 y4 y5 y6 y7 y8 y9 y10 y11 y12 y13) (product_Padding.l1 (k + 1) y0 y1 y2 y3 y4 y5 y6 y7 y8 y9 y10 y11 y12 y13))
 | 0 => ⟨fun _ _ _ _ _ _ _ _ _ _ _ _ r h => by simp [product_Padding.l0] at h, fun _ _ _ _ _ _ _ _ _ _ _ _ _ _ _ r h => by simp [product_Padding.j1] at h, fun _ _ _ _ _ _ _ _ _ _ _ _ _ _ r h => by simp [product_Padding.j2] at h, fun _ _ _ _ _ _ _ _ _ _ _ _ _ _ r h => by simp [product_Padding.l1] at h⟩
 | k + 1 => by
  obtain ⟨ih0, ih1, ih2, ih3⟩ := product_Padding.mono_l k; refine ⟨?_, ?_, ?_, ?_⟩
  ·
   intro y0 y1 y2 y3 y4 y5 y6 y7 y8 y9 y10 y11; unfold product_Padding.l0
   repeat' first
   | (with_reducible exact ih0 _ _ _ _ _ _ _ _ _ _ _ _)
   | (with_reducible exact ih1 _ _ _ _ _ _ _ _ _ _ _ _ _ _ _)
   | (with_reducible exact ih2 _ _ _ _ _ _ _ _ _ _ _ _ _ _)
   | (with_reducible exact ih3 _ _ _ _ _ _ _ _ _ _ _ _ _ _)
   | (with_reducible exact LeO.refl _)
   | (with_reducible exact LeO.none _)
   | (with_reducible refine LeO.ite ?_ ?_)
   | (with_reducible refine LeO.bind ?_ (fun _ => ?_))
   | exact ih0 _ _ _ _ _ _ _ _ _ _ _ _
   | exact ih1 _ _ _ _ _ _ _ _ _ _ _ _ _ _ _
   | exact ih2 _ _ _ _ _ _ _ _ _ _ _ _ _ _
   | exact ih3 _ _ _ _ _ _ _ _ _ _ _ _ _ _
   | exact LeO.none _
   | refine LeO.ite ?_ ?_
   | refine LeO.bind ?_ (fun _ => ?_)
  ·
   intro y0 y1 y2 y3 y4 y5 y6 y7 y8 y9 y10 y11 y12 y13 y14; unfold product_Padding.j1
   repeat' first
   | (with_reducible exact ih0 _ _ _ _ _ _ _ _ _ _ _ _)
   | (with_reducible exact ih1 _ _ _ _ _ _ _ _ _ _ _ _ _ _ _)
   | (with_reducible exact ih2 _ _ _ _ _ _ _ _ _ _ _ _ _ _)
   | (with_reducible exact ih3 _ _ _ _ _ _ _ _ _ _ _ _ _ _)
   | (with_reducible exact LeO.refl _)
   | (with_reducible exact LeO.none _)
   | (with_reducible refine LeO.ite ?_ ?_)
   | (with_reducible refine LeO.bind ?_ (fun _ => ?_))
   | exact ih0 _ _ _ _ _ _ _ _ _ _ _ _
   | exact ih1 _ _ _ _ _ _ _ _ _ _ _ _ _ _ _
   | exact ih2 _ _ _ _ _ _ _ _ _ _ _ _ _ _
   | exact ih3 _ _ _ _ _ _ _ _ _ _ _ _ _ _
   | exact LeO.none _
   | refine LeO.ite ?_ ?_
   | refine LeO.bind ?_ (fun _ => ?_)
  ·
   intro y0 y1 y2 y3 y4 y5 y6 y7 y8 y9 y10 y11 y12 y13; unfold product_Padding.j2
   repeat' first
   | (with_reducible exact ih0 _ _ _ _ _ _ _ _ _ _ _ _)
   | (with_reducible exact ih1 _ _ _ _ _ _ _ _ _ _ _ _ _ _ _)
   | (with_reducible exact ih2 _ _ _ _ _ _ _ _ _ _ _ _ _ _)
   | (with_reducible exact ih3 _ _ _ _ _ _ _ _ _ _ _ _ _ _)
   | (with_reducible exact LeO.refl _)
   | (with_reducible exact LeO.none _)
   | (with_reducible refine LeO.ite ?_ ?_)
   | (with_reducible refine LeO.bind ?_ (fun _ => ?_))
   | exact ih0 _ _ _ _ _ _ _ _ _ _ _ _
   | exact ih1 _ _ _ _ _ _ _ _ _ _ _ _ _ _ _
   | exact ih2 _ _ _ _ _ _ _ _ _ _ _ _ _ _
   | exact ih3 _ _ _ _ _ _ _ _ _ _ _ _ _ _
   | exact LeO.none _
   | refine LeO.ite ?_ ?_
   | refine LeO.bind ?_ (fun _ => ?_)
  ·
   intro y0 y1 y2 y3 y4 y5 y6 y7 y8 y9 y10 y11 y12 y13; unfold product_Padding.l1
   repeat' first
   | (with_reducible exact ih0 _ _ _ _ _ _ _ _ _ _ _ _)
   | (with_reducible exact ih1 _ _ _ _ _ _ _ _ _ _ _ _ _ _ _)
   | (with_reducible exact ih2 _ _ _ _ _ _ _ _ _ _ _ _ _ _)
   | (with_reducible exact ih3 _ _ _ _ _ _ _ _ _ _ _ _ _ _)
   | (with_reducible exact LeO.refl _)
   | (with_reducible exact LeO.none _)
   | (with_reducible refine LeO.ite ?_ ?_)
   | (with_reducible refine LeO.bind ?_ (fun _ => ?_))
   | exact ih0 _ _ _ _ _ _ _ _ _ _ _ _
   | exact ih1 _ _ _ _ _ _ _ _ _ _ _ _ _ _ _
   | exact ih2 _ _ _ _ _ _ _ _ _ _ _ _ _ _
   | exact ih3 _ _ _ _ _ _ _ _ _ _ _ _ _ _
   | exact LeO.none _
   | refine LeO.ite ?_ ?_
   | refine LeO.bind ?_ (fun _ => ?_)
theorem product_Padding.mono : ∀ a0 a1 a2 a3 a4 a5 a6 a7 a8 k, LeO (product_Padding.f k a0 a1 a2 a3 a4 a5 a6 a7 a8) (product_Padding.f (k + 1) a0 a1 a2 a3 a4 a5 a6 a7 a8) := by
 intro a0 a1 a2 a3 a4 a5 a6 a7 a8 k; obtain ⟨ih0, ih1, ih2, ih3⟩ := product_Padding.mono_l k; unfold product_Padding.f
 repeat' first
   | (with_reducible exact ih0 _ _ _ _ _ _ _ _ _ _ _ _)
   | (with_reducible exact ih1 _ _ _ _ _ _ _ _ _ _ _ _ _ _ _)
   | (with_reducible exact ih2 _ _ _ _ _ _ _ _ _ _ _ _ _ _)
   | (with_reducible exact ih3 _ _ _ _ _ _ _ _ _ _ _ _ _ _)
   | (with_reducible exact LeO.refl _)
   | (with_reducible exact LeO.none _)
   | (with_reducible refine LeO.ite ?_ ?_)
   | (with_reducible refine LeO.bind ?_ (fun _ => ?_))
   | exact ih0 _ _ _ _ _ _ _ _ _ _ _ _
   | exact ih1 _ _ _ _ _ _ _ _ _ _ _ _ _ _ _
   | exact ih2 _ _ _ _ _ _ _ _ _ _ _ _ _ _
   | exact ih3 _ _ _ _ _ _ _ _ _ _ _ _ _ _
   | exact LeO.none _
   | refine LeO.ite ?_ ?_
   | refine LeO.bind ?_ (fun _ => ?_)
set_option maxHeartbeats 8000000 in
set_option maxRecDepth 100000 in
theorem product_Padding.calls (k : Nat) (a0_0 : Int) (a0_1 : Int) (A0_2 : Option Addr) (c0_2 : Nat) (l0_2 : List Int) (A0_3 : Option Addr) (c0_3 : Nat) (l0_3 : List Int) (A0_4 : Option Addr) (c0_4 : Nat) (l0_4 : List (S101)) (A0_5 : Option Addr) (c0_5 : Nat) (l0_5 : List (S79)) (A0_6 : Option Addr) (c0_6 : Nat) (l0_6 : List Int) (a0_7 : Bool) (A1 : Option Addr) (c1 : Nat) (l1 : List Int) (r : List Int) (w : World) (hr0_2 : Kd.C (Kd.int .u8) w A0_2 l0_2.length l0_2) (hc0_2 : l0_2.length ≤ c0_2) (hr0_3 : Kd.C (Kd.int .i64) w A0_3 l0_3.length l0_3) (hc0_3 : l0_3.length ≤ c0_3) (hr0_4 : Kd.C k101 w A0_4 l0_4.length l0_4) (hc0_4 : l0_4.length ≤ c0_4) (hr0_5 : Kd.C k79 w A0_5 l0_5.length l0_5) (hc0_5 : l0_5.length ≤ c0_5) (hr0_6 : Kd.C (Kd.int .i64) w A0_6 l0_6.length l0_6) (hc0_6 : l0_6.length ≤ c0_6) (hr1 : Kd.C (Kd.int .i64) w A1 l1.length l1) (hc1 : l1.length ≤ c1) (h : product_Padding.f k a0_0 a0_1 l0_2 l0_3 l0_4 l0_5 l0_6 a0_7 l1 = some r) :
  Calls Try.prog 62 #[.agg #[.int .i64 a0_0, .int .i64 a0_1, .slice A0_2 l0_2.length c0_2, .slice A0_3 l0_3.length c0_3, .slice A0_4 l0_4.length c0_4, .slice A0_5 l0_5.length c0_5, .slice A0_6 l0_6.length c0_6, .bool a0_7], .slice A1 l1.length c1] w fun e w' => ∃ v0_ : Value, e = .returned (v0_) ∧ Kd.V (Kd.int .u8) 5 w' w.heap.size (fun k_ => (w.heap.size ≤ k_)) v0_ r ∧ Below w.heap.size w w' := by
 have hu31 := Try.underlying31; have HR0_2 := Aside0.mk hr0_2; have HC0_2 := Aside0.mk hc0_2; clear hr0_2 hc0_2; have HR0_3 := Aside0.mk hr0_3; have HC0_3 := Aside0.mk hc0_3; clear hr0_3 hc0_3; have HR0_4 := Aside0.mk hr0_4; have HC0_4 := Aside0.mk hc0_4; clear hr0_4 hc0_4; have HR0_5 := Aside0.mk hr0_5; have HC0_5 := Aside0.mk hc0_5; clear hr0_5 hc0_5; have HR0_6 := Aside0.mk hr0_6; have HC0_6 := Aside0.mk hc0_6; clear hr0_6 hc0_6; have HR1 := Aside0.mk hr1; have HC1 := Aside0.mk hc1; clear hr1 hc1; have HB := Aside0.mk (Below.refl w.heap.size w); have H : ((mask_Valid.f a0_0 a0_1 l0_2 l0_3 l0_4 l0_5 l0_6 a0_7).bind fun t266 => (if t266 = true then ((ExtendX.f ([] : List Int) a0_0).bind fun t267 => (product_Padding.l0 k l1 t267 (mn (l0_3.length : Int) (l1.length : Int)) 0 a0_0 a0_1 l0_2 l0_3 l0_4 l0_5 l0_6 a0_7)) else (some ([] : List Int)))) = some r := h; clear h; replace H := Option.bind_eq_some_iff.mp H; obtain ⟨t266, A30, H⟩ := H; (try dsimp only at H); have A3 := Aside0.mk A30; clear A30; by_cases c4 : t266 = true
 ·
  subst c4; have H1 : ((ExtendX.f ([] : List Int) a0_0).bind fun t267 => (product_Padding.l0 k l1 t267 (mn (l0_3.length : Int) (l1.length : Int)) 0 a0_0 a0_1 l0_2 l0_3 l0_4 l0_5 l0_6 a0_7)) = some r := by rw [if_pos rfl] at H; exact H
  clear H; have H := H1; clear H1; replace H := Option.bind_eq_some_iff.mp H; obtain ⟨t267, A50, H⟩ := H; (try dsimp only at H); have A5 := Aside0.mk A50; clear A50; obtain ⟨ji6, hji6⟩ : ∃ j_ : Int, (mn (l0_3.length : Int) (l1.length : Int)) = j_ := ⟨_, rfl⟩; replace H : (product_Padding.l0 k l1 t267 ji6 0 a0_0 a0_1 l0_2 l0_3 l0_4 l0_5 l0_6 a0_7) = some r := by first | (rw [hji6] at H; exact H) | (simp only [hji6] at H ⊢; exact H)
  (try rw [hji6] at A3)
  (try rw [hji6] at A5)
  (try (have hji6l : 0 ≤ ji6 := by (rw [← hji6]; unfold mn; (repeat' split) <;> omega)))
  (try (have hji6m : 0 ≤ ji6 := by omega))
  have hji6_ : (if (l1.length : Int) < (l0_3.length : Int) then (l1.length : Int) else (l0_3.length : Int)) = ji6 := hji6; have hji6N : (if l1.length < l0_3.length then (l1.length : Int) else (l0_3.length : Int)) = ji6 := by simpa only [Int.ofNat_lt] using hji6_
  have H' := Aside0.mk H; clear H; go_enter Try.func62, Try.ntmps62; go_wp2_with (first | ((with_reducible refine gate_dst (N := 2) rfl ?_); refine box_event ?hg (N := 2) ?hd (cs := #[.int .i64 a0_0, .int .i64 a0_1, .slice A0_2 l0_2.length c0_2, .slice A0_3 l0_3.length c0_3, .slice A0_4 l0_4.length c0_4, .slice A0_5 l0_5.length c0_5, .slice A0_6 l0_6.length c0_6, .bool a0_7]) (t := 31) ?hr ?_; (case hd => rfl); (case hg => rfl); (case hr => first | (go_simp; done) | (go_simp; rfl)); intro gb265 hg w7 hbox hb; have n0_ := Aside0.mk (below_step (hb0_ HB.out) hb); have n1_ := Aside0.mk (hbox); have n2_ := Aside0.mk ((by rw [hg]; exact (below_size (hb0_ HB.out)) : w.heap.size ≤ gb265)); have n3_ := Aside0.mk ((by rw [hg]; exact (below_size (hb0_ HB.out)) : w.heap.size ≤ gb265)); clear HB; revert n0_ n1_ n2_ n3_; intro HB BK265 GW265 GE265; clear hb hbox hg; obtain ⟨hcz8_0, hcz8_1, hcz8_2, hcz8_3, hcz8_4, hcz8_5, hcz8_6, hcz8_7, hfz8_0, hfz8_1, hfz8_2, hfz8_3, hfz8_4, hfz8_5, hfz8_6, hfz8_7⟩ := bx8_ BK265.out) | (go_at_call 56; (with_reducible refine (mask_Valid.calls a0_0 a0_1 _ _ l0_2 _ _ l0_3 _ _ l0_4 _ _ l0_5 _ _ l0_6 a0_7 true _ ?side1 ?side2 ?side3 ?side4 ?side5 ?side6 ?side7 ?side8 ?side9 ?side10 A3.out).mono ?_); (case side1 => exact kD_ (Kd.C_below HR0_2.out HB.out)); (case side2 => exact HC0_2.out); (case side3 => exact kD_ (Kd.C_below HR0_3.out HB.out)); (case side4 => exact HC0_3.out); (case side5 => exact kD_ (Kd.C_below HR0_4.out HB.out)); (case side6 => exact HC0_4.out); (case side7 => exact kD_ (Kd.C_below HR0_5.out HB.out)); (case side8 => exact HC0_5.out); (case side9 => exact kD_ (Kd.C_below HR0_6.out HB.out)); (case side10 => exact HC0_6.out); rintro e w9 ⟨rfl, hb⟩; have n0_ := Aside0.mk (bb_ BK265.out hb); have n1_ := Aside0.mk (below_step (hb1_ HB.out GE265.out) hb); clear BK265 HB; revert n0_ n1_; intro BK265 HB; (try clear hb); (try clear hb2); (try clear hk); (try clear hi); obtain ⟨hcz10_0, hcz10_1, hcz10_2, hcz10_3, hcz10_4, hcz10_5, hcz10_6, hcz10_7, hfz10_0, hfz10_1, hfz10_2, hfz10_3, hfz10_4, hfz10_5, hfz10_6, hfz10_7⟩ := bx8_ BK265.out) | (go_at_call 46; (refine (ExtendX.calls _ _ ([] : List Int) a0_0 t267 _ ?side1 ?side2 A5.out).mono ?_); (case side1 => exact Kd.C_nil _ _); (case side2 => exact Nat.le_refl _); rintro e w11 ⟨v268, rfl, ho0, hb⟩; have n0_ := Aside0.mk (Kx.R_lower ho0 (below_size (hb1_ HB.out GE265.out))); have n1_ := Aside0.mk (bb_ BK265.out hb); have n2_ := Aside0.mk (below_step (hb1_ HB.out GE265.out) hb); clear BK265 HB; revert n0_ n1_ n2_; intro HO269 BK265 HB; (try clear hb); (try clear hb2); (try clear hk); (try clear hi); (try clear ho0); obtain ⟨hcz12_0, hcz12_1, hcz12_2, hcz12_3, hcz12_4, hcz12_5, hcz12_6, hcz12_7, hfz12_0, hfz12_1, hfz12_2, hfz12_3, hfz12_4, hfz12_5, hfz12_6, hfz12_7⟩ := bx8_ BK265.out))
  go_loopg [22] k (fun kq v22 w' => ∃ (x5_1 : List Int) (x22_1 : Int), v22 = .int .i64 x22_1 ∧ Aside0 (product_Padding.l0 kq l1 x5_1 ji6 x22_1 a0_0 a0_1 l0_2 l0_3 l0_4 l0_5 l0_6 a0_7 = some r) ∧ Aside0 (kq ≤ k) ∧ Aside0 (Kx.R (Kd.int .u8) 5 w' w.heap.size (fun _ => True) v268 x5_1) ∧ Aside0 (w'.heap[gb265]? = some (.cells #[.int .i64 a0_0, .int .i64 a0_1, (.slice A0_2 l0_2.length c0_2), (.slice A0_3 l0_3.length c0_3), (.slice A0_4 l0_4.length c0_4), (.slice A0_5 l0_5.length c0_5), (.slice A0_6 l0_6.length c0_6), .bool a0_7] 31 (0, 0))) ∧ Aside0 (Below w.heap.size w w'))
  case atStart => exact ⟨(t267), (0), rf_, H', ⟨Nat.le_refl _⟩, ⟨by (with_reducible repeat (first | apply Kx.R_alloc | apply Kx.R_drewN | apply Kx.R_drew)); exact HO269.out⟩, ⟨(bk_ BK265.out)⟩, ⟨(hb1_ HB.out GE265.out)⟩⟩
  case round =>
   clear H'; try clear c1; try clear p2
   try clear c4
   try clear c6
   try clear hcz10_0 hcz10_1 hcz10_2 hcz10_3 hcz10_4 hcz10_5 hcz10_6 hcz10_7
   try clear hcz12_0 hcz12_1 hcz12_2 hcz12_3 hcz12_4 hcz12_5 hcz12_6 hcz12_7
   try clear hcz8_0 hcz8_1 hcz8_2 hcz8_3 hcz8_4 hcz8_5 hcz8_6 hcz8_7
   try clear hfz10_0 hfz10_1 hfz10_2 hfz10_3 hfz10_4 hfz10_5 hfz10_6 hfz10_7
   try clear hfz12_0 hfz12_1 hfz12_2 hfz12_3 hfz12_4 hfz12_5 hfz12_6 hfz12_7
   try clear hfz8_0 hfz8_1 hfz8_2 hfz8_3 hfz8_4 hfz8_5 hfz8_6 hfz8_7
   obtain ⟨x5_1, x22_1, rfl, HA, HK1, HO_5, BK265, HB⟩ := hrel; cases gk with
   | zero => exact absurd HA.out (by simp [product_Padding.l0])
   | succ k1 =>
    have H := HA.out; clear HA; simp only [product_Padding.l0] at H; by_cases c13 : x22_1 < ji6
    ·
     rw [if_pos c13] at H; have c13b0 : decide (x22_1 < ji6) = true := decide_eq_true c13; clear c13; by_cases c14 : 0 ≤ x22_1; rotate_left
     ·
      rw [if_neg c14] at H; exact absurd H (by simp)
     rw [if_pos c14] at H; have c14b0 : decide (0 ≤ x22_1) = true := decide_eq_true c14; clear c14; by_cases c15 : x22_1 < (l0_3.length : Int); rotate_left
     ·
      rw [if_neg c15] at H; exact absurd H (by simp)
     rw [if_pos c15] at H; have c15b0 : decide (x22_1 < (l0_3.length : Int)) = true := decide_eq_true c15; clear c15; by_cases c16 : x22_1 < (l1.length : Int); rotate_left
     ·
      rw [if_neg c16] at H; exact absurd H (by simp)
     rw [if_pos c16] at H; have c16b0 : decide (x22_1 < (l1.length : Int)) = true := decide_eq_true c16; clear c16; have HC17 := Aside0.mk H; clear H; obtain ⟨hcz18_0, hcz18_1, hcz18_2, hcz18_3, hcz18_4, hcz18_5, hcz18_6, hcz18_7, hfz18_0, hfz18_1, hfz18_2, hfz18_3, hfz18_4, hfz18_5, hfz18_6, hfz18_7⟩ := bx8_ BK265.out; have p270 : 0 ≤ (x22_1 : Int) := od_; have q270 : x22_1 < (l0_3.length : Int) := od_; obtain ⟨ad270, e270, hx270_0⟩ := Kd.at_int HR0_3.out x22_1 p270 q270; cases e270; replace hx270_0 := (HB.out.cell (World.block_lt_of_cell? w _ hx270_0)).trans hx270_0; replace p270 := eq_true p270; replace q270 := eq_true q270; have p271 : 0 ≤ (x22_1 : Int) := od_; have q271 : x22_1 < (l1.length : Int) := od_; obtain ⟨ad271, e271, hx271_0⟩ := Kd.at_int HR1.out x22_1 p271 q271; cases e271; replace hx271_0 := (HB.out.cell (World.block_lt_of_cell? w _ hx271_0)).trans hx271_0; replace p271 := eq_true p271; replace q271 := eq_true q271; go_wp2
     have n0_ := Aside0.mk (blk_drew BK265.out); have n1_ := Aside0.mk (below_drew1 HB.out); have n2_ := Aside0.mk (Kx.R_drew HO_5.out); clear BK265 HB HO_5; revert n0_ n1_ n2_; intro BK265 HB HO_5; replace hcz18_3 : wr.drew.cell? ⟨gb265, 3, none⟩ = some (.slice (some ad270) l0_3.length c0_3) := hcz18_3; replace hx270_0 : wr.drew.cell? (ad270.add x22_1.toNat) = some (.int .i64 (rd l0_3 x22_1)) := hx270_0; replace hx271_0 : wr.drew.cell? (ad271.add x22_1.toNat) = some (.int .i64 (rd l1 x22_1)) := hx271_0; try clear hcz18_0 hcz18_1 hcz18_2 hcz18_4 hcz18_5 hcz18_6 hcz18_7 hfz18_0 hfz18_1 hfz18_2 hfz18_3 hfz18_4 hfz18_5 hfz18_6 hfz18_7
     refine start_ (n := 11) (S := fun w' => w'.cell? ⟨gb265, 3, none⟩ = some (.slice (some ad270) l0_3.length c0_3) ∧ w'.cell? (ad270.add x22_1.toNat) = some (.int .i64 (rd l0_3 x22_1)) ∧ w'.cell? (ad271.add x22_1.toNat) = some (.int .i64 (rd l1 x22_1))) (ds := []) (mk_ 0 11) (by kernel_rfl) rfl rfl ⟨hcz18_3, hx270_0, hx271_0⟩ (fun hHeld => ?_); generalize wr.drew = w14 at BK265 HB HO_5 hcz18_3 hx270_0 hx271_0 hHeld ⊢; refine pure_ (i := 0) (N := some 25) (v := ?_) (a' := ?_) (mk_ 1 11) rfl rfl (by kernel_rfl) (fun _ _ _ h => h) (Or.inl ⟨by rfl, ?_⟩) ?_ ?_; rotate_left
     ·
      intro w'; go_simp; with_reducible rfl
     rotate_left
     ·
      simp only [Act.put, List.setIfInBounds_toArray, List.set_cons_zero, List.set_cons_succ, i64_w, i32_w]; rfl
     refine take_ (i := 1) (N := some 26) (v := ?_) (a' := ?_) (mk_ 2 11) rfl rfl (by kernel_rfl) (fun _ _ _ h => h) (Or.inl ⟨by rfl, ?_⟩) hHeld ?_ ?_; rotate_left
     ·
      rintro w' ⟨s0, s1, s2⟩; go_simp; with_reducible rfl
     rotate_left
     ·
      simp only [Act.put, List.setIfInBounds_toArray, List.set_cons_zero, List.set_cons_succ, i64_w, i32_w]; rfl
     refine pure_ (i := 2) (N := some 27) (v := ?_) (a' := ?_) (mk_ 3 11) rfl rfl (by kernel_rfl) (fun _ _ _ h => h) (Or.inl ⟨by rfl, ?_⟩) ?_ ?_; rotate_left
     ·
      intro w'; go_simp; with_reducible rfl
     rotate_left
     ·
      simp only [Act.put, List.setIfInBounds_toArray, List.set_cons_zero, List.set_cons_succ, i64_w, i32_w]; rfl
     refine pure_ (i := 3) (N := some 28) (v := ?_) (a' := ?_) (mk_ 4 11) rfl rfl (by kernel_rfl) (fun _ _ _ h => h) (Or.inl ⟨by rfl, ?_⟩) ?_ ?_; rotate_left
     ·
      intro w'; go_simp; with_reducible rfl
     rotate_left
     ·
      simp only [Act.put, List.setIfInBounds_toArray, List.set_cons_zero, List.set_cons_succ, i64_w, i32_w]; rfl
     refine take_ (i := 4) (N := some 29) (v := ?_) (a' := ?_) (mk_ 5 11) rfl rfl (by kernel_rfl) (fun _ _ _ h => h) (Or.inl ⟨by rfl, ?_⟩) hHeld ?_ ?_; rotate_left
     ·
      rintro w' ⟨s0, s1, s2⟩; go_simp; with_reducible rfl
     rotate_left
     ·
      simp only [Act.put, List.setIfInBounds_toArray, List.set_cons_zero, List.set_cons_succ, i64_w, i32_w]; rfl
     refine pure_ (i := 5) (N := some 30) (v := ?_) (a' := ?_) (mk_ 6 11) rfl rfl (by kernel_rfl) (fun _ _ _ h => h) (Or.inl ⟨by rfl, ?_⟩) ?_ ?_; rotate_left
     ·
      intro w'; go_simp; with_reducible rfl
     rotate_left
     ·
      simp only [Act.put, List.setIfInBounds_toArray, List.set_cons_zero, List.set_cons_succ, i64_w, i32_w]; rfl
     refine pure_ (i := 6) (N := some 31) (v := ?_) (a' := ?_) (mk_ 7 11) rfl rfl (by kernel_rfl) (fun _ _ _ h => h) (Or.inl ⟨by rfl, ?_⟩) ?_ ?_; rotate_left
     ·
      intro w'; go_simp; with_reducible rfl
     rotate_left
     ·
      simp only [Act.put, List.setIfInBounds_toArray, List.set_cons_zero, List.set_cons_succ, i64_w, i32_w]; rfl
     refine pure_ (i := 7) (N := some 32) (v := ?_) (a' := ?_) (mk_ 8 11) rfl rfl (by kernel_rfl) (fun _ _ _ h => h) (Or.inl ⟨by rfl, ?_⟩) ?_ ?_; rotate_left
     ·
      intro w'; go_simp; with_reducible rfl
     rotate_left
     ·
      simp only [Act.put, List.setIfInBounds_toArray, List.set_cons_zero, List.set_cons_succ, i64_w, i32_w]; rfl
     refine take_ (i := 8) (N := some 33) (v := ?_) (a' := ?_) (mk_ 9 11) rfl rfl (by kernel_rfl) (fun _ _ _ h => h) (Or.inl ⟨by rfl, ?_⟩) hHeld ?_ ?_; rotate_left
     ·
      rintro w' ⟨s0, s1, s2⟩; go_simp; with_reducible rfl
     rotate_left
     ·
      simp only [Act.put, List.setIfInBounds_toArray, List.set_cons_zero, List.set_cons_succ, i64_w, i32_w]; rfl
     refine pure_ (i := 9) (N := some 7) (v := ?_) (a' := ?_) (mk_ 10 11) rfl rfl (by kernel_rfl) (fun _ _ _ h => h) (Or.inl ⟨by rfl, ?_⟩) ?_ ?_; rotate_left
     ·
      intro w'; go_simp; with_reducible rfl
     rotate_left
     ·
      simp only [Act.put, List.setIfInBounds_toArray, List.set_cons_zero, List.set_cons_succ, i64_w, i32_w]; rfl
     refine pure_ (i := 10) (N := some 8) (v := ?_) (a' := ?_) (mk_ 11 11) rfl rfl (by kernel_rfl) (fun _ _ _ h => h) (Or.inl ⟨by rfl, ?_⟩) ?_ ?_; rotate_left
     ·
      intro w'; go_simp; with_reducible rfl
     rotate_left
     ·
      simp only [Act.put, List.setIfInBounds_toArray, List.set_cons_zero, List.set_cons_succ, i64_w, i32_w]; rfl
     refine done_ (by kernel_rfl) ?_; go_upto_region 8 with (fail)
     go_cut [39] (fun v39 wc => ∃ (kq : Nat) (x39_16 : Bool), v39 = .bool x39_16 ∧ Aside0 (product_Padding.j1 kq l1 x5_1 (rd l0_3 x22_1) (rd l1 x22_1) ji6 x22_1 x39_16 a0_0 a0_1 l0_2 l0_3 l0_4 l0_5 l0_6 a0_7 = some r) ∧ Aside0 (kq ≤ k1) ∧ Aside0 (Kx.R (Kd.int .u8) 5 wc w.heap.size (fun _ => True) v268 x5_1) ∧ Aside0 (wc.heap[gb265]? = some (.cells #[.int .i64 a0_0, .int .i64 a0_1, (.slice A0_2 l0_2.length c0_2), (.slice (some ad270) l0_3.length c0_3), (.slice A0_4 l0_4.length c0_4), (.slice A0_5 l0_5.length c0_5), (.slice A0_6 l0_6.length c0_6), .bool a0_7] 31 (0, 0))) ∧ Aside0 (Below w.heap.size w wc))
     case first =>
      have H := HC17.out; clear HC17; by_cases c19 : (rd l0_3 x22_1) < 0
      ·
       rw [if_pos c19] at H; have c19b0 : decide ((rd l0_3 x22_1) < 0) = true := decide_eq_true c19; clear c19; (first | rw [c19b0] | (simp only [i64_w, i32_w]; rw [c19b0]) | skip); have H' := Aside0.mk H; clear H; go_wp2; go_meet
       case rel => exact ⟨_, (decide ((rd l1 x22_1) > 0)), rf_, H', ⟨by have := HK1.out; first | omega | exact Nat.le_refl _⟩, ⟨by (with_reducible repeat (first | apply Kx.R_alloc | apply Kx.R_drewN | apply Kx.R_drew)); exact HO_5.out⟩, ⟨(bk_ BK265.out)⟩, ⟨(hb1_ HB.out GE265.out)⟩⟩
      ·
       rw [if_neg c19] at H; have c19b0 : decide ((rd l0_3 x22_1) < 0) = false := decide_eq_false c19; clear c19; (first | rw [c19b0] | (simp only [i64_w, i32_w]; rw [c19b0]) | skip); have H' := Aside0.mk H; clear H; go_wp2; go_meet
       case rel => exact ⟨_, (false), rf_, H', ⟨by have := HK1.out; first | omega | exact Nat.le_refl _⟩, ⟨by (with_reducible repeat (first | apply Kx.R_alloc | apply Kx.R_drewN | apply Kx.R_drew)); exact HO_5.out⟩, ⟨(bk_ BK265.out)⟩, ⟨(hb1_ HB.out GE265.out)⟩⟩
     case rest =>
      clear HC17; try clear c1; try clear p2
      try clear q2
      try clear hx2
      try clear c4
      try clear c6
      try clear c13
      try clear c13b0
      try clear c14
      try clear c14b0
      try clear c15
      try clear c15b0
      try clear c16
      try clear c16b0
      try clear c19
      try clear c19b0
      try clear hcz10_0 hcz10_1 hcz10_2 hcz10_3 hcz10_4 hcz10_5 hcz10_6 hcz10_7
      try clear hcz12_0 hcz12_1 hcz12_2 hcz12_3 hcz12_4 hcz12_5 hcz12_6 hcz12_7
      try clear hcz18_0 hcz18_1 hcz18_2 hcz18_3 hcz18_4 hcz18_5 hcz18_6 hcz18_7
      try clear hcz8_0 hcz8_1 hcz8_2 hcz8_3 hcz8_4 hcz8_5 hcz8_6 hcz8_7
      try clear hfz10_0 hfz10_1 hfz10_2 hfz10_3 hfz10_4 hfz10_5 hfz10_6 hfz10_7
      try clear hfz12_0 hfz12_1 hfz12_2 hfz12_3 hfz12_4 hfz12_5 hfz12_6 hfz12_7
      try clear hfz18_0 hfz18_1 hfz18_2 hfz18_3 hfz18_4 hfz18_5 hfz18_6 hfz18_7
      try clear hfz8_0 hfz8_1 hfz8_2 hfz8_3 hfz8_4 hfz8_5 hfz8_6 hfz8_7
      try clear hx270_0
      try clear hx271_0
      try clear p2
      try clear p270
      try clear p271
      try clear q270
      try clear q271
      obtain ⟨kq, x39_16, rfl, HA, HJ16, HO_5, BK265, HB⟩ := hcut; cases kq with
      | zero => exact absurd HA.out (by simp [product_Padding.j1])
      | succ kj16 =>
       have H := HA.out; clear HA; simp only [product_Padding.j1] at H; have HC20 := Aside0.mk H; clear H; go_upto_if 39 with (fail); go_cut [7, 8] (fun v7 v8 wc => ∃ (kq : Nat) (x7_19 : Int) (x8_19 : Int), v7 = .int .i64 x7_19 ∧ v8 = .int .i64 x8_19 ∧ Aside0 (product_Padding.j2 kq l1 x5_1 x7_19 x8_19 ji6 x22_1 a0_0 a0_1 l0_2 l0_3 l0_4 l0_5 l0_6 a0_7 = some r) ∧ Aside0 (kq ≤ kj16) ∧ Aside0 (Kx.R (Kd.int .u8) 5 wc w.heap.size (fun _ => True) v268 x5_1) ∧ Aside0 (wc.heap[gb265]? = some (.cells #[.int .i64 a0_0, .int .i64 a0_1, (.slice A0_2 l0_2.length c0_2), (.slice (some ad270) l0_3.length c0_3), (.slice A0_4 l0_4.length c0_4), (.slice A0_5 l0_5.length c0_5), (.slice A0_6 l0_6.length c0_6), .bool a0_7] 31 (0, 0))) ∧ Aside0 (Below w.heap.size w wc))
       case first =>
        have H := HC20.out; clear HC20; by_cases c21 : x39_16 = true
        ·
         subst c21; have H1 : (product_Padding.j2 kj16 l1 x5_1 0 (wrap64 ((rd l1 x22_1) + (rd l0_3 x22_1))) ji6 x22_1 a0_0 a0_1 l0_2 l0_3 l0_4 l0_5 l0_6 a0_7) = some r := by rw [if_pos rfl] at H; exact H
         clear H; have H := H1; clear H1; have H' := Aside0.mk H; clear H; go_wp2; go_meet
         case rel => exact ⟨_, (0), (wrap64 ((rd l1 x22_1) + (rd l0_3 x22_1))), rf_, rf_, H', ⟨by have := HK1.out; have := HJ16.out; first | omega | exact Nat.le_refl _⟩, ⟨by (with_reducible repeat (first | apply Kx.R_alloc | apply Kx.R_drewN | apply Kx.R_drew)); exact HO_5.out⟩, ⟨(bk_ BK265.out)⟩, ⟨(hb1_ HB.out GE265.out)⟩⟩
        ·
         replace c21 := Bool.eq_false_iff.mpr c21; subst c21; have H1 : (product_Padding.j2 kj16 l1 x5_1 (rd l0_3 x22_1) (rd l1 x22_1) ji6 x22_1 a0_0 a0_1 l0_2 l0_3 l0_4 l0_5 l0_6 a0_7) = some r := by rw [if_neg (show ¬ (false = true) by decide)] at H; exact H
         clear H; have H := H1; clear H1; have H' := Aside0.mk H; clear H; go_wp2; go_meet
         case rel => exact ⟨_, ((rd l0_3 x22_1)), ((rd l1 x22_1)), rf_, rf_, H', ⟨by have := HK1.out; have := HJ16.out; first | omega | exact Nat.le_refl _⟩, ⟨by (with_reducible repeat (first | apply Kx.R_alloc | apply Kx.R_drewN | apply Kx.R_drew)); exact HO_5.out⟩, ⟨(bk_ BK265.out)⟩, ⟨(hb1_ HB.out GE265.out)⟩⟩
       case rest =>
        clear HC20; try clear c1; try clear c2
        try clear p2
        try clear q2
        try clear hx2
        try clear c4
        try clear c6
        try clear p6
        try clear c13
        try clear c13b0
        try clear c14
        try clear c14b0
        try clear c15
        try clear c15b0
        try clear c16
        try clear c16b0
        try clear c19
        try clear c19b0
        try clear c21
        try clear hcz10_0 hcz10_1 hcz10_2 hcz10_3 hcz10_4 hcz10_5 hcz10_6 hcz10_7
        try clear hcz12_0 hcz12_1 hcz12_2 hcz12_3 hcz12_4 hcz12_5 hcz12_6 hcz12_7
        try clear hcz18_0 hcz18_1 hcz18_2 hcz18_3 hcz18_4 hcz18_5 hcz18_6 hcz18_7
        try clear hcz8_0 hcz8_1 hcz8_2 hcz8_3 hcz8_4 hcz8_5 hcz8_6 hcz8_7
        try clear hfz10_0 hfz10_1 hfz10_2 hfz10_3 hfz10_4 hfz10_5 hfz10_6 hfz10_7
        try clear hfz12_0 hfz12_1 hfz12_2 hfz12_3 hfz12_4 hfz12_5 hfz12_6 hfz12_7
        try clear hfz18_0 hfz18_1 hfz18_2 hfz18_3 hfz18_4 hfz18_5 hfz18_6 hfz18_7
        try clear hfz8_0 hfz8_1 hfz8_2 hfz8_3 hfz8_4 hfz8_5 hfz8_6 hfz8_7
        try clear hx270_0
        try clear hx271_0
        try clear p2
        try clear p270
        try clear p271
        try clear q2
        try clear q270
        try clear q271
        obtain ⟨kq, x7_19, x8_19, rfl, rfl, HA, HJ19, HO_5, BK265, HB⟩ := hcut; cases kq with
        | zero => exact absurd HA.out (by simp [product_Padding.j2])
        | succ kj19 =>
         have H := HA.out; clear HA; simp only [product_Padding.j2] at H; have H' := Aside0.mk H; clear H; go_wp2; go_loopg [8, 9] kj19 (fun kq v8 v9 w' => ∃ (x5_4 : List Int) (x8_4 : Int) (x9_4 : Int), v8 = .int .i64 x8_4 ∧ v9 = .int .i64 x9_4 ∧ Aside0 (product_Padding.l1 kq l1 x5_4 x8_4 x9_4 ji6 x22_1 a0_0 a0_1 l0_2 l0_3 l0_4 l0_5 l0_6 a0_7 = some r) ∧ Aside0 (kq ≤ kj19) ∧ Aside0 (Kx.R (Kd.int .u8) 5 w' w.heap.size (fun _ => True) v268 x5_4) ∧ Aside0 (w'.heap[gb265]? = some (.cells #[.int .i64 a0_0, .int .i64 a0_1, (.slice A0_2 l0_2.length c0_2), (.slice (some ad270) l0_3.length c0_3), (.slice A0_4 l0_4.length c0_4), (.slice A0_5 l0_5.length c0_5), (.slice A0_6 l0_6.length c0_6), .bool a0_7] 31 (0, 0))) ∧ Aside0 (Below w.heap.size w w'))
         case atStart => exact ⟨(x5_1), (x8_19), (x7_19), rf_, rf_, H', ⟨Nat.le_refl _⟩, ⟨by (with_reducible repeat (first | apply Kx.R_alloc | apply Kx.R_drewN | apply Kx.R_drew)); exact HO_5.out⟩, ⟨(bk_ BK265.out)⟩, ⟨(hb1_ HB.out GE265.out)⟩⟩
         case round =>
          clear H'; try clear c1; try clear c2
          try clear p2
          try clear q2
          try clear hx2
          try clear c4
          try clear c6
          try clear p6
          try clear c13
          try clear c13b0
          try clear c14
          try clear c14b0
          try clear c15
          try clear c15b0
          try clear c16
          try clear c16b0
          try clear c19
          try clear c19b0
          try clear c21
          try clear hcz10_0 hcz10_1 hcz10_2 hcz10_3 hcz10_4 hcz10_5 hcz10_6 hcz10_7
          try clear hcz12_0 hcz12_1 hcz12_2 hcz12_3 hcz12_4 hcz12_5 hcz12_6 hcz12_7
          try clear hcz18_0 hcz18_1 hcz18_2 hcz18_3 hcz18_4 hcz18_5 hcz18_6 hcz18_7
          try clear hcz8_0 hcz8_1 hcz8_2 hcz8_3 hcz8_4 hcz8_5 hcz8_6 hcz8_7
          try clear hfz10_0 hfz10_1 hfz10_2 hfz10_3 hfz10_4 hfz10_5 hfz10_6 hfz10_7
          try clear hfz12_0 hfz12_1 hfz12_2 hfz12_3 hfz12_4 hfz12_5 hfz12_6 hfz12_7
          try clear hfz18_0 hfz18_1 hfz18_2 hfz18_3 hfz18_4 hfz18_5 hfz18_6 hfz18_7
          try clear hfz8_0 hfz8_1 hfz8_2 hfz8_3 hfz8_4 hfz8_5 hfz8_6 hfz8_7
          try clear hx270_0
          try clear hx271_0
          try clear p2
          try clear p270
          try clear p271
          try clear p6
          try clear q2
          try clear q270
          try clear q271
          obtain ⟨x5_4, x8_4, x9_4, rfl, rfl, HA, HK4, HO_5, BK265, HB⟩ := hrel; cases gk with
          | zero => exact absurd HA.out (by simp [product_Padding.l1])
          | succ k4 =>
           have H := HA.out; clear HA; simp only [product_Padding.l1] at H; by_cases c22 : x9_4 ≥ 0
           ·
            rw [if_pos c22] at H; have c22b0 : decide (0 ≤ x9_4) = true := decide_eq_true c22; clear c22; by_cases c23 : x9_4 < a0_0
            ·
             rw [if_pos c23] at H; have c23b0 : decide (x9_4 < a0_0) = true := decide_eq_true c23; clear c23; by_cases c24 : x8_4 > 0
             ·
              rw [if_pos c24] at H; have c24b0 : decide (0 < x8_4) = true := decide_eq_true c24; clear c24; by_cases c25 : 0 ≤ x9_4; rotate_left
              ·
               rw [if_neg c25] at H; exact absurd H (by simp)
              rw [if_pos c25] at H; have c25b0 : decide (0 ≤ x9_4) = true := decide_eq_true c25; clear c25; by_cases c26 : x9_4 < (x5_4.length : Int); rotate_left
              ·
               rw [if_neg c26] at H; exact absurd H (by simp)
              rw [if_pos c26] at H; have c26b0 : decide (x9_4 < (x5_4.length : Int)) = true := decide_eq_true c26; clear c26; obtain ⟨y272, hy272⟩ : ∃ y_ : List Int, y_ = (x5_4.set (x9_4 : Int).toNat 0) := ⟨_, rfl⟩; replace H : (product_Padding.l1 k4 l1 y272 (wrap64 (x8_4 - 1)) (wrap64 (x9_4 + 1)) ji6 x22_1 a0_0 a0_1 l0_2 l0_3 l0_4 l0_5 l0_6 a0_7) = some r := by first | (rw [hy272]; with_reducible exact H) | (have H2_ := (Option.bind_some _ _).symm.trans H; rw [hy272]; with_reducible exact H2_) | (have H2_ := (Option.bind_some _ _).symm.trans H; with_reducible exact H2_) | with_reducible exact H | (rw [hy272]; exact H) | exact H
              have Ny272 := Aside0.mk hy272; clear hy272; have H' := Aside0.mk H; clear H; obtain ⟨hcz28_0, hcz28_1, hcz28_2, hcz28_3, hcz28_4, hcz28_5, hcz28_6, hcz28_7, hfz28_0, hfz28_1, hfz28_2, hfz28_3, hfz28_4, hfz28_5, hfz28_6, hfz28_7⟩ := bx8_ BK265.out; have p27 : 0 ≤ (x9_4 : Int) := od_; have q27 : (x9_4 : Int) < ((x5_4.length : Int) : Int) := od_; obtain ⟨go27, co27, eo27, gb27, gl27, cl27, HG27⟩ := Kx.R_form HO_5.out (by omega); (first | cases eo27 | (injection eo27 with ea_ en_ ec_; (first | subst ea_ | (injection ea_ with ea_; subst ea_)); subst ec_; clear en_)); have GB27 := Aside0.mk gb27; have GG27 := Aside0.mk HG27; clear gb27 gl27 HG27; obtain ⟨hx27_0, hf27_0⟩ := Kx.R_celln 0 HO_5.out (x9_4 : Int) p27 q27; replace p27 := eq_true p27; replace q27 := eq_true q27; have HP29 := Kx.R_putg HO_5.out (x9_4 : Int) 0; go_wp2_with (first | ((with_reducible refine gate_store (t := 5) (p := 60) rfl ?_); (try (rw [drewN_self wr]; generalize hq_ : World.drewN wr _ = wr; have n0_ := Aside0.mk (Kx.R_at hq_ HO_5.out); have n1_ := Aside0.mk (blk_at hq_ BK265.out); have n2_ := Aside0.mk (below_at hq_ HB.out); clear hq_ HO_5 BK265 HB; revert n0_ n1_ n2_; intro HO_5 BK265 HB; (try (have HP29 := Kx.R_putg HO_5.out (x9_4 : Int) 0)))); refine store_event (t := 5) (p := 60) (v := ?vo_w30) (w1 := (wr.setCell ⟨go27, (x9_4 : Int).toNat, none⟩ (.int .u8 0))) ?hg ?ho ?hn ?hr ?_; (case ho => rfl); (case hg => rfl); (case hn => rfl); (case hr => first | (go_simp; done) | (go_simp; rfl)); intro w30 hw; have hg : wr.grownBy w30 (some go27) := (by rw [hw]; exact HP29.2); have hp_ : Kx.R (Kd.int .u8) 5 w30 w.heap.size (fun _ => True) (.slice (some ⟨go27, 0, none⟩) x5_4.length co27) y272 := (by rw [hw, Ny272.out]; exact HP29.1); clear HP29; have n0_ := Aside0.mk (hp_); have n1_ := Aside0.mk (blk_grown (g := gb265) (o := .cells #[.int .i64 a0_0, .int .i64 a0_1, .slice A0_2 l0_2.length c0_2, .slice (some ad270) l0_3.length c0_3, .slice A0_4 l0_4.length c0_4, .slice A0_5 l0_5.length c0_5, .slice A0_6 l0_6.length c0_6, .bool a0_7] 31 (0, 0)) (bk_ BK265.out) hg (Kx.R_ne HO_5.out BK265.out (by decide))); have n2_ := Aside0.mk ((by rw [hw]; exact below_set (HB.out) GB27.out : Below w.heap.size w w30)); clear HO_5 BK265 HB; revert n0_ n1_ n2_; intro HO_5 BK265 HB; clear hg hw hp_)); go_roundg k4
              case measure => have := HK1.out; have := HJ16.out; have := HJ19.out; have := HK4.out; omega
              case rel => exact ⟨(y272), (wrap64 (x8_4 - 1)), (wrap64 (x9_4 + 1)), rf_, rf_, H', ⟨by have := HK1.out; have := HJ16.out; have := HJ19.out; have := HK4.out; omega⟩, ⟨by (with_reducible repeat (first | apply Kx.R_alloc | apply Kx.R_drewN | apply Kx.R_drew)); exact HO_5.out⟩, ⟨(bk_ BK265.out)⟩, ⟨(hb1_ HB.out GE265.out)⟩⟩
             ·
              rw [if_neg c24] at H; have c24b0 : decide (0 < x8_4) = false := decide_eq_false c24; clear c24; have H' := Aside0.mk H; clear H; obtain ⟨hcz31_0, hcz31_1, hcz31_2, hcz31_3, hcz31_4, hcz31_5, hcz31_6, hcz31_7, hfz31_0, hfz31_1, hfz31_2, hfz31_3, hfz31_4, hfz31_5, hfz31_6, hfz31_7⟩ := bx8_ BK265.out; go_wp2; go_roundg k4
              case measure => have := HK1.out; have := HJ16.out; have := HJ19.out; have := HK4.out; omega
              case rel => exact ⟨(x5_4), (wrap64 (x22_1 + 1)), rf_, H', ⟨by have := HK1.out; have := HJ16.out; have := HJ19.out; have := HK4.out; omega⟩, ⟨by (with_reducible repeat (first | apply Kx.R_alloc | apply Kx.R_drewN | apply Kx.R_drew)); exact HO_5.out⟩, ⟨(bk_ BK265.out)⟩, ⟨(hb1_ HB.out GE265.out)⟩⟩
            ·
             rw [if_neg c23] at H; have c23b0 : decide (x9_4 < a0_0) = false := decide_eq_false c23; clear c23; have H' := Aside0.mk H; clear H; obtain ⟨hcz32_0, hcz32_1, hcz32_2, hcz32_3, hcz32_4, hcz32_5, hcz32_6, hcz32_7, hfz32_0, hfz32_1, hfz32_2, hfz32_3, hfz32_4, hfz32_5, hfz32_6, hfz32_7⟩ := bx8_ BK265.out; go_wp2; go_roundg k4
             case measure => have := HK1.out; have := HJ16.out; have := HJ19.out; have := HK4.out; omega
             case rel => exact ⟨(x5_4), (wrap64 (x22_1 + 1)), rf_, H', ⟨by have := HK1.out; have := HJ16.out; have := HJ19.out; have := HK4.out; omega⟩, ⟨by (with_reducible repeat (first | apply Kx.R_alloc | apply Kx.R_drewN | apply Kx.R_drew)); exact HO_5.out⟩, ⟨(bk_ BK265.out)⟩, ⟨(hb1_ HB.out GE265.out)⟩⟩
           ·
            rw [if_neg c22] at H; have c22b0 : decide (0 ≤ x9_4) = false := decide_eq_false c22; clear c22; have H' := Aside0.mk H; clear H; go_wp2; go_roundg k4
            case measure => have := HK1.out; have := HJ16.out; have := HJ19.out; have := HK4.out; omega
            case rel => exact ⟨(x5_4), (wrap64 (x22_1 + 1)), rf_, H', ⟨by have := HK1.out; have := HJ16.out; have := HJ19.out; have := HK4.out; omega⟩, ⟨by (with_reducible repeat (first | apply Kx.R_alloc | apply Kx.R_drewN | apply Kx.R_drew)); exact HO_5.out⟩, ⟨(bk_ BK265.out)⟩, ⟨(hb1_ HB.out GE265.out)⟩⟩
    ·
     rw [if_neg c13] at H; have c13b0 : decide (x22_1 < ji6) = false := decide_eq_false c13; clear c13; obtain rfl := Option.some.inj H; go_wp2; go_ret
     exact ⟨_, by first | rfl | (simp [errW_none, errW_some] <;> rfl) | (simp only [← hji6]; first | rfl | (simp [errW_none, errW_some] <;> rfl)) | (simp [*, errW_none, errW_some] <;> rfl), ExtRow.toV (by (with_reducible repeat (first | apply Kx.R_alloc | apply Kx.R_drewN | apply Kx.R_drew)); exact HO_5.out : Kx.R (Kd.int .u8) 5 _ w.heap.size (fun _ => True) _ _), (hb1_ HB.out GE265.out)⟩
 ·
  replace c4 := Bool.eq_false_iff.mpr c4; subst c4; have H1 : (some ([] : List Int)) = some r := by rw [if_neg (show ¬ (false = true) by decide)] at H; exact H
  clear H; have H := H1; clear H1; obtain rfl := Option.some.inj H; go_enter Try.func62, Try.ntmps62; go_wp2_with (first | ((with_reducible refine gate_dst (N := 2) rfl ?_); refine box_event ?hg (N := 2) ?hd (cs := #[.int .i64 a0_0, .int .i64 a0_1, .slice A0_2 l0_2.length c0_2, .slice A0_3 l0_3.length c0_3, .slice A0_4 l0_4.length c0_4, .slice A0_5 l0_5.length c0_5, .slice A0_6 l0_6.length c0_6, .bool a0_7]) (t := 31) ?hr ?_; (case hd => rfl); (case hg => rfl); (case hr => first | (go_simp; done) | (go_simp; rfl)); intro gb265 hg w33 hbox hb; have n0_ := Aside0.mk (below_step (hb0_ HB.out) hb); have n1_ := Aside0.mk (hbox); have n2_ := Aside0.mk ((by rw [hg]; exact (below_size (hb0_ HB.out)) : w.heap.size ≤ gb265)); have n3_ := Aside0.mk ((by rw [hg]; exact (below_size (hb0_ HB.out)) : w.heap.size ≤ gb265)); clear HB; revert n0_ n1_ n2_ n3_; intro HB BK265 GW265 GE265; clear hb hbox hg; obtain ⟨hcz34_0, hcz34_1, hcz34_2, hcz34_3, hcz34_4, hcz34_5, hcz34_6, hcz34_7, hfz34_0, hfz34_1, hfz34_2, hfz34_3, hfz34_4, hfz34_5, hfz34_6, hfz34_7⟩ := bx8_ BK265.out) | (go_at_call 56; (with_reducible refine (mask_Valid.calls a0_0 a0_1 _ _ l0_2 _ _ l0_3 _ _ l0_4 _ _ l0_5 _ _ l0_6 a0_7 false _ ?side1 ?side2 ?side3 ?side4 ?side5 ?side6 ?side7 ?side8 ?side9 ?side10 A3.out).mono ?_); (case side1 => exact kD_ (Kd.C_below HR0_2.out HB.out)); (case side2 => exact HC0_2.out); (case side3 => exact kD_ (Kd.C_below HR0_3.out HB.out)); (case side4 => exact HC0_3.out); (case side5 => exact kD_ (Kd.C_below HR0_4.out HB.out)); (case side6 => exact HC0_4.out); (case side7 => exact kD_ (Kd.C_below HR0_5.out HB.out)); (case side8 => exact HC0_5.out); (case side9 => exact kD_ (Kd.C_below HR0_6.out HB.out)); (case side10 => exact HC0_6.out); rintro e w35 ⟨rfl, hb⟩; have n0_ := Aside0.mk (bb_ BK265.out hb); have n1_ := Aside0.mk (below_step (hb1_ HB.out GE265.out) hb); clear BK265 HB; revert n0_ n1_; intro BK265 HB; (try clear hb); (try clear hb2); (try clear hk); (try clear hi)))
  go_ret
  exact ⟨_, by first | rfl | (simp [errW_none, errW_some] <;> rfl) | (simp [*, errW_none, errW_some] <;> rfl), Kd.V_nil _ _ _ _ _, (hb1_ HB.out GE265.out)⟩

end Go.Proofs.Ytpcephbhnbfcmaa.R
