-- Written by this session's program fork.py: a Lean function for each Go function and its walk. Not trusted: Lean checks it.
import Derived.Test.YtpcephbhnbfcmaaE0
import Derived.Test.YtpcephbhnbfcmaaE1
import Derived.Test.YtpcephbhnbfcmaaE2
import Derived.Test.YtpcephbhnbfcmaaE3
import Derived.Test.YtpcephbhnbfcmaaE4
import Derived.Test.YtpcephbhnbfcmaaE6
namespace Go.Proofs.Ytpcephbhnbfcmaa.E
open Go.RowKit Go.Proofs.YtpcephbhnbfcmaaW.PrintWords Go.Proofs.YtpcephbhnbfcmaaW.PrintLast Go.Proofs.YtpcephbhnbfcmaaW.PrintMore
attribute [local go_sem] max2_int min2_int max_two min_two max_three min_three max_four min_four   -- for this text's walks alone
set_option linter.unusedVariables false
set_option linter.unusedSimpArgs false

open List (setIfInBounds_toArray set_cons_zero set_cons_succ)
/-! ### law16_ProductSpares: function 4 -/
mutual
def law16_ProductSpares.l0 : Nat → List (S31) → Int → List Int → Int → Option (Bool)
 | 0, _, _, _, _ => none
 | k + 1, x4, x5, x242000, x242001 => if x5 > 0 then ((made_Dice_Layout.f k x242000 x242001).bind fun bt244 => ((ref15_Valid.f bt244.1 bt244.2.1 bt244.2.2.1 bt244.2.2.2.1 bt244.2.2.2.2.1 bt244.2.2.2.2.2.1 bt244.2.2.2.2.2.2.1 bt244.2.2.2.2.2.2.2.1).bind fun t264 => (if t264 = true then (if x4.length < 977343669134 then (law16_ProductSpares.l0 k (x4 ++ [(⟨bt244.1, bt244.2.1, bt244.2.2.1, bt244.2.2.2.1, bt244.2.2.2.2.1, bt244.2.2.2.2.2.1, bt244.2.2.2.2.2.2.1, bt244.2.2.2.2.2.2.2.1⟩ : S31)]) (wrap64 (x5 - 1)) x242000 bt244.2.2.2.2.2.2.2.2) else (none)) else (law16_ProductSpares.l0 k x4 (wrap64 (x5 - 1)) x242000 bt244.2.2.2.2.2.2.2.2)))) else ((product_Lay.f k x4).bind fun bt268 => (if bt268.2.2.2.2.2.2.2.2 = 0 then (if (bt268.2.2.2.1.length : Int) = (x4.length : Int) then (law16_ProductSpares.j1 k x4 ((bt268.2.2.1.length : Int) != bt268.1) bt268.1 bt268.2.1 bt268.2.2.1 bt268.2.2.2.1 bt268.2.2.2.2.1 bt268.2.2.2.2.2.1 bt268.2.2.2.2.2.2.1 bt268.2.2.2.2.2.2.2.1) else (law16_ProductSpares.j1 k x4 true bt268.1 bt268.2.1 bt268.2.2.1 bt268.2.2.2.1 bt268.2.2.2.2.1 bt268.2.2.2.2.2.1 bt268.2.2.2.2.2.2.1 bt268.2.2.2.2.2.2.2.1)) else (if bt268.2.2.2.2.2.2.2.2 = 4 then ((Awake16.f).bind fun t288 => (some t288)) else (some false))))
def law16_ProductSpares.j1 : Nat → List (S31) → Bool → Int → Int → List Int → List Int → List (S101) → List (S79) → List Int → Bool → Option (Bool)
 | 0, _, _, _, _, _, _, _, _, _, _ => none
 | k + 1, x4, x60, x288000, x288001, x288002, x288003, x288004, x288005, x288006, x288007 => if x60 = true then (some false) else (law16_ProductSpares.l1 k 0 1 0 x4 (x4.length : Int) 0 x288000 x288001 x288002 x288003 x288004 x288005 x288006 x288007)
def law16_ProductSpares.l1 : Nat → Int → Int → Int → List (S31) → Int → Int → Int → Int → List Int → List Int → List (S101) → List (S79) → List Int → Bool → Option (Bool)
 | 0, _, _, _, _, _, _, _, _, _, _, _, _, _, _ => none
 | k + 1, x9, x10, x11, x61, x62, x63, x288000, x288001, x288002, x288003, x288004, x288005, x288006, x288007 => if x63 < x62 then (if 0 ≤ x63 then (if x63 < (x61.length : Int) then (if x63 < (x288003.length : Int) then (if (rd x288003 x63) < x9 then (some false) else (if (wrap64 ((rd x288003 x63) - x9)) ≥ ((rd_T31 x61 x63).f1) then (some false) else (if (wrap64 ((rd x288003 x63) + ((rd_T31 x61 x63).f0))) > x288000 then (some false) else (if 0 ≤ (rd x288003 x63) then (if (rd x288003 x63) ≤ (wrap64 ((rd x288003 x63) + ((rd_T31 x61 x63).f0))) then (if (wrap64 ((rd x288003 x63) + ((rd_T31 x61 x63).f0))) ≤ (x288002.length : Int) then (if (strOfNums ((x288002.take ((wrap64 ((rd x288003 x63) + ((rd_T31 x61 x63).f0))) : Int).toNat).drop ((rd x288003 x63) : Int).toNat)).toList = (strOfNums ((rd_T31 x61 x63).f2)).toList then ((ref15_Count.f k ((rd_T31 x61 x63).f2)).bind fun t297 => (law16_ProductSpares.l1 k (wrap64 ((rd x288003 x63) + ((rd_T31 x61 x63).f0))) (mx x10 ((rd_T31 x61 x63).f1)) (wrap64 (x11 + t297)) x61 x62 (wrap64 (x63 + 1)) x288000 x288001 x288002 x288003 x288004 x288005 x288006 x288007)) else (some false)) else (none)) else (none)) else (none))))) else (none)) else (none)) else (none)) else (if x288000 = x9 then (if x288001 = x10 then ((ref15_Count.f k x288002).bind fun t298 => (if t298 = x11 then ((product_Stride.f x288000 x288001 x288002 x288003 x288004 x288005 x288006 x288007).bind fun t299 => (if x10 = 0 then (none) else (if (Int.tmod t299 x10) = 0 then ((product_Stride.f x288000 x288001 x288002 x288003 x288004 x288005 x288006 x288007).bind fun t300 => (if t300 ≥ x288000 then ((Awake16.f).bind fun t301 => (some t301)) else (some false))) else (some false)))) else (some false))) else (some false)) else (some false))
end
def law16_ProductSpares.f (k : Nat) (l0 : List Int) : Option (Bool) := (made_Light.f l0).bind fun t237 => (if t237 = true then ((made_Roll.f l0).bind fun bt239 => ((made_Dice_Next.f bt239.1 bt239.2 7).bind fun bt242 => (law16_ProductSpares.l0 k ([] : List (S31)) bt242.1 bt239.1 bt242.2))) else ((Awake16.f).bind fun t238 => (some t238)))
theorem law16_ProductSpares.mono_l : ∀ k, (∀ y0 y1 y2 y3, LeO (law16_ProductSpares.l0 k y0 y1 y2 y3) (law16_ProductSpares.l0 (k + 1) y0 y1 y2 y3)) ∧ (∀ y0 y1 y2 y3 y4 y5 y6 y7 y8 y9, LeO (law16_ProductSpares.j1 k y0 y1 y2 y3 y4 y5 y6 y7 y8 y9) (law16_ProductSpares.j1 (k + 1) y0 y1 y2 y3 y4 y5 y6 y7 y8 y9)) ∧ (∀ y0 y1 y2 y3 y4 y5 y6 y7 y8 y9 y10 y11 y12 y13, LeO (law16_ProductSpares.l1 k y0 y1 y2 y3 y4 y5 y6 y7 y8 y9 y10 y11 y12 y13) (law16_ProductSpares.l1 (k + 1) y0 y1 y2 y3 y4 y5 y6 y7 y8 y9 y10 y11 y12 y13))
 | 0 => ⟨fun _ _ _ _ r h => by simp [law16_ProductSpares.l0] at h, fun _ _ _ _ _ _ _ _ _ _ r h => by simp [law16_ProductSpares.j1] at h, fun _ _ _ _ _ _ _ _ _ _ _ _ _ _ r h => by simp [law16_ProductSpares.l1] at h⟩
 | k + 1 => by
  obtain ⟨ih0, ih1, ih2⟩ := law16_ProductSpares.mono_l k
  refine ⟨?_, ?_, ?_⟩
  ·
   intro y0 y1 y2 y3
   unfold law16_ProductSpares.l0
   repeat' first
   | (with_reducible exact ih0 _ _ _ _)
   | (with_reducible exact ih1 _ _ _ _ _ _ _ _ _ _)
   | (with_reducible exact ih2 _ _ _ _ _ _ _ _ _ _ _ _ _ _)
   | (with_reducible exact made_Dice_Layout.mono _ _ _)
   | (with_reducible exact product_Lay.mono _ _)
   | (with_reducible exact ref15_Count.mono _ _)
   | (with_reducible exact LeO.refl _)
   | (with_reducible exact LeO.none _)
   | (with_reducible refine LeO.ite ?_ ?_)
   | (with_reducible refine LeO.bind ?_ (fun _ => ?_))
   | exact ih0 _ _ _ _
   | exact ih1 _ _ _ _ _ _ _ _ _ _
   | exact ih2 _ _ _ _ _ _ _ _ _ _ _ _ _ _
   | exact made_Dice_Layout.mono _ _ _
   | exact product_Lay.mono _ _
   | exact ref15_Count.mono _ _
   | exact LeO.none _
   | refine LeO.ite ?_ ?_
   | refine LeO.bind ?_ (fun _ => ?_)
  ·
   intro y0 y1 y2 y3 y4 y5 y6 y7 y8 y9
   unfold law16_ProductSpares.j1
   repeat' first
   | (with_reducible exact ih0 _ _ _ _)
   | (with_reducible exact ih1 _ _ _ _ _ _ _ _ _ _)
   | (with_reducible exact ih2 _ _ _ _ _ _ _ _ _ _ _ _ _ _)
   | (with_reducible exact made_Dice_Layout.mono _ _ _)
   | (with_reducible exact product_Lay.mono _ _)
   | (with_reducible exact ref15_Count.mono _ _)
   | (with_reducible exact LeO.refl _)
   | (with_reducible exact LeO.none _)
   | (with_reducible refine LeO.ite ?_ ?_)
   | (with_reducible refine LeO.bind ?_ (fun _ => ?_))
   | exact ih0 _ _ _ _
   | exact ih1 _ _ _ _ _ _ _ _ _ _
   | exact ih2 _ _ _ _ _ _ _ _ _ _ _ _ _ _
   | exact made_Dice_Layout.mono _ _ _
   | exact product_Lay.mono _ _
   | exact ref15_Count.mono _ _
   | exact LeO.none _
   | refine LeO.ite ?_ ?_
   | refine LeO.bind ?_ (fun _ => ?_)
  ·
   intro y0 y1 y2 y3 y4 y5 y6 y7 y8 y9 y10 y11 y12 y13
   unfold law16_ProductSpares.l1
   repeat' first
   | (with_reducible exact ih0 _ _ _ _)
   | (with_reducible exact ih1 _ _ _ _ _ _ _ _ _ _)
   | (with_reducible exact ih2 _ _ _ _ _ _ _ _ _ _ _ _ _ _)
   | (with_reducible exact made_Dice_Layout.mono _ _ _)
   | (with_reducible exact product_Lay.mono _ _)
   | (with_reducible exact ref15_Count.mono _ _)
   | (with_reducible exact LeO.refl _)
   | (with_reducible exact LeO.none _)
   | (with_reducible refine LeO.ite ?_ ?_)
   | (with_reducible refine LeO.bind ?_ (fun _ => ?_))
   | exact ih0 _ _ _ _
   | exact ih1 _ _ _ _ _ _ _ _ _ _
   | exact ih2 _ _ _ _ _ _ _ _ _ _ _ _ _ _
   | exact made_Dice_Layout.mono _ _ _
   | exact product_Lay.mono _ _
   | exact ref15_Count.mono _ _
   | exact LeO.none _
   | refine LeO.ite ?_ ?_
   | refine LeO.bind ?_ (fun _ => ?_)
theorem law16_ProductSpares.mono : ∀ a0 k, LeO (law16_ProductSpares.f k a0) (law16_ProductSpares.f (k + 1) a0) := by
 intro a0 k
 obtain ⟨ih0, ih1, ih2⟩ := law16_ProductSpares.mono_l k
 unfold law16_ProductSpares.f
 repeat' first
   | (with_reducible exact ih0 _ _ _ _)
   | (with_reducible exact ih1 _ _ _ _ _ _ _ _ _ _)
   | (with_reducible exact ih2 _ _ _ _ _ _ _ _ _ _ _ _ _ _)
   | (with_reducible exact made_Dice_Layout.mono _ _ _)
   | (with_reducible exact product_Lay.mono _ _)
   | (with_reducible exact ref15_Count.mono _ _)
   | (with_reducible exact LeO.refl _)
   | (with_reducible exact LeO.none _)
   | (with_reducible refine LeO.ite ?_ ?_)
   | (with_reducible refine LeO.bind ?_ (fun _ => ?_))
   | exact ih0 _ _ _ _
   | exact ih1 _ _ _ _ _ _ _ _ _ _
   | exact ih2 _ _ _ _ _ _ _ _ _ _ _ _ _ _
   | exact made_Dice_Layout.mono _ _ _
   | exact product_Lay.mono _ _
   | exact ref15_Count.mono _ _
   | exact LeO.none _
   | refine LeO.ite ?_ ?_
   | refine LeO.bind ?_ (fun _ => ?_)
def law16_ProductSpares.T21 : Bool × List (List Nat × List Nat) := (true, [([], []), ([], []), ([0, 1], [0, 1]), ([2], [2]), ([3], [3]), ([3], [3]), ([4, 5, 3], [3, 4, 5]), ([3], [3]), ([7, 3], [3, 7]), ([6, 8, 3], [3, 6, 8]), ([3, 9], [3, 9]), ([10, 3], [10]), ([11], [11]), ([11], [11]), ([13, 11], [11, 13]), ([12, 14, 11], [11, 12, 14]), ([11], [11]), ([16, 11], [11, 16]), ([15, 17, 11], [11, 15, 17]), ([11, 18], [11, 18]), ([19, 11], [19]), ([20], [20]), ([21, 20], [20, 21]), ([20], [20]), ([20], [20]), ([20], [20]), ([25, 20], [20, 25]), ([24, 26, 20], [20, 24, 26]), ([22, 23, 27, 20], [20, 22, 23, 27]), ([28, 20], [20, 28]), ([20], [20]), ([30, 20], [20, 30]), ([31, 20], [20, 31]), ([29, 32, 20], [20, 29, 32]), ([20, 33], [20, 33])])
def law16_ProductSpares.B21 : List Nat := [0, 0, 3, 7, 15, 15, 63, 15, 143, 511, 1023, 2047, 4095, 4095, 12287, 32767, 4095, 69631, 262143, 524287, 1048575, 2097151, 4194303, 2097151, 2097151, 2097151, 35651583, 119537663, 268435455, 536870911, 2097151, 1075838975, 3223322623, 8589934591, 17179869183]
theorem law16_ProductSpares.tab21 : rtab .any (opsOf Try.f4 21) = law16_ProductSpares.T21 := by kernel_rfl
theorem law16_ProductSpares.bits21 : waitsOk law16_ProductSpares.T21.2 law16_ProductSpares.B21 = true := by kernel_rfl
def law16_ProductSpares.T23 : Bool × List (List Nat × List Nat) := (true, [([], []), ([], []), ([1], [1]), ([0, 2], [0, 2]), ([], []), ([], []), ([5], [5]), ([4, 6], [4, 6]), ([3, 0, 1, 2, 3], [3]), ([7, 8, 0, 1, 2, 3, 4, 5, 6, 7, 8], [4, 7])])
def law16_ProductSpares.B23 : List Nat := [0, 0, 2, 7, 0, 0, 32, 112, 15, 511]
theorem law16_ProductSpares.tab23 : rtab .any (opsOf Try.f4 23) = law16_ProductSpares.T23 := by kernel_rfl
theorem law16_ProductSpares.bits23 : waitsOk law16_ProductSpares.T23.2 law16_ProductSpares.B23 = true := by kernel_rfl
def law16_ProductSpares.T26 : Bool × List (List Nat × List Nat) := (true, [([], []), ([0], [0]), ([], []), ([1, 2], [1, 2]), ([3], [3]), ([4], [4]), ([5, 4], [4, 5]), ([4], [4]), ([6, 7, 4], [4, 6, 7]), ([4, 8], [4, 8]), ([9, 4], [9]), ([10], [10]), ([11, 10], [10, 11]), ([12, 10, 10], [10, 12]), ([10], [10]), ([13, 14, 10], [10, 13, 14]), ([10, 15], [10, 15]), ([16, 13], [16]), ([17], [17]), ([18, 17, 17], [17, 18]), ([17], [17]), ([19, 20, 17], [17, 19, 20]), ([21, 17], [17, 21]), ([17, 22], [17, 22]), ([23, 19], [23]), ([24], [24]), ([25, 24, 24], [24, 25]), ([24], [24]), ([27, 24], [24, 27]), ([26, 28, 24], [24, 26, 28]), ([24, 29], [24, 29]), ([30, 26], [30]), ([31, 31], [31]), ([31, 32], [31, 32]), ([33, 32, 0, 1, 2, 3, 4, 5, 6, 7, 8, 9, 10, 11, 12, 13, 14, 15, 16, 17, 18, 19, 20, 21, 22, 23, 24, 25, 26, 27, 28, 29, 30, 31, 32, 33], [33])])
def law16_ProductSpares.B26 : List Nat := [0, 1, 0, 7, 15, 31, 63, 31, 255, 511, 1023, 2047, 4095, 8191, 2047, 32767, 65535, 131071, 262143, 524287, 262143, 2097151, 4194303, 8388607, 16777215, 33554431, 67108863, 33554431, 167772159, 536870911, 1073741823, 2147483647, 4294967295, 8589934591, 17179869183]
theorem law16_ProductSpares.tab26 : rtab .any (opsOf Try.f4 26) = law16_ProductSpares.T26 := by kernel_rfl
theorem law16_ProductSpares.bits26 : waitsOk law16_ProductSpares.T26.2 law16_ProductSpares.B26 = true := by kernel_rfl
set_option maxHeartbeats 8000000 in
set_option maxRecDepth 100000 in
theorem law16_ProductSpares.calls (k : Nat) (A0 : Option Addr) (c0 : Nat) (l0 : List Int) (r : Bool) (w : World) (hr0 : Kd.C (Kd.int .i64) w A0 l0.length l0) (hc0 : l0.length ≤ c0) (h : law16_ProductSpares.f k l0 = some r) (hr_ : r = true) :
  Calls Try.prog 4 #[.slice A0 l0.length c0] w fun e w' => e = .returned (.bool r) ∧ Below w.heap.size w w' := by
 have hu31 := Try.underlying31
 have HR0 := Aside0.mk hr0
 have HC0 := Aside0.mk hc0
 clear hr0 hc0
 have HB := Aside0.mk (Below.refl w.heap.size w)
 have H : ((made_Light.f l0).bind fun t237 => (if t237 = true then ((made_Roll.f l0).bind fun bt239 => ((made_Dice_Next.f bt239.1 bt239.2 7).bind fun bt242 => (law16_ProductSpares.l0 k ([] : List (S31)) bt242.1 bt239.1 bt242.2))) else ((Awake16.f).bind fun t238 => (some t238)))) = some r := h
 clear h
 replace H := Option.bind_eq_some_iff.mp H
 obtain ⟨t237, A20, H⟩ := H
 replace H : (if t237 = true then ((made_Roll.f l0).bind fun bt239 => ((made_Dice_Next.f bt239.1 bt239.2 7).bind fun bt242 => (law16_ProductSpares.l0 k ([] : List (S31)) bt242.1 bt239.1 bt242.2))) else ((Awake16.f).bind fun t238 => (some t238))) = some r := H
 have A2 := Aside0.mk A20
 clear A20
 by_cases c3 : t237 = true
 ·
  subst c3
  have H1 : ((made_Roll.f l0).bind fun bt239 => ((made_Dice_Next.f bt239.1 bt239.2 7).bind fun bt242 => (law16_ProductSpares.l0 k ([] : List (S31)) bt242.1 bt239.1 bt242.2))) = some r := by rw [if_pos rfl] at H; exact H
  clear H
  have H := H1
  clear H1
  replace H := Option.bind_eq_some_iff.mp H
  obtain ⟨⟨t239, t240⟩, A40, H⟩ := H
  replace H : ((made_Dice_Next.f t239 t240 7).bind fun bt242 => (law16_ProductSpares.l0 k ([] : List (S31)) bt242.1 t239 bt242.2)) = some r := H
  have A4 := Aside0.mk A40
  clear A40
  replace H := Option.bind_eq_some_iff.mp H
  obtain ⟨⟨t242, t243⟩, A50, H⟩ := H
  replace H : (law16_ProductSpares.l0 k ([] : List (S31)) t242 t239 t243) = some r := H
  have A5 := Aside0.mk A50
  clear A50
  have H' := Aside0.mk H
  clear H
  go_enter Try.func4, Try.ntmps4
  go_wp2_with (first | ((with_reducible refine gate_callee (f := 18) rfl ?_); refine goesL_ (some 16) rfl rfl Try.func18 (by kernel_rfl) rfl #[.slice A0 l0.length c0] rfl (by (try simp only [List.map_toArray, List.map_cons, List.map_nil]); first | done | rfl | (simp only [List.length_drop, List.length_take]; rfl)) ?_; (with_reducible refine (made_Light.calls _ _ l0 true _ ?side1 ?side2 A2.out).mono ?_); (case side1 => repeat (first | exact HR0.out | (with_reducible refine Kd.C_alloc ?_ _) | (with_reducible refine Kd.C_drewN ?_ _) | (with_reducible refine Kd.C_drew ?_))); (case side2 => exact HC0.out); rintro e w' ⟨rfl, ⟨nd, rfl⟩⟩; refine ⟨_, rfl, ?_⟩) | ((with_reducible refine gate_callee (f := 20) rfl ?_); refine goesL_ (some 20) rfl rfl Try.func20 (by kernel_rfl) rfl #[.slice A0 l0.length c0] rfl (by (try simp only [List.map_toArray, List.map_cons, List.map_nil]); first | done | rfl | (simp only [List.length_drop, List.length_take]; rfl)) ?_; (with_reducible refine (made_Roll.calls _ _ l0 t239 t240 w _ ?side1 ?side2 ?side3 A4.out).mono ?_); (case side1 => repeat (first | (with_reducible first | exact HB.out | apply below_alloc | apply pw_below_drewN | apply below_drew1) | exact HB.out)); (case side2 => exact HR0.out); (case side3 => exact HC0.out); rintro e w6 ⟨g241, rfl, hi, hb, hb2⟩; refine ⟨_, rfl, ?_⟩; have n0_ := Aside0.mk (hb); have n1_ := Aside0.mk (hi); clear HB; have HB := n0_; have HI241 := n1_; clear n0_ n1_; (try clear hb); (try clear hb2); (try clear hk); (try clear hi)) | ((with_reducible refine gate_callee (f := 21) rfl ?_); refine goesL_ (some 22) rfl rfl Try.func21 (by kernel_rfl) rfl #[.pointer (some ⟨g241, 0, none⟩), .int .i64 7] rfl (by (try simp only [List.map_toArray, List.map_cons, List.map_nil]); first | done | rfl | (simp only [List.length_drop, List.length_take]; rfl)) ?_; (with_reducible refine (made_Dice_Next.calls g241 t239 t240 7 t242 t243 w _ ?side1 ?side2 A5.out).mono ?_); (case side1 => repeat (first | (with_reducible first | exact HI241.out | apply IsS84.alloc | apply IsS84.drewN | apply IsS84.drew | apply IsS84.set_1) | exact HI241.out)); (case side2 => repeat (first | (with_reducible first | exact HB.out | apply below_alloc | apply pw_below_drewN | apply below_drew1 | refine below_set ?_ (IsS84.ge HI241.out)) | exact HB.out)); rintro e w7 ⟨rfl, hi, hb, hk⟩; refine ⟨_, rfl, ?_⟩; have n0_ := Aside0.mk (hb); have n1_ := Aside0.mk (hi); clear HB HI241; have HB := n0_; have HI241 := n1_; clear n0_ n1_; (try clear hb); (try clear hb2); (try clear hk); (try clear hi)))
  go_loopg [4, 5] k (fun kq v4 v5 w' => ∃ (x4_1 : List (S31)) (x5_1 : Int) (x242001_1 : Int), v5 = .int .i64 x5_1 ∧ Aside0 (law16_ProductSpares.l0 kq x4_1 x5_1 t239 x242001_1 = some r) ∧ Aside0 (kq ≤ k) ∧ Aside0 (Kd.N k31 31 w' w.heap.size (fun k_ => k_ ≠ g241) v4 x4_1) ∧ Aside0 (IsS84 w w' g241 t239 x242001_1) ∧ Aside0 (Below w.heap.size w w'))
  case atStart => exact ⟨(([] : List (S31))), (t242), (t243), (by first | rfl | (simp; done) | (simp [*]; done)), H', ⟨Nat.le_refl _⟩, ⟨by first | exact Kd.R_nil _ _ _ _ _ | exact Kd.N_nil _ _ _ _ _ | exact Kd.V_nil _ _ _ _ _ | exact Kd.Q_nil _ _ _ _ _ | exact Kd.S_nil _ _ _ _ _⟩, ⟨by repeat (first | (with_reducible first | exact HI241.out | apply IsS84.alloc | apply IsS84.drewN | apply IsS84.drew | apply IsS84.set_1) | exact HI241.out)⟩, ⟨by repeat (first | (with_reducible first | exact HB.out | apply below_alloc | apply pw_below_drewN | apply below_drew1 | refine below_set ?_ (IsS84.ge HI241.out)) | exact HB.out)⟩⟩
  case round =>
   clear H'
   try clear c1
   try clear c2
   try clear p2
   try clear c3
   try clear c4
   obtain ⟨x4_1, x5_1, x242001_1, rfl, HA, HK1, HO_4, HI241, HB⟩ := hrel
   cases gk with
   | zero => exact absurd HA.out (by simp [law16_ProductSpares.l0])
   | succ k1 =>
    have H := HA.out
    clear HA
    simp only [law16_ProductSpares.l0] at H
    by_cases c8 : x5_1 > 0
    ·
     rw [if_pos c8] at H
     have c8b0 : decide (0 < x5_1) = true := decide_eq_true c8
     clear c8
     replace H := Option.bind_eq_some_iff.mp H
     obtain ⟨⟨t244, t245, t246, t249, t252, t255, t258, t261, t262⟩, A90, H⟩ := H
     replace H : ((ref15_Valid.f t244 t245 t246 t249 t252 t255 t258 t261).bind fun t264 => (if t264 = true then (if x4_1.length < 977343669134 then (law16_ProductSpares.l0 k1 (x4_1 ++ [(⟨t244, t245, t246, t249, t252, t255, t258, t261⟩ : S31)]) (wrap64 (x5_1 - 1)) t239 t262) else (none)) else (law16_ProductSpares.l0 k1 x4_1 (wrap64 (x5_1 - 1)) t239 t262))) = some r := H
     have A9 := Aside0.mk A90
     clear A90
     replace H := Option.bind_eq_some_iff.mp H
     obtain ⟨t264, A100, H⟩ := H
     replace H : (if t264 = true then (if x4_1.length < 977343669134 then (law16_ProductSpares.l0 k1 (x4_1 ++ [(⟨t244, t245, t246, t249, t252, t255, t258, t261⟩ : S31)]) (wrap64 (x5_1 - 1)) t239 t262) else (none)) else (law16_ProductSpares.l0 k1 x4_1 (wrap64 (x5_1 - 1)) t239 t262)) = some r := H
     have A10 := Aside0.mk A100
     clear A100
     by_cases c11 : t264 = true
     ·
      subst c11
      have H1 : (if x4_1.length < 977343669134 then (law16_ProductSpares.l0 k1 (x4_1 ++ [(⟨t244, t245, t246, t249, t252, t255, t258, t261⟩ : S31)]) (wrap64 (x5_1 - 1)) t239 t262) else (none)) = some r := by rw [if_pos rfl] at H; exact H
      clear H
      have H := H1
      clear H1
      by_cases c12 : x4_1.length < 977343669134
      rotate_left
      ·
       rw [if_neg c12] at H
       exact absurd H (by simp)
      rw [if_pos c12] at H
      have LMc12 := Aside0.mk c12
      clear c12
      obtain ⟨y265, hy265⟩ : ∃ y_ : List (S31), y_ = (x4_1 ++ [(⟨t244, t245, t246, t249, t252, t255, t258, t261⟩ : S31)]) := ⟨_, rfl⟩
      replace H : (law16_ProductSpares.l0 k1 y265 (wrap64 (x5_1 - 1)) t239 t262) = some r := by first | (rw [hy265]; with_reducible exact H) | (have H2_ := (Option.bind_some _ _).symm.trans H; rw [hy265]; with_reducible exact H2_) | (have H2_ := (Option.bind_some _ _).symm.trans H; with_reducible exact H2_) | with_reducible exact H | (rw [hy265]; exact H) | exact H
      have Ny265 := Aside0.mk hy265
      clear hy265
      have H' := Aside0.mk H
      clear H
      go_wp2_with (first | ((with_reducible refine gate_callee (f := 22) rfl ?_); refine goesL_ (some 28) rfl rfl Try.func22 (by kernel_rfl) rfl #[.pointer (some ⟨g241, 0, none⟩)] rfl (by (try simp only [List.map_toArray, List.map_cons, List.map_nil]); first | done | rfl | (simp only [List.length_drop, List.length_take]; rfl)) ?_; (with_reducible refine (made_Dice_Layout.calls k1 g241 t239 x242001_1 t244 t245 t246 t249 t252 t255 t258 t261 t262 w _ ?side1 ?side2 A9.out).mono ?_); (case side1 => repeat (first | (with_reducible first | exact HI241.out | apply IsS84.alloc | apply IsS84.drewN | apply IsS84.drew | apply IsS84.set_1) | exact HI241.out)); (case side2 => repeat (first | (with_reducible first | exact HB.out | apply below_alloc | apply pw_below_drewN | apply below_drew1 | refine below_set ?_ (IsS84.ge HI241.out)) | exact HB.out)); rintro e w13 ⟨v247, v250, v253, v256, v259, rfl, ho0, ho1, ho2, ho3, ho4, hi, hb, hk⟩; refine ⟨_, rfl, ?_⟩; have n0_ := Aside0.mk (Kd.N_mono (Kd.N_told (Kd.N_told (Kd.N_told (Kd.N_told (Kd.N_told (Kd.N_oldK (Kd.N_mono (ok := fun k_ => k_ ≠ g241) (kN_ HO_4.out) (fun k_ hk_ => (⟨hk_, hk_⟩ : _ ∧ k_ ≠ g241))) hk) (Kd.R_base ho0)) (Kd.R_base ho1)) (by first | exact Kd.N_base ho2 | exact Kd.R_base ho2)) (by first | exact Kd.N_base ho3 | exact Kd.R_base ho3)) (Kd.R_base ho4)) (fun _ h_ => h_.1)); have n1_ := Aside0.mk (Kd.R_lower (Kd.R_mono (ok' := fun k_ => True) ho0 (fun _ hk_ => trivial)) (below_size (by repeat (first | (with_reducible first | exact HB.out | apply below_alloc | apply pw_below_drewN | apply below_drew1 | refine below_set ?_ (IsS84.ge HI241.out)) | exact HB.out)))); have n2_ := Aside0.mk (Kd.R_lower (Kd.R_mono (ok' := fun k_ => some k_ ≠ (v259 : Value).ownBlock) ho1 (fun _ hk_ => hk_.2)) (below_size (by repeat (first | (with_reducible first | exact HB.out | apply below_alloc | apply pw_below_drewN | apply below_drew1 | refine below_set ?_ (IsS84.ge HI241.out)) | exact HB.out)))); have n3_ := Aside0.mk (Kd.N_lower (Kd.N_mono (ok' := fun k_ => some k_ ≠ (v247 : Value).ownBlock ∧ some k_ ≠ (v250 : Value).ownBlock ∧ some k_ ≠ (v256 : Value).ownBlock ∧ some k_ ≠ (v259 : Value).ownBlock ∧ some k_ ≠ (u4 : Value).ownBlock ∧ k_ ≠ g241) ho2 (fun k_ hk_ => ⟨hk_.2.1, hk_.2.2.1, hk_.2.2.2.1, hk_.2.2.2.2, (Kd.fresh' (Kd.N_lt (kN_ HO_4.out)) k_ hk_.1), (IsS84.fresh (by repeat (first | (with_reducible first | exact HI241.out | apply IsS84.alloc | apply IsS84.drewN | apply IsS84.drew | apply IsS84.set_1) | exact HI241.out)) k_ hk_.1)⟩)) (below_size (by repeat (first | (with_reducible first | exact HB.out | apply below_alloc | apply pw_below_drewN | apply below_drew1 | refine below_set ?_ (IsS84.ge HI241.out)) | exact HB.out)))); have n4_ := Aside0.mk (Kd.N_lower (Kd.N_mono (ok' := fun k_ => some k_ ≠ (v247 : Value).ownBlock ∧ some k_ ≠ (v250 : Value).ownBlock ∧ some k_ ≠ (v253 : Value).ownBlock ∧ some k_ ≠ (v259 : Value).ownBlock ∧ some k_ ≠ (u4 : Value).ownBlock ∧ k_ ≠ g241) ho3 (fun k_ hk_ => ⟨hk_.2.1, hk_.2.2.1, hk_.2.2.2.1, hk_.2.2.2.2, (Kd.fresh' (Kd.N_lt (kN_ HO_4.out)) k_ hk_.1), (IsS84.fresh (by repeat (first | (with_reducible first | exact HI241.out | apply IsS84.alloc | apply IsS84.drewN | apply IsS84.drew | apply IsS84.set_1) | exact HI241.out)) k_ hk_.1)⟩)) (below_size (by repeat (first | (with_reducible first | exact HB.out | apply below_alloc | apply pw_below_drewN | apply below_drew1 | refine below_set ?_ (IsS84.ge HI241.out)) | exact HB.out)))); have n5_ := Aside0.mk (Kd.R_lower (Kd.R_mono (ok' := fun k_ => some k_ ≠ (v250 : Value).ownBlock) ho4 (fun _ hk_ => hk_.2)) (below_size (by repeat (first | (with_reducible first | exact HB.out | apply below_alloc | apply pw_below_drewN | apply below_drew1 | refine below_set ?_ (IsS84.ge HI241.out)) | exact HB.out)))); have n6_ := Aside0.mk (hb); have n7_ := Aside0.mk (hi); clear HO_4 HB HI241; have HO_4 := n0_; have HO248 := n1_; have HO251 := n2_; have HO254 := n3_; have HO257 := n4_; have HO260 := n5_; have HB := n6_; have HI241 := n7_; clear n0_ n1_ n2_ n3_ n4_ n5_ n6_ n7_; (try clear hb); (try clear hb2); (try clear hk); (try clear hi); (try clear ho0); (try clear ho1); (try clear ho2); (try clear ho3); (try clear ho4)) | ((with_reducible refine gate_dst (N := 6) rfl ?_); (try (refine gate_guard (by rfl) ?_; dsimp only)); refine box_event ?hg (N := 6) ?hd (cs := #[.int .i64 0, .int .i64 0, .slice none 0 0, .slice none 0 0, .slice none 0 0, .slice none 0 0, .slice none 0 0, .bool false]) (t := 31) ?hr ?_; (case hd => rfl); (case hg => rfl); (case hr => first | (go_simp; done) | (go_simp; rfl)); intro gb263 hg w14 hbox hb; have n0_ := Aside0.mk (Kd.N_below (Kd.N_elderB (kN_ HO_4.out) gb263 (Nat.le_of_eq hg.symm)) hb); have n1_ := Aside0.mk (Kd.R_below (kR_ HO248.out) hb); have n2_ := Aside0.mk (Kd.R_below (kR_ HO251.out) hb); have n3_ := Aside0.mk (Kd.N_below (Kd.N_elderB (kN_ HO254.out) gb263 (Nat.le_of_eq hg.symm)) hb); have n4_ := Aside0.mk (Kd.N_below (Kd.N_elderB (kN_ HO257.out) gb263 (Nat.le_of_eq hg.symm)) hb); have n5_ := Aside0.mk (Kd.R_below (kR_ HO260.out) hb); have n6_ := Aside0.mk (IsS84.below (by repeat (first | (with_reducible first | exact HI241.out | apply IsS84.alloc | apply IsS84.drewN | apply IsS84.drew | apply IsS84.set_1) | exact HI241.out)) hb); have n7_ := Aside0.mk (below_step (by repeat (first | (with_reducible first | exact HB.out | apply below_alloc | apply pw_below_drewN | apply below_drew1 | refine below_set ?_ (IsS84.ge HI241.out)) | exact HB.out)) hb); have n8_ := Aside0.mk (hbox); have n9_ := Aside0.mk ((by rw [hg]; exact (below_size (by repeat (first | (with_reducible first | exact HB.out | apply below_alloc | apply pw_below_drewN | apply below_drew1 | refine below_set ?_ (IsS84.ge HI241.out)) | exact HB.out))) : w.heap.size ≤ gb263)); have n10_ := Aside0.mk ((by rw [hg]; exact (below_size (by repeat (first | (with_reducible first | exact HB.out | apply below_alloc | apply pw_below_drewN | apply below_drew1 | refine below_set ?_ (IsS84.ge HI241.out)) | exact HB.out))) : w.heap.size ≤ gb263)); have n11_ := Aside0.mk ((by rw [hg]; exact Nat.ne_of_lt (IsS84.lt (show IsS84 w _ g241 t239 t262 from by repeat (first | (with_reducible first | exact HI241.out | apply IsS84.alloc | apply IsS84.drewN | apply IsS84.drew | apply IsS84.set_1) | exact HI241.out))) : g241 ≠ gb263)); have n12_ := Aside0.mk ((by rw [hg]; exact Nat.ne_of_gt (IsS84.lt (show IsS84 w _ g241 t239 t262 from by repeat (first | (with_reducible first | exact HI241.out | apply IsS84.alloc | apply IsS84.drewN | apply IsS84.drew | apply IsS84.set_1) | exact HI241.out))) : gb263 ≠ g241)); clear HO_4 HO248 HO251 HO254 HO257 HO260 HI241 HB; have HO_4 := n0_; have HO248 := n1_; have HO251 := n2_; have HO254 := n3_; have HO257 := n4_; have HO260 := n5_; have HI241 := n6_; have HB := n7_; have BK263 := n8_; have GW263 := n9_; have GE263 := n10_; have NB241_263 := n11_; have NB263_241 := n12_; clear n0_ n1_ n2_ n3_ n4_ n5_ n6_ n7_ n8_ n9_ n10_ n11_ n12_ hb hbox hg; have hnb15 := NB263_241.out; have hnc15 := NB241_263.out; have hcz16_0 : w14.cell? ⟨gb263, 0, none⟩ = some (.int .i64 0) := (blk_cell BK263.out 0).trans rfl; have hcz16_1 : w14.cell? ⟨gb263, 1, none⟩ = some (.int .i64 0) := (blk_cell BK263.out 1).trans rfl; have hcz16_2 : w14.cell? ⟨gb263, 2, none⟩ = some (.slice none 0 0) := (blk_cell BK263.out 2).trans rfl; have hcz16_3 : w14.cell? ⟨gb263, 3, none⟩ = some (.slice none 0 0) := (blk_cell BK263.out 3).trans rfl; have hcz16_4 : w14.cell? ⟨gb263, 4, none⟩ = some (.slice none 0 0) := (blk_cell BK263.out 4).trans rfl; have hcz16_5 : w14.cell? ⟨gb263, 5, none⟩ = some (.slice none 0 0) := (blk_cell BK263.out 5).trans rfl; have hcz16_6 : w14.cell? ⟨gb263, 6, none⟩ = some (.slice none 0 0) := (blk_cell BK263.out 6).trans rfl; have hcz16_7 : w14.cell? ⟨gb263, 7, none⟩ = some (.bool false) := (blk_cell BK263.out 7).trans rfl; have hfz16_0 := blk_frozen BK263.out 0; have hfz16_1 := blk_frozen BK263.out 1; have hfz16_2 := blk_frozen BK263.out 2; have hfz16_3 := blk_frozen BK263.out 3; have hfz16_4 := blk_frozen BK263.out 4; have hfz16_5 := blk_frozen BK263.out 5; have hfz16_6 := blk_frozen BK263.out 6; have hfz16_7 := blk_frozen BK263.out 7; obtain ⟨Ao17, co17, eo17⟩ := Kd.R_slice HO248.out; subst eo17; obtain ⟨Ao18, co18, eo18⟩ := Kd.R_slice HO251.out; subst eo18; obtain ⟨Ao19, co19, eo19⟩ := Kd.N_slice HO254.out; subst eo19; obtain ⟨Ao20, co20, eo20⟩ := Kd.N_slice HO257.out; subst eo20; obtain ⟨Ao21, co21, eo21⟩ := Kd.R_slice HO260.out; subst eo21) | ((with_reducible refine gate_callee (f := 27) rfl ?_); refine goesL_ (some 30) rfl rfl Try.func27 (by kernel_rfl) rfl #[.agg #[.int .i64 t244, .int .i64 t245, .slice Ao17 t246.length co17, .slice Ao18 t249.length co18, .slice Ao19 t252.length co19, .slice Ao20 t255.length co20, .slice Ao21 t258.length co21, .bool t261]] rfl (by (try simp only [List.map_toArray, List.map_cons, List.map_nil]); first | done | rfl | (simp only [List.length_drop, List.length_take]; rfl)) ?_; (with_reducible refine (ref15_Valid.calls t244 t245 _ _ t246 _ _ t249 _ _ t252 _ _ t255 _ _ t258 t261 true _ ?side1 ?side2 ?side3 ?side4 ?side5 ?side6 ?side7 ?side8 ?side9 ?side10 A10.out).mono ?_); (case side1 => refine (Kd.R_reads' (e := 5) (base := w.heap.size) (ok := fun k_ => True) (n := t246.length) (c := co17) ?_).2.2; exact (by (with_reducible repeat (first | apply Kd.R_alloc | apply Kd.R_drewN | apply Kd.R_drew)); exact (Kd.R_mono (Kd.R_far (p := ⟨gb263, 7, none⟩) (Kd.R_far (p := ⟨gb263, 6, none⟩) (Kd.R_far (p := ⟨gb263, 5, none⟩) (Kd.R_far (p := ⟨gb263, 4, none⟩) (Kd.R_far (p := ⟨gb263, 3, none⟩) (Kd.R_far (p := ⟨gb263, 2, none⟩) (Kd.R_far (p := ⟨gb263, 1, none⟩) (Kd.R_far (p := ⟨gb263, 0, none⟩) (Kd.R_types HO248.out BK263.out (by decide)) (fun _ hk => hk.2) (.int .i64 t244)) (fun _ hk => hk.2) (.int .i64 t245)) (fun _ hk => hk.2) (.slice Ao17 t246.length co17)) (fun _ hk => hk.2) (.slice Ao18 t249.length co18)) (fun _ hk => hk.2) (.slice Ao19 t252.length co19)) (fun _ hk => hk.2) (.slice Ao20 t255.length co20)) (fun _ hk => hk.2) (.slice Ao21 t258.length co21)) (fun _ hk => hk.2) (.bool t261)) (fun _ h_ => h_.1)))); (case side2 => exact (Kd.R_reads' HO248.out).2.1); (case side3 => refine (Kd.R_reads' (e := 3) (base := w.heap.size) (ok := fun k_ => some k_ ≠ (.slice Ao21 t258.length co21 : Value).ownBlock) (n := t249.length) (c := co18) ?_).2.2; exact (by (with_reducible repeat (first | apply Kd.R_alloc | apply Kd.R_drewN | apply Kd.R_drew)); exact (Kd.R_mono (Kd.R_far (p := ⟨gb263, 7, none⟩) (Kd.R_far (p := ⟨gb263, 6, none⟩) (Kd.R_far (p := ⟨gb263, 5, none⟩) (Kd.R_far (p := ⟨gb263, 4, none⟩) (Kd.R_far (p := ⟨gb263, 3, none⟩) (Kd.R_far (p := ⟨gb263, 2, none⟩) (Kd.R_far (p := ⟨gb263, 1, none⟩) (Kd.R_far (p := ⟨gb263, 0, none⟩) (Kd.R_types HO251.out BK263.out (by decide)) (fun _ hk => hk.2) (.int .i64 t244)) (fun _ hk => hk.2) (.int .i64 t245)) (fun _ hk => hk.2) (.slice Ao17 t246.length co17)) (fun _ hk => hk.2) (.slice Ao18 t249.length co18)) (fun _ hk => hk.2) (.slice Ao19 t252.length co19)) (fun _ hk => hk.2) (.slice Ao20 t255.length co20)) (fun _ hk => hk.2) (.slice Ao21 t258.length co21)) (fun _ hk => hk.2) (.bool t261)) (fun _ h_ => h_.1)))); (case side4 => exact (Kd.R_reads' HO251.out).2.1); (case side5 => refine (Kd.N_reads' (e := 101) (base := w.heap.size) (ok := fun k_ => ((some k_ ≠ (.slice Ao17 t246.length co17 : Value).ownBlock ∧ (some k_ ≠ (.slice Ao18 t249.length co18 : Value).ownBlock ∧ (some k_ ≠ (.slice Ao20 t255.length co20 : Value).ownBlock ∧ (some k_ ≠ (.slice Ao21 t258.length co21 : Value).ownBlock ∧ (some k_ ≠ (u4 : Value).ownBlock ∧ k_ ≠ g241))))) ∧ k_ ≠ gb263)) (n := t252.length) (c := co19) ?_).2.2; exact (by (with_reducible repeat (first | apply Kd.N_alloc | apply Kd.N_drewN | apply Kd.N_drew)); exact (Kd.N_mono (Kd.N_far (p := ⟨gb263, 7, none⟩) (Kd.N_far (p := ⟨gb263, 6, none⟩) (Kd.N_far (p := ⟨gb263, 5, none⟩) (Kd.N_far (p := ⟨gb263, 4, none⟩) (Kd.N_far (p := ⟨gb263, 3, none⟩) (Kd.N_far (p := ⟨gb263, 2, none⟩) (Kd.N_far (p := ⟨gb263, 1, none⟩) (Kd.N_far (p := ⟨gb263, 0, none⟩) (Kd.N_mono HO254.out (fun k_ hk => (⟨hk, hk.2⟩ : _ ∧ k_ ≠ gb263))) (fun _ hk => hk.2) (.int .i64 t244)) (fun _ hk => hk.2) (.int .i64 t245)) (fun _ hk => hk.2) (.slice Ao17 t246.length co17)) (fun _ hk => hk.2) (.slice Ao18 t249.length co18)) (fun _ hk => hk.2) (.slice Ao19 t252.length co19)) (fun _ hk => hk.2) (.slice Ao20 t255.length co20)) (fun _ hk => hk.2) (.slice Ao21 t258.length co21)) (fun _ hk => hk.2) (.bool t261)) (fun _ h_ => h_.1)))); (case side6 => exact (Kd.N_reads' HO254.out).2.1); (case side7 => refine (Kd.N_reads' (e := 79) (base := w.heap.size) (ok := fun k_ => ((some k_ ≠ (.slice Ao17 t246.length co17 : Value).ownBlock ∧ (some k_ ≠ (.slice Ao18 t249.length co18 : Value).ownBlock ∧ (some k_ ≠ (.slice Ao19 t252.length co19 : Value).ownBlock ∧ (some k_ ≠ (.slice Ao21 t258.length co21 : Value).ownBlock ∧ (some k_ ≠ (u4 : Value).ownBlock ∧ k_ ≠ g241))))) ∧ k_ ≠ gb263)) (n := t255.length) (c := co20) ?_).2.2; exact (by (with_reducible repeat (first | apply Kd.N_alloc | apply Kd.N_drewN | apply Kd.N_drew)); exact (Kd.N_mono (Kd.N_far (p := ⟨gb263, 7, none⟩) (Kd.N_far (p := ⟨gb263, 6, none⟩) (Kd.N_far (p := ⟨gb263, 5, none⟩) (Kd.N_far (p := ⟨gb263, 4, none⟩) (Kd.N_far (p := ⟨gb263, 3, none⟩) (Kd.N_far (p := ⟨gb263, 2, none⟩) (Kd.N_far (p := ⟨gb263, 1, none⟩) (Kd.N_far (p := ⟨gb263, 0, none⟩) (Kd.N_mono HO257.out (fun k_ hk => (⟨hk, hk.2⟩ : _ ∧ k_ ≠ gb263))) (fun _ hk => hk.2) (.int .i64 t244)) (fun _ hk => hk.2) (.int .i64 t245)) (fun _ hk => hk.2) (.slice Ao17 t246.length co17)) (fun _ hk => hk.2) (.slice Ao18 t249.length co18)) (fun _ hk => hk.2) (.slice Ao19 t252.length co19)) (fun _ hk => hk.2) (.slice Ao20 t255.length co20)) (fun _ hk => hk.2) (.slice Ao21 t258.length co21)) (fun _ hk => hk.2) (.bool t261)) (fun _ h_ => h_.1)))); (case side8 => exact (Kd.N_reads' HO257.out).2.1); (case side9 => refine (Kd.R_reads' (e := 3) (base := w.heap.size) (ok := fun k_ => some k_ ≠ (.slice Ao18 t249.length co18 : Value).ownBlock) (n := t258.length) (c := co21) ?_).2.2; exact (by (with_reducible repeat (first | apply Kd.R_alloc | apply Kd.R_drewN | apply Kd.R_drew)); exact (Kd.R_mono (Kd.R_far (p := ⟨gb263, 7, none⟩) (Kd.R_far (p := ⟨gb263, 6, none⟩) (Kd.R_far (p := ⟨gb263, 5, none⟩) (Kd.R_far (p := ⟨gb263, 4, none⟩) (Kd.R_far (p := ⟨gb263, 3, none⟩) (Kd.R_far (p := ⟨gb263, 2, none⟩) (Kd.R_far (p := ⟨gb263, 1, none⟩) (Kd.R_far (p := ⟨gb263, 0, none⟩) (Kd.R_types HO260.out BK263.out (by decide)) (fun _ hk => hk.2) (.int .i64 t244)) (fun _ hk => hk.2) (.int .i64 t245)) (fun _ hk => hk.2) (.slice Ao17 t246.length co17)) (fun _ hk => hk.2) (.slice Ao18 t249.length co18)) (fun _ hk => hk.2) (.slice Ao19 t252.length co19)) (fun _ hk => hk.2) (.slice Ao20 t255.length co20)) (fun _ hk => hk.2) (.slice Ao21 t258.length co21)) (fun _ hk => hk.2) (.bool t261)) (fun _ h_ => h_.1)))); (case side10 => exact (Kd.R_reads' HO260.out).2.1); rintro e w22 ⟨rfl, hb⟩; refine ⟨_, rfl, ?_⟩; have n0_ := Aside0.mk (Kd.N_below (by (with_reducible repeat (first | apply Kd.N_alloc | apply Kd.N_drewN | apply Kd.N_drew)); exact (Kd.N_mono (Kd.N_far (p := ⟨gb263, 7, none⟩) (Kd.N_far (p := ⟨gb263, 6, none⟩) (Kd.N_far (p := ⟨gb263, 5, none⟩) (Kd.N_far (p := ⟨gb263, 4, none⟩) (Kd.N_far (p := ⟨gb263, 3, none⟩) (Kd.N_far (p := ⟨gb263, 2, none⟩) (Kd.N_far (p := ⟨gb263, 1, none⟩) (Kd.N_far (p := ⟨gb263, 0, none⟩) (Kd.N_mono HO_4.out (fun k_ hk => (⟨hk, hk.2⟩ : _ ∧ k_ ≠ gb263))) (fun _ hk => hk.2) (.int .i64 t244)) (fun _ hk => hk.2) (.int .i64 t245)) (fun _ hk => hk.2) (.slice Ao17 t246.length co17)) (fun _ hk => hk.2) (.slice Ao18 t249.length co18)) (fun _ hk => hk.2) (.slice Ao19 t252.length co19)) (fun _ hk => hk.2) (.slice Ao20 t255.length co20)) (fun _ hk => hk.2) (.slice Ao21 t258.length co21)) (fun _ hk => hk.2) (.bool t261)) (fun _ h_ => h_.1))) hb); have n1_ := Aside0.mk (Kd.R_below (by (with_reducible repeat (first | apply Kd.R_alloc | apply Kd.R_drewN | apply Kd.R_drew)); exact (Kd.R_mono (Kd.R_far (p := ⟨gb263, 7, none⟩) (Kd.R_far (p := ⟨gb263, 6, none⟩) (Kd.R_far (p := ⟨gb263, 5, none⟩) (Kd.R_far (p := ⟨gb263, 4, none⟩) (Kd.R_far (p := ⟨gb263, 3, none⟩) (Kd.R_far (p := ⟨gb263, 2, none⟩) (Kd.R_far (p := ⟨gb263, 1, none⟩) (Kd.R_far (p := ⟨gb263, 0, none⟩) (Kd.R_types HO248.out BK263.out (by decide)) (fun _ hk => hk.2) (.int .i64 t244)) (fun _ hk => hk.2) (.int .i64 t245)) (fun _ hk => hk.2) (.slice Ao17 t246.length co17)) (fun _ hk => hk.2) (.slice Ao18 t249.length co18)) (fun _ hk => hk.2) (.slice Ao19 t252.length co19)) (fun _ hk => hk.2) (.slice Ao20 t255.length co20)) (fun _ hk => hk.2) (.slice Ao21 t258.length co21)) (fun _ hk => hk.2) (.bool t261)) (fun _ h_ => h_.1))) hb); have n2_ := Aside0.mk (Kd.R_below (by (with_reducible repeat (first | apply Kd.R_alloc | apply Kd.R_drewN | apply Kd.R_drew)); exact (Kd.R_mono (Kd.R_far (p := ⟨gb263, 7, none⟩) (Kd.R_far (p := ⟨gb263, 6, none⟩) (Kd.R_far (p := ⟨gb263, 5, none⟩) (Kd.R_far (p := ⟨gb263, 4, none⟩) (Kd.R_far (p := ⟨gb263, 3, none⟩) (Kd.R_far (p := ⟨gb263, 2, none⟩) (Kd.R_far (p := ⟨gb263, 1, none⟩) (Kd.R_far (p := ⟨gb263, 0, none⟩) (Kd.R_types HO251.out BK263.out (by decide)) (fun _ hk => hk.2) (.int .i64 t244)) (fun _ hk => hk.2) (.int .i64 t245)) (fun _ hk => hk.2) (.slice Ao17 t246.length co17)) (fun _ hk => hk.2) (.slice Ao18 t249.length co18)) (fun _ hk => hk.2) (.slice Ao19 t252.length co19)) (fun _ hk => hk.2) (.slice Ao20 t255.length co20)) (fun _ hk => hk.2) (.slice Ao21 t258.length co21)) (fun _ hk => hk.2) (.bool t261)) (fun _ h_ => h_.1))) hb); have n3_ := Aside0.mk (Kd.N_below (by (with_reducible repeat (first | apply Kd.N_alloc | apply Kd.N_drewN | apply Kd.N_drew)); exact (Kd.N_mono (Kd.N_far (p := ⟨gb263, 7, none⟩) (Kd.N_far (p := ⟨gb263, 6, none⟩) (Kd.N_far (p := ⟨gb263, 5, none⟩) (Kd.N_far (p := ⟨gb263, 4, none⟩) (Kd.N_far (p := ⟨gb263, 3, none⟩) (Kd.N_far (p := ⟨gb263, 2, none⟩) (Kd.N_far (p := ⟨gb263, 1, none⟩) (Kd.N_far (p := ⟨gb263, 0, none⟩) (Kd.N_mono HO254.out (fun k_ hk => (⟨hk, hk.2⟩ : _ ∧ k_ ≠ gb263))) (fun _ hk => hk.2) (.int .i64 t244)) (fun _ hk => hk.2) (.int .i64 t245)) (fun _ hk => hk.2) (.slice Ao17 t246.length co17)) (fun _ hk => hk.2) (.slice Ao18 t249.length co18)) (fun _ hk => hk.2) (.slice Ao19 t252.length co19)) (fun _ hk => hk.2) (.slice Ao20 t255.length co20)) (fun _ hk => hk.2) (.slice Ao21 t258.length co21)) (fun _ hk => hk.2) (.bool t261)) (fun _ h_ => h_.1))) hb); have n4_ := Aside0.mk (Kd.N_below (by (with_reducible repeat (first | apply Kd.N_alloc | apply Kd.N_drewN | apply Kd.N_drew)); exact (Kd.N_mono (Kd.N_far (p := ⟨gb263, 7, none⟩) (Kd.N_far (p := ⟨gb263, 6, none⟩) (Kd.N_far (p := ⟨gb263, 5, none⟩) (Kd.N_far (p := ⟨gb263, 4, none⟩) (Kd.N_far (p := ⟨gb263, 3, none⟩) (Kd.N_far (p := ⟨gb263, 2, none⟩) (Kd.N_far (p := ⟨gb263, 1, none⟩) (Kd.N_far (p := ⟨gb263, 0, none⟩) (Kd.N_mono HO257.out (fun k_ hk => (⟨hk, hk.2⟩ : _ ∧ k_ ≠ gb263))) (fun _ hk => hk.2) (.int .i64 t244)) (fun _ hk => hk.2) (.int .i64 t245)) (fun _ hk => hk.2) (.slice Ao17 t246.length co17)) (fun _ hk => hk.2) (.slice Ao18 t249.length co18)) (fun _ hk => hk.2) (.slice Ao19 t252.length co19)) (fun _ hk => hk.2) (.slice Ao20 t255.length co20)) (fun _ hk => hk.2) (.slice Ao21 t258.length co21)) (fun _ hk => hk.2) (.bool t261)) (fun _ h_ => h_.1))) hb); have n5_ := Aside0.mk (Kd.R_below (by (with_reducible repeat (first | apply Kd.R_alloc | apply Kd.R_drewN | apply Kd.R_drew)); exact (Kd.R_mono (Kd.R_far (p := ⟨gb263, 7, none⟩) (Kd.R_far (p := ⟨gb263, 6, none⟩) (Kd.R_far (p := ⟨gb263, 5, none⟩) (Kd.R_far (p := ⟨gb263, 4, none⟩) (Kd.R_far (p := ⟨gb263, 3, none⟩) (Kd.R_far (p := ⟨gb263, 2, none⟩) (Kd.R_far (p := ⟨gb263, 1, none⟩) (Kd.R_far (p := ⟨gb263, 0, none⟩) (Kd.R_types HO260.out BK263.out (by decide)) (fun _ hk => hk.2) (.int .i64 t244)) (fun _ hk => hk.2) (.int .i64 t245)) (fun _ hk => hk.2) (.slice Ao17 t246.length co17)) (fun _ hk => hk.2) (.slice Ao18 t249.length co18)) (fun _ hk => hk.2) (.slice Ao19 t252.length co19)) (fun _ hk => hk.2) (.slice Ao20 t255.length co20)) (fun _ hk => hk.2) (.slice Ao21 t258.length co21)) (fun _ hk => hk.2) (.bool t261)) (fun _ h_ => h_.1))) hb); have n6_ := Aside0.mk (IsS84.below (show IsS84 w ((((((((w14.setCell ⟨gb263, 0, none⟩ (.int .i64 t244)).setCell ⟨gb263, 1, none⟩ (.int .i64 t245)).setCell ⟨gb263, 2, none⟩ (.slice Ao17 t246.length co17)).setCell ⟨gb263, 3, none⟩ (.slice Ao18 t249.length co18)).setCell ⟨gb263, 4, none⟩ (.slice Ao19 t252.length co19)).setCell ⟨gb263, 5, none⟩ (.slice Ao20 t255.length co20)).setCell ⟨gb263, 6, none⟩ (.slice Ao21 t258.length co21)).setCell ⟨gb263, 7, none⟩ (.bool t261)) g241 t239 t262 from by repeat (first | (with_reducible first | exact HI241.out | apply IsS84.alloc | apply IsS84.drewN | apply IsS84.drew | apply IsS84.set_1 | refine IsS84.far ?_ NB241_263.out _) | exact HI241.out)) hb); have n7_ := Aside0.mk (blk_below (g := gb263) (o := .cells #[.int .i64 t244, .int .i64 t245, .slice Ao17 t246.length co17, .slice Ao18 t249.length co18, .slice Ao19 t252.length co19, .slice Ao20 t255.length co20, .slice Ao21 t258.length co21, .bool t261] 31 (0, 0)) (by (with_reducible repeat (first | refine blk_drewN ?_ _ | refine blk_drew ?_ | refine blk_alloc ?_ _)); refine blk_put (cs := #[.int .i64 t244, .int .i64 t245, .slice Ao17 t246.length co17, .slice Ao18 t249.length co18, .slice Ao19 t252.length co19, .slice Ao20 t255.length co20, .slice Ao21 t258.length co21, .bool false]) ?_ 7 _ rfl; (with_reducible repeat (first | refine blk_drewN ?_ _ | refine blk_drew ?_ | refine blk_alloc ?_ _)); refine blk_put (cs := #[.int .i64 t244, .int .i64 t245, .slice Ao17 t246.length co17, .slice Ao18 t249.length co18, .slice Ao19 t252.length co19, .slice Ao20 t255.length co20, .slice none 0 0, .bool false]) ?_ 6 _ rfl; (with_reducible repeat (first | refine blk_drewN ?_ _ | refine blk_drew ?_ | refine blk_alloc ?_ _)); refine blk_put (cs := #[.int .i64 t244, .int .i64 t245, .slice Ao17 t246.length co17, .slice Ao18 t249.length co18, .slice Ao19 t252.length co19, .slice none 0 0, .slice none 0 0, .bool false]) ?_ 5 _ rfl; (with_reducible repeat (first | refine blk_drewN ?_ _ | refine blk_drew ?_ | refine blk_alloc ?_ _)); refine blk_put (cs := #[.int .i64 t244, .int .i64 t245, .slice Ao17 t246.length co17, .slice Ao18 t249.length co18, .slice none 0 0, .slice none 0 0, .slice none 0 0, .bool false]) ?_ 4 _ rfl; (with_reducible repeat (first | refine blk_drewN ?_ _ | refine blk_drew ?_ | refine blk_alloc ?_ _)); refine blk_put (cs := #[.int .i64 t244, .int .i64 t245, .slice Ao17 t246.length co17, .slice none 0 0, .slice none 0 0, .slice none 0 0, .slice none 0 0, .bool false]) ?_ 3 _ rfl; (with_reducible repeat (first | refine blk_drewN ?_ _ | refine blk_drew ?_ | refine blk_alloc ?_ _)); refine blk_put (cs := #[.int .i64 t244, .int .i64 t245, .slice none 0 0, .slice none 0 0, .slice none 0 0, .slice none 0 0, .slice none 0 0, .bool false]) ?_ 2 _ rfl; (with_reducible repeat (first | refine blk_drewN ?_ _ | refine blk_drew ?_ | refine blk_alloc ?_ _)); refine blk_put (cs := #[.int .i64 t244, .int .i64 0, .slice none 0 0, .slice none 0 0, .slice none 0 0, .slice none 0 0, .slice none 0 0, .bool false]) ?_ 1 _ rfl; (with_reducible repeat (first | refine blk_drewN ?_ _ | refine blk_drew ?_ | refine blk_alloc ?_ _)); refine blk_put (cs := #[.int .i64 0, .int .i64 0, .slice none 0 0, .slice none 0 0, .slice none 0 0, .slice none 0 0, .slice none 0 0, .bool false]) ?_ 0 _ rfl; (with_reducible repeat (first | refine blk_drewN ?_ _ | refine blk_drew ?_ | refine blk_alloc ?_ _)); exact BK263.out) hb); have n8_ := Aside0.mk (below_step (by repeat (first | (with_reducible first | exact HB.out | apply below_alloc | apply pw_below_drewN | apply below_drew1 | refine below_set ?_ (IsS84.ge HI241.out) | refine below_set ?_ GE263.out) | exact HB.out)) hb); clear HO_4 HO248 HO251 HO254 HO257 HO260 HI241 BK263 HB; have HO_4 := n0_; have HO248 := n1_; have HO251 := n2_; have HO254 := n3_; have HO257 := n4_; have HO260 := n5_; have HI241 := n6_; have BK263 := n7_; have HB := n8_; clear n0_ n1_ n2_ n3_ n4_ n5_ n6_ n7_ n8_; (try clear hb); (try clear hb2); (try clear hk); (try clear hi); have hcz23_0 : w22.cell? ⟨gb263, 0, none⟩ = some (.int .i64 t244) := (blk_cell BK263.out 0).trans rfl; have hcz23_1 : w22.cell? ⟨gb263, 1, none⟩ = some (.int .i64 t245) := (blk_cell BK263.out 1).trans rfl; have hcz23_2 : w22.cell? ⟨gb263, 2, none⟩ = some (.slice Ao17 t246.length co17) := (blk_cell BK263.out 2).trans rfl; have hcz23_3 : w22.cell? ⟨gb263, 3, none⟩ = some (.slice Ao18 t249.length co18) := (blk_cell BK263.out 3).trans rfl; have hcz23_4 : w22.cell? ⟨gb263, 4, none⟩ = some (.slice Ao19 t252.length co19) := (blk_cell BK263.out 4).trans rfl; have hcz23_5 : w22.cell? ⟨gb263, 5, none⟩ = some (.slice Ao20 t255.length co20) := (blk_cell BK263.out 5).trans rfl; have hcz23_6 : w22.cell? ⟨gb263, 6, none⟩ = some (.slice Ao21 t258.length co21) := (blk_cell BK263.out 6).trans rfl; have hcz23_7 : w22.cell? ⟨gb263, 7, none⟩ = some (.bool t261) := (blk_cell BK263.out 7).trans rfl; have hfz23_0 := blk_frozen BK263.out 0; have hfz23_1 := blk_frozen BK263.out 1; have hfz23_2 := blk_frozen BK263.out 2; have hfz23_3 := blk_frozen BK263.out 3; have hfz23_4 := blk_frozen BK263.out 4; have hfz23_5 := blk_frozen BK263.out 5; have hfz23_6 := blk_frozen BK263.out 6; have hfz23_7 := blk_frozen BK263.out 7) | ((with_reducible refine gate_builtin (b := .append) (xs := #[.tmp 31, .tmp 33]) rfl ?_); (try (refine gate_guard (by rfl) ?_; dsimp only)); at_builtin; refine Kd.N_append k31 (w0 := w) w.heap.size rfl (.tmp 31) (.tmp 33) 22 31 (.agg #[(.int .i64 0), (.int .i64 0), (.slice none 0 0), (.slice none 0 0), (.slice none 0 0), (.slice none 0 0), (.slice none 0 0), (.bool false)]) 144 rfl Try.underlying22 info31 rfl (by decide) (by omega) u4 x4_1 (⟨t244, t245, t246, t249, t252, t255, t258, t261⟩ : S31) [.int .i64 t244, .int .i64 t245, .slice Ao17 t246.length co17, .slice Ao18 t249.length co18, .slice Ao19 t252.length co19, .slice Ao20 t255.length co20, .slice Ao21 t258.length co21, .bool t261] (fun k_ => k_ ≠ gb263 ∧ k_ ≠ g241) (fun k_ => ((fun k_ => k_ ≠ gb263 ∧ k_ ≠ g241)) k_ ∧ some k_ ≠ (u4 : Value).ownBlock) rfl rfl ?aP (fun _ hk => hk) ?aF ?aO ?aB ?aS ?aL ?_; (case aP => exact (k31_mkF _ _ (⟨t244, t245, t246, t249, t252, t255, t258, t261⟩ : S31) (Kd.R_reads' (Kd.R_mono (ok' := (fun k_ => ((fun k_ => k_ ≠ gb263 ∧ k_ ≠ g241)) k_ ∧ some k_ ≠ (u4 : Value).ownBlock)) (IsS84.apart HI241.out (Kd.R_types (Kd.R_apart' (HO248.out) (Kd.N_typed HO_4.out) (by decide)) BK263.out (by decide)) (by decide)) (fun k_ hk => ⟨⟨hk.1.2, hk.2⟩, hk.1.1.2⟩))).2.1 (Kd.R_F (Kd.R_mono (ok' := (fun k_ => ((fun k_ => k_ ≠ gb263 ∧ k_ ≠ g241)) k_ ∧ some k_ ≠ (u4 : Value).ownBlock)) (IsS84.apart HI241.out (Kd.R_types (Kd.R_apart' (HO248.out) (Kd.N_typed HO_4.out) (by decide)) BK263.out (by decide)) (by decide)) (fun k_ hk => ⟨⟨hk.1.2, hk.2⟩, hk.1.1.2⟩))) (Kd.R_reads' (Kd.R_mono (ok' := (fun k_ => ((fun k_ => k_ ≠ gb263 ∧ k_ ≠ g241)) k_ ∧ some k_ ≠ (u4 : Value).ownBlock)) (IsS84.apart HI241.out (Kd.R_types (Kd.R_apart' (HO251.out) (Kd.N_typed HO_4.out) (by decide)) BK263.out (by decide)) (by decide)) (fun k_ hk => ⟨⟨hk.1.2, hk.2⟩, hk.1.1.2⟩))).2.1 (Kd.R_F (Kd.R_mono (ok' := (fun k_ => ((fun k_ => k_ ≠ gb263 ∧ k_ ≠ g241)) k_ ∧ some k_ ≠ (u4 : Value).ownBlock)) (IsS84.apart HI241.out (Kd.R_types (Kd.R_apart' (HO251.out) (Kd.N_typed HO_4.out) (by decide)) BK263.out (by decide)) (by decide)) (fun k_ hk => ⟨⟨hk.1.2, hk.2⟩, hk.1.1.2⟩))) (Kd.N_reads' (Kd.N_mono (ok' := (fun k_ => ((fun k_ => k_ ≠ gb263 ∧ k_ ≠ g241)) k_ ∧ some k_ ≠ (u4 : Value).ownBlock)) (HO254.out) (fun k_ hk => ⟨⟨hk.2, hk.1.2.2.2.2.2⟩, hk.1.2.2.2.2.1⟩))).2.1 (Kd.N_F (Kd.N_mono (ok' := (fun k_ => ((fun k_ => k_ ≠ gb263 ∧ k_ ≠ g241)) k_ ∧ some k_ ≠ (u4 : Value).ownBlock)) (HO254.out) (fun k_ hk => ⟨⟨hk.2, hk.1.2.2.2.2.2⟩, hk.1.2.2.2.2.1⟩))) (Kd.N_reads' (Kd.N_mono (ok' := (fun k_ => ((fun k_ => k_ ≠ gb263 ∧ k_ ≠ g241)) k_ ∧ some k_ ≠ (u4 : Value).ownBlock)) (HO257.out) (fun k_ hk => ⟨⟨hk.2, hk.1.2.2.2.2.2⟩, hk.1.2.2.2.2.1⟩))).2.1 (Kd.N_F (Kd.N_mono (ok' := (fun k_ => ((fun k_ => k_ ≠ gb263 ∧ k_ ≠ g241)) k_ ∧ some k_ ≠ (u4 : Value).ownBlock)) (HO257.out) (fun k_ hk => ⟨⟨hk.2, hk.1.2.2.2.2.2⟩, hk.1.2.2.2.2.1⟩))) (Kd.R_reads' (Kd.R_mono (ok' := (fun k_ => ((fun k_ => k_ ≠ gb263 ∧ k_ ≠ g241)) k_ ∧ some k_ ≠ (u4 : Value).ownBlock)) (IsS84.apart HI241.out (Kd.R_types (Kd.R_apart' (HO260.out) (Kd.N_typed HO_4.out) (by decide)) BK263.out (by decide)) (by decide)) (fun k_ hk => ⟨⟨hk.1.2, hk.2⟩, hk.1.1.2⟩))).2.1 (Kd.R_F (Kd.R_mono (ok' := (fun k_ => ((fun k_ => k_ ≠ gb263 ∧ k_ ≠ g241)) k_ ∧ some k_ ≠ (u4 : Value).ownBlock)) (IsS84.apart HI241.out (Kd.R_types (Kd.R_apart' (HO260.out) (Kd.N_typed HO_4.out) (by decide)) BK263.out (by decide)) (by decide)) (fun k_ hk => ⟨⟨hk.1.2, hk.2⟩, hk.1.1.2⟩))))); (case aB => exact (by repeat (first | (with_reducible first | exact HB.out | apply below_alloc | apply pw_below_drewN | apply below_drew1 | refine below_set ?_ (IsS84.ge HI241.out) | refine below_set ?_ GE263.out) | exact HB.out))); (case aF => exact (fun k_ hk => ⟨Kd.freshB (g := gb263) (o := .cells #[.int .i64 t244, .int .i64 t245, .slice Ao17 t246.length co17, .slice Ao18 t249.length co18, .slice Ao19 t252.length co19, .slice Ao20 t255.length co20, .slice Ao21 t258.length co21, .bool t261] 31 (0, 0)) (bk_ BK263.out) k_ hk, IsS84.fresh (by repeat (first | (with_reducible first | exact HI241.out | apply IsS84.alloc | apply IsS84.drewN | apply IsS84.drew | apply IsS84.set_1 | refine IsS84.far ?_ NB241_263.out _) | exact HI241.out)) k_ hk⟩)); (case aO => exact (by (with_reducible repeat (first | apply Kd.N_alloc | apply Kd.N_drewN | apply Kd.N_drew)); exact Kd.N_mono HO_4.out (fun _ hk => ⟨hk.2, hk.1.1.1.1.1.1⟩))); (case aS => exact (below_size (by repeat (first | (with_reducible first | exact HB.out | apply below_alloc | apply pw_below_drewN | apply below_drew1 | refine below_set ?_ (IsS84.ge HI241.out) | refine below_set ?_ GE263.out) | exact HB.out)))); (case aL => have := LMc12.out; omega); intro v266 w24 ho hb hg hat; rw [← Ny265.out] at ho; have n0_ := Aside0.mk (IsS84.grown (by repeat (first | (with_reducible first | exact HI241.out | apply IsS84.alloc | apply IsS84.drewN | apply IsS84.drew | apply IsS84.set_1 | refine IsS84.far ?_ NB241_263.out _) | exact HI241.out)) hg (IsS84.own_neN HI241.out HO_4.out (by decide))); have n1_ := Aside0.mk (blk_grown (g := gb263) (o := .cells #[.int .i64 t244, .int .i64 t245, .slice Ao17 t246.length co17, .slice Ao18 t249.length co18, .slice Ao19 t252.length co19, .slice Ao20 t255.length co20, .slice Ao21 t258.length co21, .bool t261] 31 (0, 0)) (bk_ BK263.out) hg (Kd.N_away HO_4.out (fun _ hk => hk.2))); have n2_ := Aside0.mk (hb); have n3_ := Aside0.mk (ho); clear HI241 BK263 HB HO_4 HO248 HO251 HO254 HO257 HO260; have HI241 := n0_; have BK263 := n1_; have HB := n2_; have HO267 := n3_; clear n0_ n1_ n2_ n3_ ho hb hg hat))
      go_roundg k1
      case measure => have := HK1.out; omega
      case rel => exact ⟨(y265), (wrap64 (x5_1 - 1)), (t262), (by first | rfl | (simp; done) | (simp [*]; done)), H', ⟨by have := HK1.out; omega⟩, ⟨by (with_reducible repeat (first | apply Kd.N_alloc | apply Kd.N_drewN | apply Kd.N_drew)); exact Kd.N_mono HO267.out (fun _ hk => hk.2)⟩, ⟨by repeat (first | (with_reducible first | exact HI241.out | apply IsS84.alloc | apply IsS84.drewN | apply IsS84.drew | apply IsS84.set_1 | refine IsS84.far ?_ NB241_263.out _) | exact HI241.out)⟩, ⟨by repeat (first | (with_reducible first | exact HB.out | apply below_alloc | apply pw_below_drewN | apply below_drew1 | refine below_set ?_ (IsS84.ge HI241.out) | refine below_set ?_ GE263.out) | exact HB.out)⟩⟩
     ·
      replace c11 := Bool.eq_false_iff.mpr c11
      subst c11
      have H1 : (law16_ProductSpares.l0 k1 x4_1 (wrap64 (x5_1 - 1)) t239 t262) = some r := by rw [if_neg (show ¬ (false = true) by decide)] at H; exact H
      clear H
      have H := H1
      clear H1
      have H' := Aside0.mk H
      clear H
      go_wp2_with (first | ((with_reducible refine gate_callee (f := 22) rfl ?_); refine goesL_ (some 28) rfl rfl Try.func22 (by kernel_rfl) rfl #[.pointer (some ⟨g241, 0, none⟩)] rfl (by (try simp only [List.map_toArray, List.map_cons, List.map_nil]); first | done | rfl | (simp only [List.length_drop, List.length_take]; rfl)) ?_; (with_reducible refine (made_Dice_Layout.calls k1 g241 t239 x242001_1 t244 t245 t246 t249 t252 t255 t258 t261 t262 w _ ?side1 ?side2 A9.out).mono ?_); (case side1 => repeat (first | (with_reducible first | exact HI241.out | apply IsS84.alloc | apply IsS84.drewN | apply IsS84.drew | apply IsS84.set_1) | exact HI241.out)); (case side2 => repeat (first | (with_reducible first | exact HB.out | apply below_alloc | apply pw_below_drewN | apply below_drew1 | refine below_set ?_ (IsS84.ge HI241.out)) | exact HB.out)); rintro e w25 ⟨v247, v250, v253, v256, v259, rfl, ho0, ho1, ho2, ho3, ho4, hi, hb, hk⟩; refine ⟨_, rfl, ?_⟩; have n0_ := Aside0.mk (Kd.N_mono (Kd.N_told (Kd.N_told (Kd.N_told (Kd.N_told (Kd.N_told (Kd.N_oldK (Kd.N_mono (ok := fun k_ => k_ ≠ g241) (kN_ HO_4.out) (fun k_ hk_ => (⟨hk_, hk_⟩ : _ ∧ k_ ≠ g241))) hk) (Kd.R_base ho0)) (Kd.R_base ho1)) (by first | exact Kd.N_base ho2 | exact Kd.R_base ho2)) (by first | exact Kd.N_base ho3 | exact Kd.R_base ho3)) (Kd.R_base ho4)) (fun _ h_ => h_.1)); have n1_ := Aside0.mk (Kd.R_lower (Kd.R_mono (ok' := fun k_ => True) ho0 (fun _ hk_ => trivial)) (below_size (by repeat (first | (with_reducible first | exact HB.out | apply below_alloc | apply pw_below_drewN | apply below_drew1 | refine below_set ?_ (IsS84.ge HI241.out)) | exact HB.out)))); have n2_ := Aside0.mk (Kd.R_lower (Kd.R_mono (ok' := fun k_ => some k_ ≠ (v259 : Value).ownBlock) ho1 (fun _ hk_ => hk_.2)) (below_size (by repeat (first | (with_reducible first | exact HB.out | apply below_alloc | apply pw_below_drewN | apply below_drew1 | refine below_set ?_ (IsS84.ge HI241.out)) | exact HB.out)))); have n3_ := Aside0.mk (Kd.N_lower (Kd.N_mono (ok' := fun k_ => some k_ ≠ (v247 : Value).ownBlock ∧ some k_ ≠ (v250 : Value).ownBlock ∧ some k_ ≠ (v256 : Value).ownBlock ∧ some k_ ≠ (v259 : Value).ownBlock ∧ some k_ ≠ (u4 : Value).ownBlock ∧ k_ ≠ g241) ho2 (fun k_ hk_ => ⟨hk_.2.1, hk_.2.2.1, hk_.2.2.2.1, hk_.2.2.2.2, (Kd.fresh' (Kd.N_lt (kN_ HO_4.out)) k_ hk_.1), (IsS84.fresh (by repeat (first | (with_reducible first | exact HI241.out | apply IsS84.alloc | apply IsS84.drewN | apply IsS84.drew | apply IsS84.set_1) | exact HI241.out)) k_ hk_.1)⟩)) (below_size (by repeat (first | (with_reducible first | exact HB.out | apply below_alloc | apply pw_below_drewN | apply below_drew1 | refine below_set ?_ (IsS84.ge HI241.out)) | exact HB.out)))); have n4_ := Aside0.mk (Kd.N_lower (Kd.N_mono (ok' := fun k_ => some k_ ≠ (v247 : Value).ownBlock ∧ some k_ ≠ (v250 : Value).ownBlock ∧ some k_ ≠ (v253 : Value).ownBlock ∧ some k_ ≠ (v259 : Value).ownBlock ∧ some k_ ≠ (u4 : Value).ownBlock ∧ k_ ≠ g241) ho3 (fun k_ hk_ => ⟨hk_.2.1, hk_.2.2.1, hk_.2.2.2.1, hk_.2.2.2.2, (Kd.fresh' (Kd.N_lt (kN_ HO_4.out)) k_ hk_.1), (IsS84.fresh (by repeat (first | (with_reducible first | exact HI241.out | apply IsS84.alloc | apply IsS84.drewN | apply IsS84.drew | apply IsS84.set_1) | exact HI241.out)) k_ hk_.1)⟩)) (below_size (by repeat (first | (with_reducible first | exact HB.out | apply below_alloc | apply pw_below_drewN | apply below_drew1 | refine below_set ?_ (IsS84.ge HI241.out)) | exact HB.out)))); have n5_ := Aside0.mk (Kd.R_lower (Kd.R_mono (ok' := fun k_ => some k_ ≠ (v250 : Value).ownBlock) ho4 (fun _ hk_ => hk_.2)) (below_size (by repeat (first | (with_reducible first | exact HB.out | apply below_alloc | apply pw_below_drewN | apply below_drew1 | refine below_set ?_ (IsS84.ge HI241.out)) | exact HB.out)))); have n6_ := Aside0.mk (hb); have n7_ := Aside0.mk (hi); clear HO_4 HB HI241; have HO_4 := n0_; have HO248 := n1_; have HO251 := n2_; have HO254 := n3_; have HO257 := n4_; have HO260 := n5_; have HB := n6_; have HI241 := n7_; clear n0_ n1_ n2_ n3_ n4_ n5_ n6_ n7_; (try clear hb); (try clear hb2); (try clear hk); (try clear hi); (try clear ho0); (try clear ho1); (try clear ho2); (try clear ho3); (try clear ho4)) | ((with_reducible refine gate_dst (N := 6) rfl ?_); (try (refine gate_guard (by rfl) ?_; dsimp only)); refine box_event ?hg (N := 6) ?hd (cs := #[.int .i64 0, .int .i64 0, .slice none 0 0, .slice none 0 0, .slice none 0 0, .slice none 0 0, .slice none 0 0, .bool false]) (t := 31) ?hr ?_; (case hd => rfl); (case hg => rfl); (case hr => first | (go_simp; done) | (go_simp; rfl)); intro gb263 hg w26 hbox hb; have n0_ := Aside0.mk (Kd.N_below (Kd.N_elderB (kN_ HO_4.out) gb263 (Nat.le_of_eq hg.symm)) hb); have n1_ := Aside0.mk (Kd.R_below (kR_ HO248.out) hb); have n2_ := Aside0.mk (Kd.R_below (kR_ HO251.out) hb); have n3_ := Aside0.mk (Kd.N_below (Kd.N_elderB (kN_ HO254.out) gb263 (Nat.le_of_eq hg.symm)) hb); have n4_ := Aside0.mk (Kd.N_below (Kd.N_elderB (kN_ HO257.out) gb263 (Nat.le_of_eq hg.symm)) hb); have n5_ := Aside0.mk (Kd.R_below (kR_ HO260.out) hb); have n6_ := Aside0.mk (IsS84.below (by repeat (first | (with_reducible first | exact HI241.out | apply IsS84.alloc | apply IsS84.drewN | apply IsS84.drew | apply IsS84.set_1) | exact HI241.out)) hb); have n7_ := Aside0.mk (below_step (by repeat (first | (with_reducible first | exact HB.out | apply below_alloc | apply pw_below_drewN | apply below_drew1 | refine below_set ?_ (IsS84.ge HI241.out)) | exact HB.out)) hb); have n8_ := Aside0.mk (hbox); have n9_ := Aside0.mk ((by rw [hg]; exact (below_size (by repeat (first | (with_reducible first | exact HB.out | apply below_alloc | apply pw_below_drewN | apply below_drew1 | refine below_set ?_ (IsS84.ge HI241.out)) | exact HB.out))) : w.heap.size ≤ gb263)); have n10_ := Aside0.mk ((by rw [hg]; exact (below_size (by repeat (first | (with_reducible first | exact HB.out | apply below_alloc | apply pw_below_drewN | apply below_drew1 | refine below_set ?_ (IsS84.ge HI241.out)) | exact HB.out))) : w.heap.size ≤ gb263)); have n11_ := Aside0.mk ((by rw [hg]; exact Nat.ne_of_lt (IsS84.lt (show IsS84 w _ g241 t239 t262 from by repeat (first | (with_reducible first | exact HI241.out | apply IsS84.alloc | apply IsS84.drewN | apply IsS84.drew | apply IsS84.set_1) | exact HI241.out))) : g241 ≠ gb263)); have n12_ := Aside0.mk ((by rw [hg]; exact Nat.ne_of_gt (IsS84.lt (show IsS84 w _ g241 t239 t262 from by repeat (first | (with_reducible first | exact HI241.out | apply IsS84.alloc | apply IsS84.drewN | apply IsS84.drew | apply IsS84.set_1) | exact HI241.out))) : gb263 ≠ g241)); clear HO_4 HO248 HO251 HO254 HO257 HO260 HI241 HB; have HO_4 := n0_; have HO248 := n1_; have HO251 := n2_; have HO254 := n3_; have HO257 := n4_; have HO260 := n5_; have HI241 := n6_; have HB := n7_; have BK263 := n8_; have GW263 := n9_; have GE263 := n10_; have NB241_263 := n11_; have NB263_241 := n12_; clear n0_ n1_ n2_ n3_ n4_ n5_ n6_ n7_ n8_ n9_ n10_ n11_ n12_ hb hbox hg; have hnb27 := NB263_241.out; have hnc27 := NB241_263.out; have hcz28_0 : w26.cell? ⟨gb263, 0, none⟩ = some (.int .i64 0) := (blk_cell BK263.out 0).trans rfl; have hcz28_1 : w26.cell? ⟨gb263, 1, none⟩ = some (.int .i64 0) := (blk_cell BK263.out 1).trans rfl; have hcz28_2 : w26.cell? ⟨gb263, 2, none⟩ = some (.slice none 0 0) := (blk_cell BK263.out 2).trans rfl; have hcz28_3 : w26.cell? ⟨gb263, 3, none⟩ = some (.slice none 0 0) := (blk_cell BK263.out 3).trans rfl; have hcz28_4 : w26.cell? ⟨gb263, 4, none⟩ = some (.slice none 0 0) := (blk_cell BK263.out 4).trans rfl; have hcz28_5 : w26.cell? ⟨gb263, 5, none⟩ = some (.slice none 0 0) := (blk_cell BK263.out 5).trans rfl; have hcz28_6 : w26.cell? ⟨gb263, 6, none⟩ = some (.slice none 0 0) := (blk_cell BK263.out 6).trans rfl; have hcz28_7 : w26.cell? ⟨gb263, 7, none⟩ = some (.bool false) := (blk_cell BK263.out 7).trans rfl; have hfz28_0 := blk_frozen BK263.out 0; have hfz28_1 := blk_frozen BK263.out 1; have hfz28_2 := blk_frozen BK263.out 2; have hfz28_3 := blk_frozen BK263.out 3; have hfz28_4 := blk_frozen BK263.out 4; have hfz28_5 := blk_frozen BK263.out 5; have hfz28_6 := blk_frozen BK263.out 6; have hfz28_7 := blk_frozen BK263.out 7; obtain ⟨Ao29, co29, eo29⟩ := Kd.R_slice HO248.out; subst eo29; obtain ⟨Ao30, co30, eo30⟩ := Kd.R_slice HO251.out; subst eo30; obtain ⟨Ao31, co31, eo31⟩ := Kd.N_slice HO254.out; subst eo31; obtain ⟨Ao32, co32, eo32⟩ := Kd.N_slice HO257.out; subst eo32; obtain ⟨Ao33, co33, eo33⟩ := Kd.R_slice HO260.out; subst eo33) | ((with_reducible refine gate_callee (f := 27) rfl ?_); refine goesL_ (some 30) rfl rfl Try.func27 (by kernel_rfl) rfl #[.agg #[.int .i64 t244, .int .i64 t245, .slice Ao29 t246.length co29, .slice Ao30 t249.length co30, .slice Ao31 t252.length co31, .slice Ao32 t255.length co32, .slice Ao33 t258.length co33, .bool t261]] rfl (by (try simp only [List.map_toArray, List.map_cons, List.map_nil]); first | done | rfl | (simp only [List.length_drop, List.length_take]; rfl)) ?_; (with_reducible refine (ref15_Valid.calls t244 t245 _ _ t246 _ _ t249 _ _ t252 _ _ t255 _ _ t258 t261 false _ ?side1 ?side2 ?side3 ?side4 ?side5 ?side6 ?side7 ?side8 ?side9 ?side10 A10.out).mono ?_); (case side1 => refine (Kd.R_reads' (e := 5) (base := w.heap.size) (ok := fun k_ => True) (n := t246.length) (c := co29) ?_).2.2; exact (by (with_reducible repeat (first | apply Kd.R_alloc | apply Kd.R_drewN | apply Kd.R_drew)); exact (Kd.R_mono (Kd.R_far (p := ⟨gb263, 7, none⟩) (Kd.R_far (p := ⟨gb263, 6, none⟩) (Kd.R_far (p := ⟨gb263, 5, none⟩) (Kd.R_far (p := ⟨gb263, 4, none⟩) (Kd.R_far (p := ⟨gb263, 3, none⟩) (Kd.R_far (p := ⟨gb263, 2, none⟩) (Kd.R_far (p := ⟨gb263, 1, none⟩) (Kd.R_far (p := ⟨gb263, 0, none⟩) (Kd.R_types HO248.out BK263.out (by decide)) (fun _ hk => hk.2) (.int .i64 t244)) (fun _ hk => hk.2) (.int .i64 t245)) (fun _ hk => hk.2) (.slice Ao29 t246.length co29)) (fun _ hk => hk.2) (.slice Ao30 t249.length co30)) (fun _ hk => hk.2) (.slice Ao31 t252.length co31)) (fun _ hk => hk.2) (.slice Ao32 t255.length co32)) (fun _ hk => hk.2) (.slice Ao33 t258.length co33)) (fun _ hk => hk.2) (.bool t261)) (fun _ h_ => h_.1)))); (case side2 => exact (Kd.R_reads' HO248.out).2.1); (case side3 => refine (Kd.R_reads' (e := 3) (base := w.heap.size) (ok := fun k_ => some k_ ≠ (.slice Ao33 t258.length co33 : Value).ownBlock) (n := t249.length) (c := co30) ?_).2.2; exact (by (with_reducible repeat (first | apply Kd.R_alloc | apply Kd.R_drewN | apply Kd.R_drew)); exact (Kd.R_mono (Kd.R_far (p := ⟨gb263, 7, none⟩) (Kd.R_far (p := ⟨gb263, 6, none⟩) (Kd.R_far (p := ⟨gb263, 5, none⟩) (Kd.R_far (p := ⟨gb263, 4, none⟩) (Kd.R_far (p := ⟨gb263, 3, none⟩) (Kd.R_far (p := ⟨gb263, 2, none⟩) (Kd.R_far (p := ⟨gb263, 1, none⟩) (Kd.R_far (p := ⟨gb263, 0, none⟩) (Kd.R_types HO251.out BK263.out (by decide)) (fun _ hk => hk.2) (.int .i64 t244)) (fun _ hk => hk.2) (.int .i64 t245)) (fun _ hk => hk.2) (.slice Ao29 t246.length co29)) (fun _ hk => hk.2) (.slice Ao30 t249.length co30)) (fun _ hk => hk.2) (.slice Ao31 t252.length co31)) (fun _ hk => hk.2) (.slice Ao32 t255.length co32)) (fun _ hk => hk.2) (.slice Ao33 t258.length co33)) (fun _ hk => hk.2) (.bool t261)) (fun _ h_ => h_.1)))); (case side4 => exact (Kd.R_reads' HO251.out).2.1); (case side5 => refine (Kd.N_reads' (e := 101) (base := w.heap.size) (ok := fun k_ => ((some k_ ≠ (.slice Ao29 t246.length co29 : Value).ownBlock ∧ (some k_ ≠ (.slice Ao30 t249.length co30 : Value).ownBlock ∧ (some k_ ≠ (.slice Ao32 t255.length co32 : Value).ownBlock ∧ (some k_ ≠ (.slice Ao33 t258.length co33 : Value).ownBlock ∧ (some k_ ≠ (u4 : Value).ownBlock ∧ k_ ≠ g241))))) ∧ k_ ≠ gb263)) (n := t252.length) (c := co31) ?_).2.2; exact (by (with_reducible repeat (first | apply Kd.N_alloc | apply Kd.N_drewN | apply Kd.N_drew)); exact (Kd.N_mono (Kd.N_far (p := ⟨gb263, 7, none⟩) (Kd.N_far (p := ⟨gb263, 6, none⟩) (Kd.N_far (p := ⟨gb263, 5, none⟩) (Kd.N_far (p := ⟨gb263, 4, none⟩) (Kd.N_far (p := ⟨gb263, 3, none⟩) (Kd.N_far (p := ⟨gb263, 2, none⟩) (Kd.N_far (p := ⟨gb263, 1, none⟩) (Kd.N_far (p := ⟨gb263, 0, none⟩) (Kd.N_mono HO254.out (fun k_ hk => (⟨hk, hk.2⟩ : _ ∧ k_ ≠ gb263))) (fun _ hk => hk.2) (.int .i64 t244)) (fun _ hk => hk.2) (.int .i64 t245)) (fun _ hk => hk.2) (.slice Ao29 t246.length co29)) (fun _ hk => hk.2) (.slice Ao30 t249.length co30)) (fun _ hk => hk.2) (.slice Ao31 t252.length co31)) (fun _ hk => hk.2) (.slice Ao32 t255.length co32)) (fun _ hk => hk.2) (.slice Ao33 t258.length co33)) (fun _ hk => hk.2) (.bool t261)) (fun _ h_ => h_.1)))); (case side6 => exact (Kd.N_reads' HO254.out).2.1); (case side7 => refine (Kd.N_reads' (e := 79) (base := w.heap.size) (ok := fun k_ => ((some k_ ≠ (.slice Ao29 t246.length co29 : Value).ownBlock ∧ (some k_ ≠ (.slice Ao30 t249.length co30 : Value).ownBlock ∧ (some k_ ≠ (.slice Ao31 t252.length co31 : Value).ownBlock ∧ (some k_ ≠ (.slice Ao33 t258.length co33 : Value).ownBlock ∧ (some k_ ≠ (u4 : Value).ownBlock ∧ k_ ≠ g241))))) ∧ k_ ≠ gb263)) (n := t255.length) (c := co32) ?_).2.2; exact (by (with_reducible repeat (first | apply Kd.N_alloc | apply Kd.N_drewN | apply Kd.N_drew)); exact (Kd.N_mono (Kd.N_far (p := ⟨gb263, 7, none⟩) (Kd.N_far (p := ⟨gb263, 6, none⟩) (Kd.N_far (p := ⟨gb263, 5, none⟩) (Kd.N_far (p := ⟨gb263, 4, none⟩) (Kd.N_far (p := ⟨gb263, 3, none⟩) (Kd.N_far (p := ⟨gb263, 2, none⟩) (Kd.N_far (p := ⟨gb263, 1, none⟩) (Kd.N_far (p := ⟨gb263, 0, none⟩) (Kd.N_mono HO257.out (fun k_ hk => (⟨hk, hk.2⟩ : _ ∧ k_ ≠ gb263))) (fun _ hk => hk.2) (.int .i64 t244)) (fun _ hk => hk.2) (.int .i64 t245)) (fun _ hk => hk.2) (.slice Ao29 t246.length co29)) (fun _ hk => hk.2) (.slice Ao30 t249.length co30)) (fun _ hk => hk.2) (.slice Ao31 t252.length co31)) (fun _ hk => hk.2) (.slice Ao32 t255.length co32)) (fun _ hk => hk.2) (.slice Ao33 t258.length co33)) (fun _ hk => hk.2) (.bool t261)) (fun _ h_ => h_.1)))); (case side8 => exact (Kd.N_reads' HO257.out).2.1); (case side9 => refine (Kd.R_reads' (e := 3) (base := w.heap.size) (ok := fun k_ => some k_ ≠ (.slice Ao30 t249.length co30 : Value).ownBlock) (n := t258.length) (c := co33) ?_).2.2; exact (by (with_reducible repeat (first | apply Kd.R_alloc | apply Kd.R_drewN | apply Kd.R_drew)); exact (Kd.R_mono (Kd.R_far (p := ⟨gb263, 7, none⟩) (Kd.R_far (p := ⟨gb263, 6, none⟩) (Kd.R_far (p := ⟨gb263, 5, none⟩) (Kd.R_far (p := ⟨gb263, 4, none⟩) (Kd.R_far (p := ⟨gb263, 3, none⟩) (Kd.R_far (p := ⟨gb263, 2, none⟩) (Kd.R_far (p := ⟨gb263, 1, none⟩) (Kd.R_far (p := ⟨gb263, 0, none⟩) (Kd.R_types HO260.out BK263.out (by decide)) (fun _ hk => hk.2) (.int .i64 t244)) (fun _ hk => hk.2) (.int .i64 t245)) (fun _ hk => hk.2) (.slice Ao29 t246.length co29)) (fun _ hk => hk.2) (.slice Ao30 t249.length co30)) (fun _ hk => hk.2) (.slice Ao31 t252.length co31)) (fun _ hk => hk.2) (.slice Ao32 t255.length co32)) (fun _ hk => hk.2) (.slice Ao33 t258.length co33)) (fun _ hk => hk.2) (.bool t261)) (fun _ h_ => h_.1)))); (case side10 => exact (Kd.R_reads' HO260.out).2.1); rintro e w34 ⟨rfl, hb⟩; refine ⟨_, rfl, ?_⟩; have n0_ := Aside0.mk (Kd.N_below (by (with_reducible repeat (first | apply Kd.N_alloc | apply Kd.N_drewN | apply Kd.N_drew)); exact (Kd.N_mono (Kd.N_far (p := ⟨gb263, 7, none⟩) (Kd.N_far (p := ⟨gb263, 6, none⟩) (Kd.N_far (p := ⟨gb263, 5, none⟩) (Kd.N_far (p := ⟨gb263, 4, none⟩) (Kd.N_far (p := ⟨gb263, 3, none⟩) (Kd.N_far (p := ⟨gb263, 2, none⟩) (Kd.N_far (p := ⟨gb263, 1, none⟩) (Kd.N_far (p := ⟨gb263, 0, none⟩) (Kd.N_mono HO_4.out (fun k_ hk => (⟨hk, hk.2⟩ : _ ∧ k_ ≠ gb263))) (fun _ hk => hk.2) (.int .i64 t244)) (fun _ hk => hk.2) (.int .i64 t245)) (fun _ hk => hk.2) (.slice Ao29 t246.length co29)) (fun _ hk => hk.2) (.slice Ao30 t249.length co30)) (fun _ hk => hk.2) (.slice Ao31 t252.length co31)) (fun _ hk => hk.2) (.slice Ao32 t255.length co32)) (fun _ hk => hk.2) (.slice Ao33 t258.length co33)) (fun _ hk => hk.2) (.bool t261)) (fun _ h_ => h_.1))) hb); have n1_ := Aside0.mk (Kd.R_below (by (with_reducible repeat (first | apply Kd.R_alloc | apply Kd.R_drewN | apply Kd.R_drew)); exact (Kd.R_mono (Kd.R_far (p := ⟨gb263, 7, none⟩) (Kd.R_far (p := ⟨gb263, 6, none⟩) (Kd.R_far (p := ⟨gb263, 5, none⟩) (Kd.R_far (p := ⟨gb263, 4, none⟩) (Kd.R_far (p := ⟨gb263, 3, none⟩) (Kd.R_far (p := ⟨gb263, 2, none⟩) (Kd.R_far (p := ⟨gb263, 1, none⟩) (Kd.R_far (p := ⟨gb263, 0, none⟩) (Kd.R_types HO248.out BK263.out (by decide)) (fun _ hk => hk.2) (.int .i64 t244)) (fun _ hk => hk.2) (.int .i64 t245)) (fun _ hk => hk.2) (.slice Ao29 t246.length co29)) (fun _ hk => hk.2) (.slice Ao30 t249.length co30)) (fun _ hk => hk.2) (.slice Ao31 t252.length co31)) (fun _ hk => hk.2) (.slice Ao32 t255.length co32)) (fun _ hk => hk.2) (.slice Ao33 t258.length co33)) (fun _ hk => hk.2) (.bool t261)) (fun _ h_ => h_.1))) hb); have n2_ := Aside0.mk (Kd.R_below (by (with_reducible repeat (first | apply Kd.R_alloc | apply Kd.R_drewN | apply Kd.R_drew)); exact (Kd.R_mono (Kd.R_far (p := ⟨gb263, 7, none⟩) (Kd.R_far (p := ⟨gb263, 6, none⟩) (Kd.R_far (p := ⟨gb263, 5, none⟩) (Kd.R_far (p := ⟨gb263, 4, none⟩) (Kd.R_far (p := ⟨gb263, 3, none⟩) (Kd.R_far (p := ⟨gb263, 2, none⟩) (Kd.R_far (p := ⟨gb263, 1, none⟩) (Kd.R_far (p := ⟨gb263, 0, none⟩) (Kd.R_types HO251.out BK263.out (by decide)) (fun _ hk => hk.2) (.int .i64 t244)) (fun _ hk => hk.2) (.int .i64 t245)) (fun _ hk => hk.2) (.slice Ao29 t246.length co29)) (fun _ hk => hk.2) (.slice Ao30 t249.length co30)) (fun _ hk => hk.2) (.slice Ao31 t252.length co31)) (fun _ hk => hk.2) (.slice Ao32 t255.length co32)) (fun _ hk => hk.2) (.slice Ao33 t258.length co33)) (fun _ hk => hk.2) (.bool t261)) (fun _ h_ => h_.1))) hb); have n3_ := Aside0.mk (Kd.N_below (by (with_reducible repeat (first | apply Kd.N_alloc | apply Kd.N_drewN | apply Kd.N_drew)); exact (Kd.N_mono (Kd.N_far (p := ⟨gb263, 7, none⟩) (Kd.N_far (p := ⟨gb263, 6, none⟩) (Kd.N_far (p := ⟨gb263, 5, none⟩) (Kd.N_far (p := ⟨gb263, 4, none⟩) (Kd.N_far (p := ⟨gb263, 3, none⟩) (Kd.N_far (p := ⟨gb263, 2, none⟩) (Kd.N_far (p := ⟨gb263, 1, none⟩) (Kd.N_far (p := ⟨gb263, 0, none⟩) (Kd.N_mono HO254.out (fun k_ hk => (⟨hk, hk.2⟩ : _ ∧ k_ ≠ gb263))) (fun _ hk => hk.2) (.int .i64 t244)) (fun _ hk => hk.2) (.int .i64 t245)) (fun _ hk => hk.2) (.slice Ao29 t246.length co29)) (fun _ hk => hk.2) (.slice Ao30 t249.length co30)) (fun _ hk => hk.2) (.slice Ao31 t252.length co31)) (fun _ hk => hk.2) (.slice Ao32 t255.length co32)) (fun _ hk => hk.2) (.slice Ao33 t258.length co33)) (fun _ hk => hk.2) (.bool t261)) (fun _ h_ => h_.1))) hb); have n4_ := Aside0.mk (Kd.N_below (by (with_reducible repeat (first | apply Kd.N_alloc | apply Kd.N_drewN | apply Kd.N_drew)); exact (Kd.N_mono (Kd.N_far (p := ⟨gb263, 7, none⟩) (Kd.N_far (p := ⟨gb263, 6, none⟩) (Kd.N_far (p := ⟨gb263, 5, none⟩) (Kd.N_far (p := ⟨gb263, 4, none⟩) (Kd.N_far (p := ⟨gb263, 3, none⟩) (Kd.N_far (p := ⟨gb263, 2, none⟩) (Kd.N_far (p := ⟨gb263, 1, none⟩) (Kd.N_far (p := ⟨gb263, 0, none⟩) (Kd.N_mono HO257.out (fun k_ hk => (⟨hk, hk.2⟩ : _ ∧ k_ ≠ gb263))) (fun _ hk => hk.2) (.int .i64 t244)) (fun _ hk => hk.2) (.int .i64 t245)) (fun _ hk => hk.2) (.slice Ao29 t246.length co29)) (fun _ hk => hk.2) (.slice Ao30 t249.length co30)) (fun _ hk => hk.2) (.slice Ao31 t252.length co31)) (fun _ hk => hk.2) (.slice Ao32 t255.length co32)) (fun _ hk => hk.2) (.slice Ao33 t258.length co33)) (fun _ hk => hk.2) (.bool t261)) (fun _ h_ => h_.1))) hb); have n5_ := Aside0.mk (Kd.R_below (by (with_reducible repeat (first | apply Kd.R_alloc | apply Kd.R_drewN | apply Kd.R_drew)); exact (Kd.R_mono (Kd.R_far (p := ⟨gb263, 7, none⟩) (Kd.R_far (p := ⟨gb263, 6, none⟩) (Kd.R_far (p := ⟨gb263, 5, none⟩) (Kd.R_far (p := ⟨gb263, 4, none⟩) (Kd.R_far (p := ⟨gb263, 3, none⟩) (Kd.R_far (p := ⟨gb263, 2, none⟩) (Kd.R_far (p := ⟨gb263, 1, none⟩) (Kd.R_far (p := ⟨gb263, 0, none⟩) (Kd.R_types HO260.out BK263.out (by decide)) (fun _ hk => hk.2) (.int .i64 t244)) (fun _ hk => hk.2) (.int .i64 t245)) (fun _ hk => hk.2) (.slice Ao29 t246.length co29)) (fun _ hk => hk.2) (.slice Ao30 t249.length co30)) (fun _ hk => hk.2) (.slice Ao31 t252.length co31)) (fun _ hk => hk.2) (.slice Ao32 t255.length co32)) (fun _ hk => hk.2) (.slice Ao33 t258.length co33)) (fun _ hk => hk.2) (.bool t261)) (fun _ h_ => h_.1))) hb); have n6_ := Aside0.mk (IsS84.below (show IsS84 w ((((((((w26.setCell ⟨gb263, 0, none⟩ (.int .i64 t244)).setCell ⟨gb263, 1, none⟩ (.int .i64 t245)).setCell ⟨gb263, 2, none⟩ (.slice Ao29 t246.length co29)).setCell ⟨gb263, 3, none⟩ (.slice Ao30 t249.length co30)).setCell ⟨gb263, 4, none⟩ (.slice Ao31 t252.length co31)).setCell ⟨gb263, 5, none⟩ (.slice Ao32 t255.length co32)).setCell ⟨gb263, 6, none⟩ (.slice Ao33 t258.length co33)).setCell ⟨gb263, 7, none⟩ (.bool t261)) g241 t239 t262 from by repeat (first | (with_reducible first | exact HI241.out | apply IsS84.alloc | apply IsS84.drewN | apply IsS84.drew | apply IsS84.set_1 | refine IsS84.far ?_ NB241_263.out _) | exact HI241.out)) hb); have n7_ := Aside0.mk (blk_below (g := gb263) (o := .cells #[.int .i64 t244, .int .i64 t245, .slice Ao29 t246.length co29, .slice Ao30 t249.length co30, .slice Ao31 t252.length co31, .slice Ao32 t255.length co32, .slice Ao33 t258.length co33, .bool t261] 31 (0, 0)) (by (with_reducible repeat (first | refine blk_drewN ?_ _ | refine blk_drew ?_ | refine blk_alloc ?_ _)); refine blk_put (cs := #[.int .i64 t244, .int .i64 t245, .slice Ao29 t246.length co29, .slice Ao30 t249.length co30, .slice Ao31 t252.length co31, .slice Ao32 t255.length co32, .slice Ao33 t258.length co33, .bool false]) ?_ 7 _ rfl; (with_reducible repeat (first | refine blk_drewN ?_ _ | refine blk_drew ?_ | refine blk_alloc ?_ _)); refine blk_put (cs := #[.int .i64 t244, .int .i64 t245, .slice Ao29 t246.length co29, .slice Ao30 t249.length co30, .slice Ao31 t252.length co31, .slice Ao32 t255.length co32, .slice none 0 0, .bool false]) ?_ 6 _ rfl; (with_reducible repeat (first | refine blk_drewN ?_ _ | refine blk_drew ?_ | refine blk_alloc ?_ _)); refine blk_put (cs := #[.int .i64 t244, .int .i64 t245, .slice Ao29 t246.length co29, .slice Ao30 t249.length co30, .slice Ao31 t252.length co31, .slice none 0 0, .slice none 0 0, .bool false]) ?_ 5 _ rfl; (with_reducible repeat (first | refine blk_drewN ?_ _ | refine blk_drew ?_ | refine blk_alloc ?_ _)); refine blk_put (cs := #[.int .i64 t244, .int .i64 t245, .slice Ao29 t246.length co29, .slice Ao30 t249.length co30, .slice none 0 0, .slice none 0 0, .slice none 0 0, .bool false]) ?_ 4 _ rfl; (with_reducible repeat (first | refine blk_drewN ?_ _ | refine blk_drew ?_ | refine blk_alloc ?_ _)); refine blk_put (cs := #[.int .i64 t244, .int .i64 t245, .slice Ao29 t246.length co29, .slice none 0 0, .slice none 0 0, .slice none 0 0, .slice none 0 0, .bool false]) ?_ 3 _ rfl; (with_reducible repeat (first | refine blk_drewN ?_ _ | refine blk_drew ?_ | refine blk_alloc ?_ _)); refine blk_put (cs := #[.int .i64 t244, .int .i64 t245, .slice none 0 0, .slice none 0 0, .slice none 0 0, .slice none 0 0, .slice none 0 0, .bool false]) ?_ 2 _ rfl; (with_reducible repeat (first | refine blk_drewN ?_ _ | refine blk_drew ?_ | refine blk_alloc ?_ _)); refine blk_put (cs := #[.int .i64 t244, .int .i64 0, .slice none 0 0, .slice none 0 0, .slice none 0 0, .slice none 0 0, .slice none 0 0, .bool false]) ?_ 1 _ rfl; (with_reducible repeat (first | refine blk_drewN ?_ _ | refine blk_drew ?_ | refine blk_alloc ?_ _)); refine blk_put (cs := #[.int .i64 0, .int .i64 0, .slice none 0 0, .slice none 0 0, .slice none 0 0, .slice none 0 0, .slice none 0 0, .bool false]) ?_ 0 _ rfl; (with_reducible repeat (first | refine blk_drewN ?_ _ | refine blk_drew ?_ | refine blk_alloc ?_ _)); exact BK263.out) hb); have n8_ := Aside0.mk (below_step (by repeat (first | (with_reducible first | exact HB.out | apply below_alloc | apply pw_below_drewN | apply below_drew1 | refine below_set ?_ (IsS84.ge HI241.out) | refine below_set ?_ GE263.out) | exact HB.out)) hb); clear HO_4 HO248 HO251 HO254 HO257 HO260 HI241 BK263 HB; have HO_4 := n0_; have HO248 := n1_; have HO251 := n2_; have HO254 := n3_; have HO257 := n4_; have HO260 := n5_; have HI241 := n6_; have BK263 := n7_; have HB := n8_; clear n0_ n1_ n2_ n3_ n4_ n5_ n6_ n7_ n8_; (try clear hb); (try clear hb2); (try clear hk); (try clear hi)))
      go_roundg k1
      case measure => have := HK1.out; omega
      case rel => exact ⟨(x4_1), (wrap64 (x5_1 - 1)), (t262), (by first | rfl | (simp; done) | (simp [*]; done)), H', ⟨by have := HK1.out; omega⟩, ⟨by (with_reducible repeat (first | apply Kd.N_alloc | apply Kd.N_drewN | apply Kd.N_drew)); exact Kd.N_mono HO_4.out (fun _ hk => hk.1.1.1.1.1.1)⟩, ⟨by repeat (first | (with_reducible first | exact HI241.out | apply IsS84.alloc | apply IsS84.drewN | apply IsS84.drew | apply IsS84.set_1 | refine IsS84.far ?_ NB241_263.out _) | exact HI241.out)⟩, ⟨by repeat (first | (with_reducible first | exact HB.out | apply below_alloc | apply pw_below_drewN | apply below_drew1 | refine below_set ?_ (IsS84.ge HI241.out) | refine below_set ?_ GE263.out) | exact HB.out)⟩⟩
    ·
     rw [if_neg c8] at H
     have c8b0 : decide (0 < x5_1) = false := decide_eq_false c8
     clear c8
     replace H := Option.bind_eq_some_iff.mp H
     obtain ⟨⟨t268, t269, t270, t273, t276, t279, t282, t285, t286⟩, A350, H⟩ := H
     replace H : (if t286 = 0 then (if (t273.length : Int) = (x4_1.length : Int) then (law16_ProductSpares.j1 k1 x4_1 ((t270.length : Int) != t268) t268 t269 t270 t273 t276 t279 t282 t285) else (law16_ProductSpares.j1 k1 x4_1 true t268 t269 t270 t273 t276 t279 t282 t285)) else (if t286 = 4 then ((Awake16.f).bind fun t288 => (some t288)) else (some false))) = some r := H
     have A35 := Aside0.mk A350
     clear A350
     by_cases c36 : t286 = 0
     ·
      rw [if_pos c36] at H
      have c36b0 : (t286 == 0) = true := beq_iff_eq.mpr c36
      have c36b1 : (t286 != 0) = false := bne_eq_false_iff_eq.mpr c36
      clear c36
      have HC37 := Aside0.mk H
      clear H
      obtain ⟨Ao38, co38, eo38⟩ := Kd.N_slice HO_4.out
      subst eo38
      go_upto_region 14 with (first | ((with_reducible refine gate_callee (f := 24) rfl ?_); refine goesL_ (some 37) rfl rfl Try.func24 (by kernel_rfl) rfl #[.slice Ao38 x4_1.length co38] rfl (by (try simp only [List.map_toArray, List.map_cons, List.map_nil]); first | done | rfl | (simp only [List.length_drop, List.length_take]; rfl)) ?_; (with_reducible refine (product_Lay.calls k1 _ _ x4_1 t268 t269 t270 t273 t276 t279 t282 t285 t286 _ ?side1 ?side2 A35.out).mono ?_); (case side1 => repeat (first | exact (Kd.N_reads' HO_4.out).2.2 | (with_reducible refine Kd.C_alloc ?_ _) | (with_reducible refine Kd.C_drewN ?_ _) | (with_reducible refine Kd.C_drew ?_))); (case side2 => exact (Kd.N_reads' HO_4.out).2.1); rintro e w39 ⟨v271, v274, v277, v280, v283, rfl, ho0, ho1, ho2, ho3, ho4, hb⟩; refine ⟨_, rfl, ?_⟩; have n0_ := Aside0.mk (Kd.N_mono (Kd.N_told (Kd.N_told (Kd.N_told (Kd.N_told (Kd.N_told (Kd.N_old (kN_ HO_4.out) hb) (Kd.R_base ho0)) (Kd.R_base ho1)) (by first | exact Kd.N_base ho2 | exact Kd.R_base ho2)) (by first | exact Kd.N_base ho3 | exact Kd.R_base ho3)) (Kd.R_base ho4)) (fun _ h_ => h_.1)); have n1_ := Aside0.mk (Kd.R_lower ho0 (below_size (by repeat (first | (with_reducible first | exact HB.out | apply below_alloc | apply pw_below_drewN | apply below_drew1 | refine below_set ?_ (IsS84.ge HI241.out)) | exact HB.out)))); have n2_ := Aside0.mk (Kd.R_lower ho1 (below_size (by repeat (first | (with_reducible first | exact HB.out | apply below_alloc | apply pw_below_drewN | apply below_drew1 | refine below_set ?_ (IsS84.ge HI241.out)) | exact HB.out)))); have n3_ := Aside0.mk (Kd.N_lower (Kd.N_mono (ok' := fun k_ => some k_ ≠ (v271 : Value).ownBlock ∧ some k_ ≠ (v274 : Value).ownBlock ∧ some k_ ≠ (v280 : Value).ownBlock ∧ some k_ ≠ (v283 : Value).ownBlock ∧ some k_ ≠ (.slice Ao38 x4_1.length co38 : Value).ownBlock ∧ k_ ≠ g241) (Kd.R_N (Kd.R_bound (Kd.R_apart' (Kd.R_apart' (Kd.R_apart' (Kd.R_apart' ho2 (Kd.R_typed ho0) (by decide)) (Kd.R_typed ho1) (by decide)) (Kd.R_typed ho3) (by decide)) (Kd.R_typed ho4) (by decide)))) (fun k_ hk_ => ⟨hk_.1.1.1.1.2, hk_.1.1.1.2, hk_.1.1.2, hk_.1.2, (Kd.fresh' (Kd.N_lt (kN_ HO_4.out)) k_ hk_.2.1), (IsS84.fresh (by repeat (first | (with_reducible first | exact HI241.out | apply IsS84.alloc | apply IsS84.drewN | apply IsS84.drew | apply IsS84.set_1) | exact HI241.out)) k_ hk_.2.1)⟩)) (below_size (by repeat (first | (with_reducible first | exact HB.out | apply below_alloc | apply pw_below_drewN | apply below_drew1 | refine below_set ?_ (IsS84.ge HI241.out)) | exact HB.out)))); have n4_ := Aside0.mk (Kd.N_lower (Kd.N_mono (ok' := fun k_ => some k_ ≠ (v271 : Value).ownBlock ∧ some k_ ≠ (v274 : Value).ownBlock ∧ some k_ ≠ (v277 : Value).ownBlock ∧ some k_ ≠ (v283 : Value).ownBlock ∧ some k_ ≠ (.slice Ao38 x4_1.length co38 : Value).ownBlock ∧ k_ ≠ g241) (Kd.R_N (Kd.R_bound (Kd.R_apart' ho3 (Kd.R_typed ho0) (by decide)))) (fun k_ hk_ => ⟨hk_.1.2, hk_.1.1.1, hk_.1.1.2.1, hk_.1.1.2.2, (Kd.fresh' (Kd.N_lt (kN_ HO_4.out)) k_ hk_.2.1), (IsS84.fresh (by repeat (first | (with_reducible first | exact HI241.out | apply IsS84.alloc | apply IsS84.drewN | apply IsS84.drew | apply IsS84.set_1) | exact HI241.out)) k_ hk_.2.1)⟩)) (below_size (by repeat (first | (with_reducible first | exact HB.out | apply below_alloc | apply pw_below_drewN | apply below_drew1 | refine below_set ?_ (IsS84.ge HI241.out)) | exact HB.out)))); have n5_ := Aside0.mk (Kd.R_lower ho4 (below_size (by repeat (first | (with_reducible first | exact HB.out | apply below_alloc | apply pw_below_drewN | apply below_drew1 | refine below_set ?_ (IsS84.ge HI241.out)) | exact HB.out)))); have n6_ := Aside0.mk (IsS84.below (by repeat (first | (with_reducible first | exact HI241.out | apply IsS84.alloc | apply IsS84.drewN | apply IsS84.drew | apply IsS84.set_1) | exact HI241.out)) hb); have n7_ := Aside0.mk (below_step (by repeat (first | (with_reducible first | exact HB.out | apply below_alloc | apply pw_below_drewN | apply below_drew1 | refine below_set ?_ (IsS84.ge HI241.out)) | exact HB.out)) hb); clear HO_4 HI241 HB; have HO_4 := n0_; have HO272 := n1_; have HO275 := n2_; have HO278 := n3_; have HO281 := n4_; have HO284 := n5_; have HI241 := n6_; have HB := n7_; clear n0_ n1_ n2_ n3_ n4_ n5_ n6_ n7_; (try clear hb); (try clear hb2); (try clear hk); (try clear hi); (try clear ho0); (try clear ho1); (try clear ho2); (try clear ho3); (try clear ho4)) | ((with_reducible refine gate_dst (N := 7) rfl ?_); (try (refine gate_guard (by rfl) ?_; dsimp only)); refine box_event ?hg (N := 7) ?hd (cs := #[.int .i64 0, .int .i64 0, .slice none 0 0, .slice none 0 0, .slice none 0 0, .slice none 0 0, .slice none 0 0, .bool false]) (t := 31) ?hr ?_; (case hd => rfl); (case hg => rfl); (case hr => first | (go_simp; done) | (go_simp; rfl)); intro gb287 hg w40 hbox hb; have n0_ := Aside0.mk (Kd.N_below (Kd.N_elderB (kN_ HO_4.out) gb287 (Nat.le_of_eq hg.symm)) hb); have n1_ := Aside0.mk (Kd.R_below (kR_ HO272.out) hb); have n2_ := Aside0.mk (Kd.R_below (kR_ HO275.out) hb); have n3_ := Aside0.mk (Kd.N_below (Kd.N_elderB (kN_ HO278.out) gb287 (Nat.le_of_eq hg.symm)) hb); have n4_ := Aside0.mk (Kd.N_below (Kd.N_elderB (kN_ HO281.out) gb287 (Nat.le_of_eq hg.symm)) hb); have n5_ := Aside0.mk (Kd.R_below (kR_ HO284.out) hb); have n6_ := Aside0.mk (IsS84.below (by repeat (first | (with_reducible first | exact HI241.out | apply IsS84.alloc | apply IsS84.drewN | apply IsS84.drew | apply IsS84.set_1) | exact HI241.out)) hb); have n7_ := Aside0.mk (below_step (by repeat (first | (with_reducible first | exact HB.out | apply below_alloc | apply pw_below_drewN | apply below_drew1 | refine below_set ?_ (IsS84.ge HI241.out)) | exact HB.out)) hb); have n8_ := Aside0.mk (hbox); have n9_ := Aside0.mk ((by rw [hg]; exact (below_size (by repeat (first | (with_reducible first | exact HB.out | apply below_alloc | apply pw_below_drewN | apply below_drew1 | refine below_set ?_ (IsS84.ge HI241.out)) | exact HB.out))) : w.heap.size ≤ gb287)); have n10_ := Aside0.mk ((by rw [hg]; exact (below_size (by repeat (first | (with_reducible first | exact HB.out | apply below_alloc | apply pw_below_drewN | apply below_drew1 | refine below_set ?_ (IsS84.ge HI241.out)) | exact HB.out))) : w.heap.size ≤ gb287)); have n11_ := Aside0.mk ((by rw [hg]; exact Nat.ne_of_lt (IsS84.lt (show IsS84 w _ g241 t239 x242001_1 from by repeat (first | (with_reducible first | exact HI241.out | apply IsS84.alloc | apply IsS84.drewN | apply IsS84.drew | apply IsS84.set_1) | exact HI241.out))) : g241 ≠ gb287)); have n12_ := Aside0.mk ((by rw [hg]; exact Nat.ne_of_gt (IsS84.lt (show IsS84 w _ g241 t239 x242001_1 from by repeat (first | (with_reducible first | exact HI241.out | apply IsS84.alloc | apply IsS84.drewN | apply IsS84.drew | apply IsS84.set_1) | exact HI241.out))) : gb287 ≠ g241)); clear HO_4 HO272 HO275 HO278 HO281 HO284 HI241 HB; have HO_4 := n0_; have HO272 := n1_; have HO275 := n2_; have HO278 := n3_; have HO281 := n4_; have HO284 := n5_; have HI241 := n6_; have HB := n7_; have BK287 := n8_; have GW287 := n9_; have GE287 := n10_; have NB241_287 := n11_; have NB287_241 := n12_; clear n0_ n1_ n2_ n3_ n4_ n5_ n6_ n7_ n8_ n9_ n10_ n11_ n12_ hb hbox hg; have hnb41 := NB287_241.out; have hnc41 := NB241_287.out; have hcz42_0 : w40.cell? ⟨gb287, 0, none⟩ = some (.int .i64 0) := (blk_cell BK287.out 0).trans rfl; have hcz42_1 : w40.cell? ⟨gb287, 1, none⟩ = some (.int .i64 0) := (blk_cell BK287.out 1).trans rfl; have hcz42_2 : w40.cell? ⟨gb287, 2, none⟩ = some (.slice none 0 0) := (blk_cell BK287.out 2).trans rfl; have hcz42_3 : w40.cell? ⟨gb287, 3, none⟩ = some (.slice none 0 0) := (blk_cell BK287.out 3).trans rfl; have hcz42_4 : w40.cell? ⟨gb287, 4, none⟩ = some (.slice none 0 0) := (blk_cell BK287.out 4).trans rfl; have hcz42_5 : w40.cell? ⟨gb287, 5, none⟩ = some (.slice none 0 0) := (blk_cell BK287.out 5).trans rfl; have hcz42_6 : w40.cell? ⟨gb287, 6, none⟩ = some (.slice none 0 0) := (blk_cell BK287.out 6).trans rfl; have hcz42_7 : w40.cell? ⟨gb287, 7, none⟩ = some (.bool false) := (blk_cell BK287.out 7).trans rfl; have hfz42_0 := blk_frozen BK287.out 0; have hfz42_1 := blk_frozen BK287.out 1; have hfz42_2 := blk_frozen BK287.out 2; have hfz42_3 := blk_frozen BK287.out 3; have hfz42_4 := blk_frozen BK287.out 4; have hfz42_5 := blk_frozen BK287.out 5; have hfz42_6 := blk_frozen BK287.out 6; have hfz42_7 := blk_frozen BK287.out 7; obtain ⟨Ao43, co43, eo43⟩ := Kd.R_slice HO272.out; subst eo43; obtain ⟨Ao44, co44, eo44⟩ := Kd.R_slice HO275.out; subst eo44; obtain ⟨Ao45, co45, eo45⟩ := Kd.N_slice HO278.out; subst eo45; obtain ⟨Ao46, co46, eo46⟩ := Kd.N_slice HO281.out; subst eo46; obtain ⟨Ao47, co47, eo47⟩ := Kd.R_slice HO284.out; subst eo47))
      (try simp only [Act.put, setIfInBounds_toArray, set_cons_zero, set_cons_succ])
      go_cut [60] (fun v60 wc => ∃ (kq : Nat) (x60_36 : Bool), v60 = .bool x60_36 ∧ Aside0 (law16_ProductSpares.j1 kq x4_1 x60_36 t268 t269 t270 t273 t276 t279 t282 t285 = some r) ∧ Aside0 (kq ≤ k1) ∧ Aside0 (Kd.N k31 31 wc w.heap.size (fun k_ => some k_ ≠ ((.slice Ao43 t270.length co43) : Value).ownBlock ∧ some k_ ≠ ((.slice Ao44 t273.length co44) : Value).ownBlock ∧ some k_ ≠ ((.slice Ao45 t276.length co45) : Value).ownBlock ∧ some k_ ≠ ((.slice Ao46 t279.length co46) : Value).ownBlock ∧ some k_ ≠ ((.slice Ao47 t282.length co47) : Value).ownBlock ∧ k_ ≠ gb287) (.slice Ao38 x4_1.length co38) x4_1) ∧ Aside0 (Kd.R (Kd.int .u8) 5 wc w.heap.size (fun _ => True) (.slice Ao43 t270.length co43) t270) ∧ Aside0 (Kd.R (Kd.int .i64) 3 wc w.heap.size (fun k_ => some k_ ≠ ((.slice Ao47 t282.length co47) : Value).ownBlock) (.slice Ao44 t273.length co44) t273) ∧ Aside0 (Kd.N k101 101 wc w.heap.size (fun k_ => some k_ ≠ ((.slice Ao38 x4_1.length co38) : Value).ownBlock ∧ some k_ ≠ ((.slice Ao43 t270.length co43) : Value).ownBlock ∧ some k_ ≠ ((.slice Ao44 t273.length co44) : Value).ownBlock ∧ some k_ ≠ ((.slice Ao46 t279.length co46) : Value).ownBlock ∧ some k_ ≠ ((.slice Ao47 t282.length co47) : Value).ownBlock ∧ k_ ≠ gb287) (.slice Ao45 t276.length co45) t276) ∧ Aside0 (Kd.N k79 79 wc w.heap.size (fun k_ => some k_ ≠ ((.slice Ao38 x4_1.length co38) : Value).ownBlock ∧ some k_ ≠ ((.slice Ao43 t270.length co43) : Value).ownBlock ∧ some k_ ≠ ((.slice Ao44 t273.length co44) : Value).ownBlock ∧ some k_ ≠ ((.slice Ao45 t276.length co45) : Value).ownBlock ∧ some k_ ≠ ((.slice Ao47 t282.length co47) : Value).ownBlock ∧ k_ ≠ gb287) (.slice Ao46 t279.length co46) t279) ∧ Aside0 (Kd.R (Kd.int .i64) 3 wc w.heap.size (fun k_ => some k_ ≠ ((.slice Ao44 t273.length co44) : Value).ownBlock) (.slice Ao47 t282.length co47) t282) ∧ Aside0 (wc.heap[gb287]? = some (.cells #[.int .i64 t268, .int .i64 t269, (.slice Ao43 t270.length co43), (.slice Ao44 t273.length co44), (.slice Ao45 t276.length co45), (.slice Ao46 t279.length co46), (.slice Ao47 t282.length co47), .bool t285] 31 (0, 0))) ∧ Aside0 (Below w.heap.size w wc))
      case first =>
       have H := HC37.out
       clear HC37
       by_cases c48 : (t273.length : Int) = (x4_1.length : Int)
       ·
        rw [if_pos c48] at H
        have c48b0 : ((t273.length : Int) == (x4_1.length : Int)) = true := beq_iff_eq.mpr c48
        have c48b1 : ((t273.length : Int) != (x4_1.length : Int)) = false := bne_eq_false_iff_eq.mpr c48
        have c48b2 : (t273.length == x4_1.length) = true := by first | simpa using c48 | (simp at c48 ⊢; omega)
        clear c48
        (first | rw [c48b0] | (simp only [i64_w, i32_w]; rw [c48b0]) | skip)
        have H' := Aside0.mk H
        clear H
        have hnb49 := NB287_241.out
        have hnc49 := NB241_287.out
        have hcz50_0 : w40.cell? ⟨gb287, 0, none⟩ = some (.int .i64 0) := (blk_cell BK287.out 0).trans rfl
        have hcz50_1 : w40.cell? ⟨gb287, 1, none⟩ = some (.int .i64 0) := (blk_cell BK287.out 1).trans rfl
        have hcz50_2 : w40.cell? ⟨gb287, 2, none⟩ = some (.slice none 0 0) := (blk_cell BK287.out 2).trans rfl
        have hcz50_3 : w40.cell? ⟨gb287, 3, none⟩ = some (.slice none 0 0) := (blk_cell BK287.out 3).trans rfl
        have hcz50_4 : w40.cell? ⟨gb287, 4, none⟩ = some (.slice none 0 0) := (blk_cell BK287.out 4).trans rfl
        have hcz50_5 : w40.cell? ⟨gb287, 5, none⟩ = some (.slice none 0 0) := (blk_cell BK287.out 5).trans rfl
        have hcz50_6 : w40.cell? ⟨gb287, 6, none⟩ = some (.slice none 0 0) := (blk_cell BK287.out 6).trans rfl
        have hcz50_7 : w40.cell? ⟨gb287, 7, none⟩ = some (.bool false) := (blk_cell BK287.out 7).trans rfl
        have hfz50_0 := blk_frozen BK287.out 0
        have hfz50_1 := blk_frozen BK287.out 1
        have hfz50_2 := blk_frozen BK287.out 2
        have hfz50_3 := blk_frozen BK287.out 3
        have hfz50_4 := blk_frozen BK287.out 4
        have hfz50_5 := blk_frozen BK287.out 5
        have hfz50_6 := blk_frozen BK287.out 6
        have hfz50_7 := blk_frozen BK287.out 7
        go_wp2
        go_meet
        case rel => exact ⟨_, (((t270.length : Int) != t268)), (by first | rfl | (simp; done) | (simp [*]; done)), H', ⟨by have := HK1.out; first | omega | exact Nat.le_refl _⟩, ⟨by (with_reducible repeat (first | apply Kd.N_alloc | apply Kd.N_drewN | apply Kd.N_drew)); exact Kd.N_mono (Kd.N_far (p := ⟨gb287, 7, none⟩) (Kd.N_far (p := ⟨gb287, 6, none⟩) (Kd.N_far (p := ⟨gb287, 5, none⟩) (Kd.N_far (p := ⟨gb287, 4, none⟩) (Kd.N_far (p := ⟨gb287, 3, none⟩) (Kd.N_far (p := ⟨gb287, 2, none⟩) (Kd.N_far (p := ⟨gb287, 1, none⟩) (Kd.N_far (p := ⟨gb287, 0, none⟩) (Kd.N_mono HO_4.out (fun k_ hk => (⟨hk, hk.2⟩ : _ ∧ k_ ≠ gb287))) (fun _ hk => hk.2) (.int .i64 t268)) (fun _ hk => hk.2) (.int .i64 t269)) (fun _ hk => hk.2) (.slice Ao43 t270.length co43)) (fun _ hk => hk.2) (.slice Ao44 t273.length co44)) (fun _ hk => hk.2) (.slice Ao45 t276.length co45)) (fun _ hk => hk.2) (.slice Ao46 t279.length co46)) (fun _ hk => hk.2) (.slice Ao47 t282.length co47)) (fun _ hk => hk.2) (.bool t285)) (fun _ hk => ⟨hk.1.1.1.1.1.1.2, ⟨hk.1.1.1.1.1.2, ⟨hk.1.1.1.1.2, ⟨hk.1.1.1.2, ⟨hk.1.1.2, hk.1.2⟩⟩⟩⟩⟩)⟩, ⟨by (with_reducible repeat (first | apply Kd.R_alloc | apply Kd.R_drewN | apply Kd.R_drew)); exact Kd.R_mono (Kd.R_far (p := ⟨gb287, 7, none⟩) (Kd.R_far (p := ⟨gb287, 6, none⟩) (Kd.R_far (p := ⟨gb287, 5, none⟩) (Kd.R_far (p := ⟨gb287, 4, none⟩) (Kd.R_far (p := ⟨gb287, 3, none⟩) (Kd.R_far (p := ⟨gb287, 2, none⟩) (Kd.R_far (p := ⟨gb287, 1, none⟩) (Kd.R_far (p := ⟨gb287, 0, none⟩) (Kd.R_types HO272.out BK287.out (by decide)) (fun _ hk => hk.2) (.int .i64 t268)) (fun _ hk => hk.2) (.int .i64 t269)) (fun _ hk => hk.2) (.slice Ao43 t270.length co43)) (fun _ hk => hk.2) (.slice Ao44 t273.length co44)) (fun _ hk => hk.2) (.slice Ao45 t276.length co45)) (fun _ hk => hk.2) (.slice Ao46 t279.length co46)) (fun _ hk => hk.2) (.slice Ao47 t282.length co47)) (fun _ hk => hk.2) (.bool t285)) (fun _ hk => trivial)⟩, ⟨by (with_reducible repeat (first | apply Kd.R_alloc | apply Kd.R_drewN | apply Kd.R_drew)); exact Kd.R_mono (Kd.R_far (p := ⟨gb287, 7, none⟩) (Kd.R_far (p := ⟨gb287, 6, none⟩) (Kd.R_far (p := ⟨gb287, 5, none⟩) (Kd.R_far (p := ⟨gb287, 4, none⟩) (Kd.R_far (p := ⟨gb287, 3, none⟩) (Kd.R_far (p := ⟨gb287, 2, none⟩) (Kd.R_far (p := ⟨gb287, 1, none⟩) (Kd.R_far (p := ⟨gb287, 0, none⟩) (Kd.R_types HO275.out BK287.out (by decide)) (fun _ hk => hk.2) (.int .i64 t268)) (fun _ hk => hk.2) (.int .i64 t269)) (fun _ hk => hk.2) (.slice Ao43 t270.length co43)) (fun _ hk => hk.2) (.slice Ao44 t273.length co44)) (fun _ hk => hk.2) (.slice Ao45 t276.length co45)) (fun _ hk => hk.2) (.slice Ao46 t279.length co46)) (fun _ hk => hk.2) (.slice Ao47 t282.length co47)) (fun _ hk => hk.2) (.bool t285)) (fun _ hk => hk.1)⟩, ⟨by (with_reducible repeat (first | apply Kd.N_alloc | apply Kd.N_drewN | apply Kd.N_drew)); exact Kd.N_mono (Kd.N_far (p := ⟨gb287, 7, none⟩) (Kd.N_far (p := ⟨gb287, 6, none⟩) (Kd.N_far (p := ⟨gb287, 5, none⟩) (Kd.N_far (p := ⟨gb287, 4, none⟩) (Kd.N_far (p := ⟨gb287, 3, none⟩) (Kd.N_far (p := ⟨gb287, 2, none⟩) (Kd.N_far (p := ⟨gb287, 1, none⟩) (Kd.N_far (p := ⟨gb287, 0, none⟩) (Kd.N_mono HO278.out (fun k_ hk => (⟨hk, hk.2⟩ : _ ∧ k_ ≠ gb287))) (fun _ hk => hk.2) (.int .i64 t268)) (fun _ hk => hk.2) (.int .i64 t269)) (fun _ hk => hk.2) (.slice Ao43 t270.length co43)) (fun _ hk => hk.2) (.slice Ao44 t273.length co44)) (fun _ hk => hk.2) (.slice Ao45 t276.length co45)) (fun _ hk => hk.2) (.slice Ao46 t279.length co46)) (fun _ hk => hk.2) (.slice Ao47 t282.length co47)) (fun _ hk => hk.2) (.bool t285)) (fun _ hk => ⟨hk.1.1.2.2.2.2.1, ⟨hk.1.1.1, ⟨hk.1.1.2.1, ⟨hk.1.1.2.2.1, ⟨hk.1.1.2.2.2.1, hk.1.2⟩⟩⟩⟩⟩)⟩, ⟨by (with_reducible repeat (first | apply Kd.N_alloc | apply Kd.N_drewN | apply Kd.N_drew)); exact Kd.N_mono (Kd.N_far (p := ⟨gb287, 7, none⟩) (Kd.N_far (p := ⟨gb287, 6, none⟩) (Kd.N_far (p := ⟨gb287, 5, none⟩) (Kd.N_far (p := ⟨gb287, 4, none⟩) (Kd.N_far (p := ⟨gb287, 3, none⟩) (Kd.N_far (p := ⟨gb287, 2, none⟩) (Kd.N_far (p := ⟨gb287, 1, none⟩) (Kd.N_far (p := ⟨gb287, 0, none⟩) (Kd.N_mono HO281.out (fun k_ hk => (⟨hk, hk.2⟩ : _ ∧ k_ ≠ gb287))) (fun _ hk => hk.2) (.int .i64 t268)) (fun _ hk => hk.2) (.int .i64 t269)) (fun _ hk => hk.2) (.slice Ao43 t270.length co43)) (fun _ hk => hk.2) (.slice Ao44 t273.length co44)) (fun _ hk => hk.2) (.slice Ao45 t276.length co45)) (fun _ hk => hk.2) (.slice Ao46 t279.length co46)) (fun _ hk => hk.2) (.slice Ao47 t282.length co47)) (fun _ hk => hk.2) (.bool t285)) (fun _ hk => ⟨hk.1.1.2.2.2.2.1, ⟨hk.1.1.1, ⟨hk.1.1.2.1, ⟨hk.1.1.2.2.1, ⟨hk.1.1.2.2.2.1, hk.1.2⟩⟩⟩⟩⟩)⟩, ⟨by (with_reducible repeat (first | apply Kd.R_alloc | apply Kd.R_drewN | apply Kd.R_drew)); exact Kd.R_mono (Kd.R_far (p := ⟨gb287, 7, none⟩) (Kd.R_far (p := ⟨gb287, 6, none⟩) (Kd.R_far (p := ⟨gb287, 5, none⟩) (Kd.R_far (p := ⟨gb287, 4, none⟩) (Kd.R_far (p := ⟨gb287, 3, none⟩) (Kd.R_far (p := ⟨gb287, 2, none⟩) (Kd.R_far (p := ⟨gb287, 1, none⟩) (Kd.R_far (p := ⟨gb287, 0, none⟩) (Kd.R_types HO284.out BK287.out (by decide)) (fun _ hk => hk.2) (.int .i64 t268)) (fun _ hk => hk.2) (.int .i64 t269)) (fun _ hk => hk.2) (.slice Ao43 t270.length co43)) (fun _ hk => hk.2) (.slice Ao44 t273.length co44)) (fun _ hk => hk.2) (.slice Ao45 t276.length co45)) (fun _ hk => hk.2) (.slice Ao46 t279.length co46)) (fun _ hk => hk.2) (.slice Ao47 t282.length co47)) (fun _ hk => hk.2) (.bool t285)) (fun _ hk => hk.1)⟩, ⟨by (with_reducible repeat (first | refine blk_drewN ?_ _ | refine blk_drew ?_ | refine blk_alloc ?_ _)); refine blk_put (cs := #[.int .i64 t268, .int .i64 t269, .slice Ao43 t270.length co43, .slice Ao44 t273.length co44, .slice Ao45 t276.length co45, .slice Ao46 t279.length co46, .slice Ao47 t282.length co47, .bool false]) ?_ 7 _ rfl; (with_reducible repeat (first | refine blk_drewN ?_ _ | refine blk_drew ?_ | refine blk_alloc ?_ _)); refine blk_put (cs := #[.int .i64 t268, .int .i64 t269, .slice Ao43 t270.length co43, .slice Ao44 t273.length co44, .slice Ao45 t276.length co45, .slice Ao46 t279.length co46, .slice none 0 0, .bool false]) ?_ 6 _ rfl; (with_reducible repeat (first | refine blk_drewN ?_ _ | refine blk_drew ?_ | refine blk_alloc ?_ _)); refine blk_put (cs := #[.int .i64 t268, .int .i64 t269, .slice Ao43 t270.length co43, .slice Ao44 t273.length co44, .slice Ao45 t276.length co45, .slice none 0 0, .slice none 0 0, .bool false]) ?_ 5 _ rfl; (with_reducible repeat (first | refine blk_drewN ?_ _ | refine blk_drew ?_ | refine blk_alloc ?_ _)); refine blk_put (cs := #[.int .i64 t268, .int .i64 t269, .slice Ao43 t270.length co43, .slice Ao44 t273.length co44, .slice none 0 0, .slice none 0 0, .slice none 0 0, .bool false]) ?_ 4 _ rfl; (with_reducible repeat (first | refine blk_drewN ?_ _ | refine blk_drew ?_ | refine blk_alloc ?_ _)); refine blk_put (cs := #[.int .i64 t268, .int .i64 t269, .slice Ao43 t270.length co43, .slice none 0 0, .slice none 0 0, .slice none 0 0, .slice none 0 0, .bool false]) ?_ 3 _ rfl; (with_reducible repeat (first | refine blk_drewN ?_ _ | refine blk_drew ?_ | refine blk_alloc ?_ _)); refine blk_put (cs := #[.int .i64 t268, .int .i64 t269, .slice none 0 0, .slice none 0 0, .slice none 0 0, .slice none 0 0, .slice none 0 0, .bool false]) ?_ 2 _ rfl; (with_reducible repeat (first | refine blk_drewN ?_ _ | refine blk_drew ?_ | refine blk_alloc ?_ _)); refine blk_put (cs := #[.int .i64 t268, .int .i64 0, .slice none 0 0, .slice none 0 0, .slice none 0 0, .slice none 0 0, .slice none 0 0, .bool false]) ?_ 1 _ rfl; (with_reducible repeat (first | refine blk_drewN ?_ _ | refine blk_drew ?_ | refine blk_alloc ?_ _)); refine blk_put (cs := #[.int .i64 0, .int .i64 0, .slice none 0 0, .slice none 0 0, .slice none 0 0, .slice none 0 0, .slice none 0 0, .bool false]) ?_ 0 _ rfl; (with_reducible repeat (first | refine blk_drewN ?_ _ | refine blk_drew ?_ | refine blk_alloc ?_ _)); exact BK287.out⟩, ⟨by repeat (first | (with_reducible first | exact HB.out | apply below_alloc | apply pw_below_drewN | apply below_drew1 | refine below_set ?_ (IsS84.ge HI241.out) | refine below_set ?_ GE287.out) | exact HB.out)⟩⟩
       ·
        rw [if_neg c48] at H
        have c48b0 : ((t273.length : Int) == (x4_1.length : Int)) = false := beq_eq_false_iff_ne.mpr c48
        have c48b1 : ((t273.length : Int) != (x4_1.length : Int)) = true := bne_iff_ne.mpr c48
        have c48b2 : (t273.length == x4_1.length) = false := by first | simpa using c48 | (simp at c48 ⊢; omega)
        (first | rw [c48b0] | (simp only [i64_w, i32_w]; rw [c48b0]) | skip)
        have H' := Aside0.mk H
        clear H
        have hnb51 := NB287_241.out
        have hnc51 := NB241_287.out
        have hcz52_0 : w40.cell? ⟨gb287, 0, none⟩ = some (.int .i64 0) := (blk_cell BK287.out 0).trans rfl
        have hcz52_1 : w40.cell? ⟨gb287, 1, none⟩ = some (.int .i64 0) := (blk_cell BK287.out 1).trans rfl
        have hcz52_2 : w40.cell? ⟨gb287, 2, none⟩ = some (.slice none 0 0) := (blk_cell BK287.out 2).trans rfl
        have hcz52_3 : w40.cell? ⟨gb287, 3, none⟩ = some (.slice none 0 0) := (blk_cell BK287.out 3).trans rfl
        have hcz52_4 : w40.cell? ⟨gb287, 4, none⟩ = some (.slice none 0 0) := (blk_cell BK287.out 4).trans rfl
        have hcz52_5 : w40.cell? ⟨gb287, 5, none⟩ = some (.slice none 0 0) := (blk_cell BK287.out 5).trans rfl
        have hcz52_6 : w40.cell? ⟨gb287, 6, none⟩ = some (.slice none 0 0) := (blk_cell BK287.out 6).trans rfl
        have hcz52_7 : w40.cell? ⟨gb287, 7, none⟩ = some (.bool false) := (blk_cell BK287.out 7).trans rfl
        have hfz52_0 := blk_frozen BK287.out 0
        have hfz52_1 := blk_frozen BK287.out 1
        have hfz52_2 := blk_frozen BK287.out 2
        have hfz52_3 := blk_frozen BK287.out 3
        have hfz52_4 := blk_frozen BK287.out 4
        have hfz52_5 := blk_frozen BK287.out 5
        have hfz52_6 := blk_frozen BK287.out 6
        have hfz52_7 := blk_frozen BK287.out 7
        go_wp2
        go_meet
        case rel => exact ⟨_, (true), (by first | rfl | (simp; done) | (simp [*]; done)), H', ⟨by have := HK1.out; first | omega | exact Nat.le_refl _⟩, ⟨by (with_reducible repeat (first | apply Kd.N_alloc | apply Kd.N_drewN | apply Kd.N_drew)); exact Kd.N_mono (Kd.N_far (p := ⟨gb287, 7, none⟩) (Kd.N_far (p := ⟨gb287, 6, none⟩) (Kd.N_far (p := ⟨gb287, 5, none⟩) (Kd.N_far (p := ⟨gb287, 4, none⟩) (Kd.N_far (p := ⟨gb287, 3, none⟩) (Kd.N_far (p := ⟨gb287, 2, none⟩) (Kd.N_far (p := ⟨gb287, 1, none⟩) (Kd.N_far (p := ⟨gb287, 0, none⟩) (Kd.N_mono HO_4.out (fun k_ hk => (⟨hk, hk.2⟩ : _ ∧ k_ ≠ gb287))) (fun _ hk => hk.2) (.int .i64 t268)) (fun _ hk => hk.2) (.int .i64 t269)) (fun _ hk => hk.2) (.slice Ao43 t270.length co43)) (fun _ hk => hk.2) (.slice Ao44 t273.length co44)) (fun _ hk => hk.2) (.slice Ao45 t276.length co45)) (fun _ hk => hk.2) (.slice Ao46 t279.length co46)) (fun _ hk => hk.2) (.slice Ao47 t282.length co47)) (fun _ hk => hk.2) (.bool t285)) (fun _ hk => ⟨hk.1.1.1.1.1.1.2, ⟨hk.1.1.1.1.1.2, ⟨hk.1.1.1.1.2, ⟨hk.1.1.1.2, ⟨hk.1.1.2, hk.1.2⟩⟩⟩⟩⟩)⟩, ⟨by (with_reducible repeat (first | apply Kd.R_alloc | apply Kd.R_drewN | apply Kd.R_drew)); exact Kd.R_mono (Kd.R_far (p := ⟨gb287, 7, none⟩) (Kd.R_far (p := ⟨gb287, 6, none⟩) (Kd.R_far (p := ⟨gb287, 5, none⟩) (Kd.R_far (p := ⟨gb287, 4, none⟩) (Kd.R_far (p := ⟨gb287, 3, none⟩) (Kd.R_far (p := ⟨gb287, 2, none⟩) (Kd.R_far (p := ⟨gb287, 1, none⟩) (Kd.R_far (p := ⟨gb287, 0, none⟩) (Kd.R_types HO272.out BK287.out (by decide)) (fun _ hk => hk.2) (.int .i64 t268)) (fun _ hk => hk.2) (.int .i64 t269)) (fun _ hk => hk.2) (.slice Ao43 t270.length co43)) (fun _ hk => hk.2) (.slice Ao44 t273.length co44)) (fun _ hk => hk.2) (.slice Ao45 t276.length co45)) (fun _ hk => hk.2) (.slice Ao46 t279.length co46)) (fun _ hk => hk.2) (.slice Ao47 t282.length co47)) (fun _ hk => hk.2) (.bool t285)) (fun _ hk => trivial)⟩, ⟨by (with_reducible repeat (first | apply Kd.R_alloc | apply Kd.R_drewN | apply Kd.R_drew)); exact Kd.R_mono (Kd.R_far (p := ⟨gb287, 7, none⟩) (Kd.R_far (p := ⟨gb287, 6, none⟩) (Kd.R_far (p := ⟨gb287, 5, none⟩) (Kd.R_far (p := ⟨gb287, 4, none⟩) (Kd.R_far (p := ⟨gb287, 3, none⟩) (Kd.R_far (p := ⟨gb287, 2, none⟩) (Kd.R_far (p := ⟨gb287, 1, none⟩) (Kd.R_far (p := ⟨gb287, 0, none⟩) (Kd.R_types HO275.out BK287.out (by decide)) (fun _ hk => hk.2) (.int .i64 t268)) (fun _ hk => hk.2) (.int .i64 t269)) (fun _ hk => hk.2) (.slice Ao43 t270.length co43)) (fun _ hk => hk.2) (.slice Ao44 t273.length co44)) (fun _ hk => hk.2) (.slice Ao45 t276.length co45)) (fun _ hk => hk.2) (.slice Ao46 t279.length co46)) (fun _ hk => hk.2) (.slice Ao47 t282.length co47)) (fun _ hk => hk.2) (.bool t285)) (fun _ hk => hk.1)⟩, ⟨by (with_reducible repeat (first | apply Kd.N_alloc | apply Kd.N_drewN | apply Kd.N_drew)); exact Kd.N_mono (Kd.N_far (p := ⟨gb287, 7, none⟩) (Kd.N_far (p := ⟨gb287, 6, none⟩) (Kd.N_far (p := ⟨gb287, 5, none⟩) (Kd.N_far (p := ⟨gb287, 4, none⟩) (Kd.N_far (p := ⟨gb287, 3, none⟩) (Kd.N_far (p := ⟨gb287, 2, none⟩) (Kd.N_far (p := ⟨gb287, 1, none⟩) (Kd.N_far (p := ⟨gb287, 0, none⟩) (Kd.N_mono HO278.out (fun k_ hk => (⟨hk, hk.2⟩ : _ ∧ k_ ≠ gb287))) (fun _ hk => hk.2) (.int .i64 t268)) (fun _ hk => hk.2) (.int .i64 t269)) (fun _ hk => hk.2) (.slice Ao43 t270.length co43)) (fun _ hk => hk.2) (.slice Ao44 t273.length co44)) (fun _ hk => hk.2) (.slice Ao45 t276.length co45)) (fun _ hk => hk.2) (.slice Ao46 t279.length co46)) (fun _ hk => hk.2) (.slice Ao47 t282.length co47)) (fun _ hk => hk.2) (.bool t285)) (fun _ hk => ⟨hk.1.1.2.2.2.2.1, ⟨hk.1.1.1, ⟨hk.1.1.2.1, ⟨hk.1.1.2.2.1, ⟨hk.1.1.2.2.2.1, hk.1.2⟩⟩⟩⟩⟩)⟩, ⟨by (with_reducible repeat (first | apply Kd.N_alloc | apply Kd.N_drewN | apply Kd.N_drew)); exact Kd.N_mono (Kd.N_far (p := ⟨gb287, 7, none⟩) (Kd.N_far (p := ⟨gb287, 6, none⟩) (Kd.N_far (p := ⟨gb287, 5, none⟩) (Kd.N_far (p := ⟨gb287, 4, none⟩) (Kd.N_far (p := ⟨gb287, 3, none⟩) (Kd.N_far (p := ⟨gb287, 2, none⟩) (Kd.N_far (p := ⟨gb287, 1, none⟩) (Kd.N_far (p := ⟨gb287, 0, none⟩) (Kd.N_mono HO281.out (fun k_ hk => (⟨hk, hk.2⟩ : _ ∧ k_ ≠ gb287))) (fun _ hk => hk.2) (.int .i64 t268)) (fun _ hk => hk.2) (.int .i64 t269)) (fun _ hk => hk.2) (.slice Ao43 t270.length co43)) (fun _ hk => hk.2) (.slice Ao44 t273.length co44)) (fun _ hk => hk.2) (.slice Ao45 t276.length co45)) (fun _ hk => hk.2) (.slice Ao46 t279.length co46)) (fun _ hk => hk.2) (.slice Ao47 t282.length co47)) (fun _ hk => hk.2) (.bool t285)) (fun _ hk => ⟨hk.1.1.2.2.2.2.1, ⟨hk.1.1.1, ⟨hk.1.1.2.1, ⟨hk.1.1.2.2.1, ⟨hk.1.1.2.2.2.1, hk.1.2⟩⟩⟩⟩⟩)⟩, ⟨by (with_reducible repeat (first | apply Kd.R_alloc | apply Kd.R_drewN | apply Kd.R_drew)); exact Kd.R_mono (Kd.R_far (p := ⟨gb287, 7, none⟩) (Kd.R_far (p := ⟨gb287, 6, none⟩) (Kd.R_far (p := ⟨gb287, 5, none⟩) (Kd.R_far (p := ⟨gb287, 4, none⟩) (Kd.R_far (p := ⟨gb287, 3, none⟩) (Kd.R_far (p := ⟨gb287, 2, none⟩) (Kd.R_far (p := ⟨gb287, 1, none⟩) (Kd.R_far (p := ⟨gb287, 0, none⟩) (Kd.R_types HO284.out BK287.out (by decide)) (fun _ hk => hk.2) (.int .i64 t268)) (fun _ hk => hk.2) (.int .i64 t269)) (fun _ hk => hk.2) (.slice Ao43 t270.length co43)) (fun _ hk => hk.2) (.slice Ao44 t273.length co44)) (fun _ hk => hk.2) (.slice Ao45 t276.length co45)) (fun _ hk => hk.2) (.slice Ao46 t279.length co46)) (fun _ hk => hk.2) (.slice Ao47 t282.length co47)) (fun _ hk => hk.2) (.bool t285)) (fun _ hk => hk.1)⟩, ⟨by (with_reducible repeat (first | refine blk_drewN ?_ _ | refine blk_drew ?_ | refine blk_alloc ?_ _)); refine blk_put (cs := #[.int .i64 t268, .int .i64 t269, .slice Ao43 t270.length co43, .slice Ao44 t273.length co44, .slice Ao45 t276.length co45, .slice Ao46 t279.length co46, .slice Ao47 t282.length co47, .bool false]) ?_ 7 _ rfl; (with_reducible repeat (first | refine blk_drewN ?_ _ | refine blk_drew ?_ | refine blk_alloc ?_ _)); refine blk_put (cs := #[.int .i64 t268, .int .i64 t269, .slice Ao43 t270.length co43, .slice Ao44 t273.length co44, .slice Ao45 t276.length co45, .slice Ao46 t279.length co46, .slice none 0 0, .bool false]) ?_ 6 _ rfl; (with_reducible repeat (first | refine blk_drewN ?_ _ | refine blk_drew ?_ | refine blk_alloc ?_ _)); refine blk_put (cs := #[.int .i64 t268, .int .i64 t269, .slice Ao43 t270.length co43, .slice Ao44 t273.length co44, .slice Ao45 t276.length co45, .slice none 0 0, .slice none 0 0, .bool false]) ?_ 5 _ rfl; (with_reducible repeat (first | refine blk_drewN ?_ _ | refine blk_drew ?_ | refine blk_alloc ?_ _)); refine blk_put (cs := #[.int .i64 t268, .int .i64 t269, .slice Ao43 t270.length co43, .slice Ao44 t273.length co44, .slice none 0 0, .slice none 0 0, .slice none 0 0, .bool false]) ?_ 4 _ rfl; (with_reducible repeat (first | refine blk_drewN ?_ _ | refine blk_drew ?_ | refine blk_alloc ?_ _)); refine blk_put (cs := #[.int .i64 t268, .int .i64 t269, .slice Ao43 t270.length co43, .slice none 0 0, .slice none 0 0, .slice none 0 0, .slice none 0 0, .bool false]) ?_ 3 _ rfl; (with_reducible repeat (first | refine blk_drewN ?_ _ | refine blk_drew ?_ | refine blk_alloc ?_ _)); refine blk_put (cs := #[.int .i64 t268, .int .i64 t269, .slice none 0 0, .slice none 0 0, .slice none 0 0, .slice none 0 0, .slice none 0 0, .bool false]) ?_ 2 _ rfl; (with_reducible repeat (first | refine blk_drewN ?_ _ | refine blk_drew ?_ | refine blk_alloc ?_ _)); refine blk_put (cs := #[.int .i64 t268, .int .i64 0, .slice none 0 0, .slice none 0 0, .slice none 0 0, .slice none 0 0, .slice none 0 0, .bool false]) ?_ 1 _ rfl; (with_reducible repeat (first | refine blk_drewN ?_ _ | refine blk_drew ?_ | refine blk_alloc ?_ _)); refine blk_put (cs := #[.int .i64 0, .int .i64 0, .slice none 0 0, .slice none 0 0, .slice none 0 0, .slice none 0 0, .slice none 0 0, .bool false]) ?_ 0 _ rfl; (with_reducible repeat (first | refine blk_drewN ?_ _ | refine blk_drew ?_ | refine blk_alloc ?_ _)); exact BK287.out⟩, ⟨by repeat (first | (with_reducible first | exact HB.out | apply below_alloc | apply pw_below_drewN | apply below_drew1 | refine below_set ?_ (IsS84.ge HI241.out) | refine below_set ?_ GE287.out) | exact HB.out)⟩⟩
      case rest =>
       clear HC37
       try clear c1
       try clear c2
       try clear p2
       try clear c3
       try clear c4
       try clear c5
       try clear p6
       try clear c8
       try clear c8b0
       try clear c11
       try clear c12
       try clear c15
       try clear c18
       try clear c20
       try clear c21
       try clear c22
       try clear c24
       try clear c27
       try clear c36
       try clear c36b0
       try clear c36b1
       try clear c41
       try clear c48
       try clear c48b0
       try clear c48b1
       try clear c48b2
       try clear c49
       try clear c51
       try clear hcz16_0
       try clear hcz16_1
       try clear hcz16_2
       try clear hcz16_3
       try clear hcz16_4
       try clear hcz16_5
       try clear hcz16_6
       try clear hcz16_7
       try clear hcz23_0
       try clear hcz23_1
       try clear hcz23_2
       try clear hcz23_3
       try clear hcz23_4
       try clear hcz23_5
       try clear hcz23_6
       try clear hcz23_7
       try clear hcz28_0
       try clear hcz28_1
       try clear hcz28_2
       try clear hcz28_3
       try clear hcz28_4
       try clear hcz28_5
       try clear hcz28_6
       try clear hcz28_7
       try clear hcz42_0
       try clear hcz42_1
       try clear hcz42_2
       try clear hcz42_3
       try clear hcz42_4
       try clear hcz42_5
       try clear hcz42_6
       try clear hcz42_7
       try clear hcz50_0
       try clear hcz50_1
       try clear hcz50_2
       try clear hcz50_3
       try clear hcz50_4
       try clear hcz50_5
       try clear hcz50_6
       try clear hcz50_7
       try clear hcz52_0
       try clear hcz52_1
       try clear hcz52_2
       try clear hcz52_3
       try clear hcz52_4
       try clear hcz52_5
       try clear hcz52_6
       try clear hcz52_7
       try clear hfz16_0
       try clear hfz16_1
       try clear hfz16_2
       try clear hfz16_3
       try clear hfz16_4
       try clear hfz16_5
       try clear hfz16_6
       try clear hfz16_7
       try clear hfz23_0
       try clear hfz23_1
       try clear hfz23_2
       try clear hfz23_3
       try clear hfz23_4
       try clear hfz23_5
       try clear hfz23_6
       try clear hfz23_7
       try clear hfz28_0
       try clear hfz28_1
       try clear hfz28_2
       try clear hfz28_3
       try clear hfz28_4
       try clear hfz28_5
       try clear hfz28_6
       try clear hfz28_7
       try clear hfz42_0
       try clear hfz42_1
       try clear hfz42_2
       try clear hfz42_3
       try clear hfz42_4
       try clear hfz42_5
       try clear hfz42_6
       try clear hfz42_7
       try clear hfz50_0
       try clear hfz50_1
       try clear hfz50_2
       try clear hfz50_3
       try clear hfz50_4
       try clear hfz50_5
       try clear hfz50_6
       try clear hfz50_7
       try clear hfz52_0
       try clear hfz52_1
       try clear hfz52_2
       try clear hfz52_3
       try clear hfz52_4
       try clear hfz52_5
       try clear hfz52_6
       try clear hfz52_7
       try clear p2
       obtain ⟨kq, x60_36, rfl, HA, HJ36, HO_4, HO_288002, HO_288003, HO_288004, HO_288005, HO_288006, BK287, HB⟩ := hcut
       cases kq with
       | zero => exact absurd HA.out (by simp [law16_ProductSpares.j1])
       | succ kj36 =>
        have H := HA.out
        clear HA
        simp only [law16_ProductSpares.j1] at H
        by_cases c53 : x60_36 = true
        ·
         subst c53
         have H1 : (some false) = some r := by rw [if_pos rfl] at H; exact H
         clear H
         have H := H1
         clear H1
         exact absurd ((Option.some.inj H).trans hr_) (by decide)
        replace c53 := Bool.eq_false_iff.mpr c53
        subst c53
        have H1 : (law16_ProductSpares.l1 kj36 0 1 0 x4_1 (x4_1.length : Int) 0 t268 t269 t270 t273 t276 t279 t282 t285) = some r := by rw [if_neg (show ¬ (false = true) by decide)] at H; exact H
        clear H
        have H := H1
        clear H1
        have H' := Aside0.mk H
        clear H
        go_wp2
        go_loopg [9, 10, 11, 63] kj36 (fun kq v9 v10 v11 v63 w' => ∃ (x9_3 : Int) (x10_3 : Int) (x11_3 : Int) (x63_3 : Int), v9 = .int .i64 x9_3 ∧ v10 = .int .i64 x10_3 ∧ v11 = .int .i64 x11_3 ∧ v63 = .int .i64 x63_3 ∧ Aside0 (law16_ProductSpares.l1 kq x9_3 x10_3 x11_3 x4_1 (x4_1.length : Int) x63_3 t268 t269 t270 t273 t276 t279 t282 t285 = some r) ∧ Aside0 (kq ≤ kj36) ∧ Aside0 (Kd.N k31 31 w' w.heap.size (fun k_ => some k_ ≠ ((.slice Ao43 t270.length co43) : Value).ownBlock ∧ some k_ ≠ ((.slice Ao44 t273.length co44) : Value).ownBlock ∧ some k_ ≠ ((.slice Ao45 t276.length co45) : Value).ownBlock ∧ some k_ ≠ ((.slice Ao46 t279.length co46) : Value).ownBlock ∧ some k_ ≠ ((.slice Ao47 t282.length co47) : Value).ownBlock ∧ k_ ≠ gb287) (.slice Ao38 x4_1.length co38) x4_1) ∧ Aside0 (Kd.R (Kd.int .u8) 5 w' w.heap.size (fun _ => True) (.slice Ao43 t270.length co43) t270) ∧ Aside0 (Kd.R (Kd.int .i64) 3 w' w.heap.size (fun k_ => some k_ ≠ ((.slice Ao47 t282.length co47) : Value).ownBlock) (.slice Ao44 t273.length co44) t273) ∧ Aside0 (Kd.N k101 101 w' w.heap.size (fun k_ => some k_ ≠ ((.slice Ao38 x4_1.length co38) : Value).ownBlock ∧ some k_ ≠ ((.slice Ao43 t270.length co43) : Value).ownBlock ∧ some k_ ≠ ((.slice Ao44 t273.length co44) : Value).ownBlock ∧ some k_ ≠ ((.slice Ao46 t279.length co46) : Value).ownBlock ∧ some k_ ≠ ((.slice Ao47 t282.length co47) : Value).ownBlock ∧ k_ ≠ gb287) (.slice Ao45 t276.length co45) t276) ∧ Aside0 (Kd.N k79 79 w' w.heap.size (fun k_ => some k_ ≠ ((.slice Ao38 x4_1.length co38) : Value).ownBlock ∧ some k_ ≠ ((.slice Ao43 t270.length co43) : Value).ownBlock ∧ some k_ ≠ ((.slice Ao44 t273.length co44) : Value).ownBlock ∧ some k_ ≠ ((.slice Ao45 t276.length co45) : Value).ownBlock ∧ some k_ ≠ ((.slice Ao47 t282.length co47) : Value).ownBlock ∧ k_ ≠ gb287) (.slice Ao46 t279.length co46) t279) ∧ Aside0 (Kd.R (Kd.int .i64) 3 w' w.heap.size (fun k_ => some k_ ≠ ((.slice Ao44 t273.length co44) : Value).ownBlock) (.slice Ao47 t282.length co47) t282) ∧ Aside0 (w'.heap[gb287]? = some (.cells #[.int .i64 t268, .int .i64 t269, (.slice Ao43 t270.length co43), (.slice Ao44 t273.length co44), (.slice Ao45 t276.length co45), (.slice Ao46 t279.length co46), (.slice Ao47 t282.length co47), .bool t285] 31 (0, 0))) ∧ Aside0 (Below w.heap.size w w'))
        case atStart => exact ⟨(0), (1), (0), (0), (by first | rfl | (simp; done) | (simp [*]; done)), (by first | rfl | (simp; done) | (simp [*]; done)), (by first | rfl | (simp; done) | (simp [*]; done)), (by first | rfl | (simp; done) | (simp [*]; done)), H', ⟨Nat.le_refl _⟩, ⟨by (with_reducible repeat (first | apply Kd.N_alloc | apply Kd.N_drewN | apply Kd.N_drew)); exact HO_4.out⟩, ⟨by (with_reducible repeat (first | apply Kd.R_alloc | apply Kd.R_drewN | apply Kd.R_drew)); exact HO_288002.out⟩, ⟨by (with_reducible repeat (first | apply Kd.R_alloc | apply Kd.R_drewN | apply Kd.R_drew)); exact HO_288003.out⟩, ⟨by (with_reducible repeat (first | apply Kd.N_alloc | apply Kd.N_drewN | apply Kd.N_drew)); exact HO_288004.out⟩, ⟨by (with_reducible repeat (first | apply Kd.N_alloc | apply Kd.N_drewN | apply Kd.N_drew)); exact HO_288005.out⟩, ⟨by (with_reducible repeat (first | apply Kd.R_alloc | apply Kd.R_drewN | apply Kd.R_drew)); exact HO_288006.out⟩, ⟨by (with_reducible repeat (first | refine blk_drewN ?_ _ | refine blk_drew ?_ | refine blk_alloc ?_ _)); exact BK287.out⟩, ⟨by repeat (first | (with_reducible first | exact HB.out | apply below_alloc | apply pw_below_drewN | apply below_drew1 | refine below_set ?_ GE287.out) | exact HB.out)⟩⟩
        case round =>
         clear H'
         try clear c1
         try clear c2
         try clear p2
         try clear c3
         try clear c4
         try clear c5
         try clear p6
         try clear c8
         try clear c8b0
         try clear c11
         try clear c12
         try clear c15
         try clear c18
         try clear c20
         try clear c21
         try clear c22
         try clear c24
         try clear c27
         try clear c36
         try clear c36b0
         try clear c36b1
         try clear c41
         try clear c48
         try clear c48b0
         try clear c48b1
         try clear c48b2
         try clear c49
         try clear c51
         try clear c53
         try clear hcz16_0
         try clear hcz16_1
         try clear hcz16_2
         try clear hcz16_3
         try clear hcz16_4
         try clear hcz16_5
         try clear hcz16_6
         try clear hcz16_7
         try clear hcz23_0
         try clear hcz23_1
         try clear hcz23_2
         try clear hcz23_3
         try clear hcz23_4
         try clear hcz23_5
         try clear hcz23_6
         try clear hcz23_7
         try clear hcz28_0
         try clear hcz28_1
         try clear hcz28_2
         try clear hcz28_3
         try clear hcz28_4
         try clear hcz28_5
         try clear hcz28_6
         try clear hcz28_7
         try clear hcz42_0
         try clear hcz42_1
         try clear hcz42_2
         try clear hcz42_3
         try clear hcz42_4
         try clear hcz42_5
         try clear hcz42_6
         try clear hcz42_7
         try clear hcz50_0
         try clear hcz50_1
         try clear hcz50_2
         try clear hcz50_3
         try clear hcz50_4
         try clear hcz50_5
         try clear hcz50_6
         try clear hcz50_7
         try clear hcz52_0
         try clear hcz52_1
         try clear hcz52_2
         try clear hcz52_3
         try clear hcz52_4
         try clear hcz52_5
         try clear hcz52_6
         try clear hcz52_7
         try clear hfz16_0
         try clear hfz16_1
         try clear hfz16_2
         try clear hfz16_3
         try clear hfz16_4
         try clear hfz16_5
         try clear hfz16_6
         try clear hfz16_7
         try clear hfz23_0
         try clear hfz23_1
         try clear hfz23_2
         try clear hfz23_3
         try clear hfz23_4
         try clear hfz23_5
         try clear hfz23_6
         try clear hfz23_7
         try clear hfz28_0
         try clear hfz28_1
         try clear hfz28_2
         try clear hfz28_3
         try clear hfz28_4
         try clear hfz28_5
         try clear hfz28_6
         try clear hfz28_7
         try clear hfz42_0
         try clear hfz42_1
         try clear hfz42_2
         try clear hfz42_3
         try clear hfz42_4
         try clear hfz42_5
         try clear hfz42_6
         try clear hfz42_7
         try clear hfz50_0
         try clear hfz50_1
         try clear hfz50_2
         try clear hfz50_3
         try clear hfz50_4
         try clear hfz50_5
         try clear hfz50_6
         try clear hfz50_7
         try clear hfz52_0
         try clear hfz52_1
         try clear hfz52_2
         try clear hfz52_3
         try clear hfz52_4
         try clear hfz52_5
         try clear hfz52_6
         try clear hfz52_7
         try clear p2
         try clear p6
         obtain ⟨x9_3, x10_3, x11_3, x63_3, rfl, rfl, rfl, rfl, HA, HK3, HO_61, HO_288002, HO_288003, HO_288004, HO_288005, HO_288006, BK287, HB⟩ := hrel
         cases gk with
         | zero => exact absurd HA.out (by simp [law16_ProductSpares.l1])
         | succ k3 =>
          have H := HA.out
          clear HA
          simp only [law16_ProductSpares.l1] at H
          by_cases c54 : x63_3 < (x4_1.length : Int)
          ·
           rw [if_pos c54] at H
           have c54b0 : decide (x63_3 < (x4_1.length : Int)) = true := decide_eq_true c54
           clear c54
           by_cases c55 : 0 ≤ x63_3
           rotate_left
           ·
            rw [if_neg c55] at H
            exact absurd H (by simp)
           rw [if_pos c55] at H
           have c55b0 : decide (0 ≤ x63_3) = true := decide_eq_true c55
           clear c55
           by_cases c56 : x63_3 < (x4_1.length : Int)
           rotate_left
           ·
            rw [if_neg c56] at H
            exact absurd H (by simp)
           rw [if_pos c56] at H
           have c56b0 : decide (x63_3 < (x4_1.length : Int)) = true := decide_eq_true c56
           clear c56
           by_cases c57 : x63_3 < (t273.length : Int)
           rotate_left
           ·
            rw [if_neg c57] at H
            exact absurd H (by simp)
           rw [if_pos c57] at H
           have c57b0 : decide (x63_3 < (t273.length : Int)) = true := decide_eq_true c57
           clear c57
           by_cases c58 : (rd t273 x63_3) < x9_3
           ·
            rw [if_pos c58] at H
            have c58b0 : decide ((rd t273 x63_3) < x9_3) = true := decide_eq_true c58
            clear c58
            exact absurd ((Option.some.inj H).trans hr_) (by decide)
           rw [if_neg c58] at H
           have c58b0 : decide ((rd t273 x63_3) < x9_3) = false := decide_eq_false c58
           clear c58
           by_cases c59 : (wrap64 ((rd t273 x63_3) - x9_3)) ≥ ((rd_T31 x4_1 x63_3).f1)
           ·
            rw [if_pos c59] at H
            have c59b0 : decide (((rd_T31 x4_1 x63_3).f1) ≤ (wrap64 ((rd t273 x63_3) - x9_3))) = true := decide_eq_true c59
            clear c59
            exact absurd ((Option.some.inj H).trans hr_) (by decide)
           rw [if_neg c59] at H
           have c59b0 : decide (((rd_T31 x4_1 x63_3).f1) ≤ (wrap64 ((rd t273 x63_3) - x9_3))) = false := decide_eq_false c59
           clear c59
           by_cases c60 : (wrap64 ((rd t273 x63_3) + ((rd_T31 x4_1 x63_3).f0))) > t268
           ·
            rw [if_pos c60] at H
            have c60b0 : decide (t268 < (wrap64 ((rd t273 x63_3) + ((rd_T31 x4_1 x63_3).f0)))) = true := decide_eq_true c60
            clear c60
            exact absurd ((Option.some.inj H).trans hr_) (by decide)
           rw [if_neg c60] at H
           have c60b0 : decide (t268 < (wrap64 ((rd t273 x63_3) + ((rd_T31 x4_1 x63_3).f0)))) = false := decide_eq_false c60
           clear c60
           by_cases c61 : 0 ≤ (rd t273 x63_3)
           rotate_left
           ·
            rw [if_neg c61] at H
            exact absurd H (by simp)
           rw [if_pos c61] at H
           have c61b0 := eq_true c61
           have c61b1 : decide (0 ≤ (rd t273 x63_3)) = true := decide_eq_true c61
           clear c61
           by_cases c62 : (rd t273 x63_3) ≤ (wrap64 ((rd t273 x63_3) + ((rd_T31 x4_1 x63_3).f0)))
           rotate_left
           ·
            rw [if_neg c62] at H
            exact absurd H (by simp)
           rw [if_pos c62] at H
           have c62b0 := eq_true c62
           have c62b1 : decide ((rd t273 x63_3) ≤ (wrap64 ((rd t273 x63_3) + ((rd_T31 x4_1 x63_3).f0)))) = true := decide_eq_true c62
           by_cases c63 : (wrap64 ((rd t273 x63_3) + ((rd_T31 x4_1 x63_3).f0))) ≤ (t270.length : Int)
           rotate_left
           ·
            rw [if_neg c63] at H
            exact absurd H (by simp)
           rw [if_pos c63] at H
           have c63b0 := eq_true c63
           have c63b1 : decide ((wrap64 ((rd t273 x63_3) + ((rd_T31 x4_1 x63_3).f0))) ≤ (t270.length : Int)) = true := decide_eq_true c63
           obtain ⟨y292, hy292⟩ : ∃ y_ : List Int, y_ = ((t270.take ((wrap64 ((rd t273 x63_3) + ((rd_T31 x4_1 x63_3).f0))) : Int).toNat).drop ((rd t273 x63_3) : Int).toNat) := ⟨_, rfl⟩
           replace H : (if (strOfNums y292).toList = (strOfNums ((rd_T31 x4_1 x63_3).f2)).toList then ((ref15_Count.f k3 ((rd_T31 x4_1 x63_3).f2)).bind fun t297 => (law16_ProductSpares.l1 k3 (wrap64 ((rd t273 x63_3) + ((rd_T31 x4_1 x63_3).f0))) (mx x10_3 ((rd_T31 x4_1 x63_3).f1)) (wrap64 (x11_3 + t297)) x4_1 (x4_1.length : Int) (wrap64 (x63_3 + 1)) t268 t269 t270 t273 t276 t279 t282 t285)) else (some false)) = some r := by first | (rw [hy292]; with_reducible exact H) | (have H2_ := (Option.bind_some _ _).symm.trans H; rw [hy292]; with_reducible exact H2_) | (have H2_ := (Option.bind_some _ _).symm.trans H; with_reducible exact H2_) | with_reducible exact H | (rw [hy292]; exact H) | exact H
           have Ny292 := Aside0.mk hy292
           clear hy292
           by_cases c64 : (strOfNums y292).toList = (strOfNums ((rd_T31 x4_1 x63_3).f2)).toList
           rotate_left
           ·
            rw [if_neg c64] at H
            have c64b0 : ((strOfNums y292).toList == (strOfNums ((rd_T31 x4_1 x63_3).f2)).toList) = false := beq_eq_false_iff_ne.mpr c64
            have c64b1 : ((strOfNums y292).toList != (strOfNums ((rd_T31 x4_1 x63_3).f2)).toList) = true := bne_iff_ne.mpr c64
            exact absurd ((Option.some.inj H).trans hr_) (by decide)
           rw [if_pos c64] at H
           have c64b0 : ((strOfNums y292).toList == (strOfNums ((rd_T31 x4_1 x63_3).f2)).toList) = true := beq_iff_eq.mpr c64
           have c64b1 : ((strOfNums y292).toList != (strOfNums ((rd_T31 x4_1 x63_3).f2)).toList) = false := bne_eq_false_iff_eq.mpr c64
           clear c64
           obtain ⟨ji65, hji65⟩ : ∃ j_ : Int, (mx x10_3 ((rd_T31 x4_1 x63_3).f1)) = j_ := ⟨_, rfl⟩
           replace H : ((ref15_Count.f k3 ((rd_T31 x4_1 x63_3).f2)).bind fun t297 => (law16_ProductSpares.l1 k3 (wrap64 ((rd t273 x63_3) + ((rd_T31 x4_1 x63_3).f0))) ji65 (wrap64 (x11_3 + t297)) x4_1 (x4_1.length : Int) (wrap64 (x63_3 + 1)) t268 t269 t270 t273 t276 t279 t282 t285)) = some r := by first | (rw [hji65] at H; exact H) | (simp only [hji65] at H ⊢; exact H)
           have hji65_ : (if x10_3 < ((rd_T31 x4_1 x63_3).f1) then ((rd_T31 x4_1 x63_3).f1) else x10_3) = ji65 := hji65
           replace H := Option.bind_eq_some_iff.mp H
           obtain ⟨t297, A660, H⟩ := H
           replace H : (law16_ProductSpares.l1 k3 (wrap64 ((rd t273 x63_3) + ((rd_T31 x4_1 x63_3).f0))) ji65 (wrap64 (x11_3 + t297)) x4_1 (x4_1.length : Int) (wrap64 (x63_3 + 1)) t268 t269 t270 t273 t276 t279 t282 t285) = some r := H
           have A66 := Aside0.mk A660
           clear A660
           have H' := Aside0.mk H
           clear H
           have p289 : 0 ≤ (x63_3 : Int) := od_
           have q289 : x63_3 < (x4_1.length : Int) := od_
           obtain ⟨ad289, A289_2, c289_2, A289_3, c289_3, A289_4, c289_4, A289_5, c289_5, A289_6, c289_6, e289, hx289_0, hx289_1, hx289_2, hx289_3, hx289_4, hx289_5, hx289_6, hx289_7, hl289_2, hi289_2, hl289_3, hi289_3, hl289_4, hi289_4, hl289_5, hi289_5, hl289_6, hi289_6⟩ := at_T31 (Kd.N_reads' HO_61.out).2.2 x63_3 p289 q289
           cases e289
           obtain ⟨ce289, hce289, hMe289, hcc289⟩ := Kd.N_get HO_61.out z31 x63_3 p289 (by first | exact q289 | exact od_ | (have e_ := (Kd.N_reads' HO_61.out).1; omega))
           obtain ⟨ua289_2, uc289_2, ua289_3, uc289_3, ua289_4, uc289_4, ua289_5, uc289_5, ua289_6, uc289_6, rfl, ul289_2, ge289_2, ul289_3, ge289_3, ul289_4, ge289_4, ul289_5, ge289_5, ul289_6, ge289_6⟩ := k31_openF hMe289
           have hv289_2 := hcc289 2 _ rfl
           rw [add_field _ _ 2 (by omega)] at hv289_2
           replace hv289_2 := Option.some.inj (hv289_2.symm.trans hx289_2)
           injection hv289_2 with hva_ hvn_ hvc_
           rw [hva_] at ge289_2
           rw [hvc_] at ul289_2
           have HL289_2 := Aside0.mk (show Kd.V (Kd.int .u8) 5 _ w.heap.size _ _ ((rd_T31 x4_1 x63_3).f2) from Kd.V_mk ul289_2 ge289_2)
           clear hva_ hvn_ hvc_ ge289_2 ul289_2
           have hv289_3 := hcc289 3 _ rfl
           rw [add_field _ _ 3 (by omega)] at hv289_3
           replace hv289_3 := Option.some.inj (hv289_3.symm.trans hx289_3)
           injection hv289_3 with hva_ hvn_ hvc_
           rw [hva_] at ge289_3
           rw [hvc_] at ul289_3
           have HL289_3 := Aside0.mk (show Kd.V (Kd.int .i64) 3 _ w.heap.size _ _ ((rd_T31 x4_1 x63_3).f3) from Kd.V_mk ul289_3 ge289_3)
           clear hva_ hvn_ hvc_ ge289_3 ul289_3
           have hv289_4 := hcc289 4 _ rfl
           rw [add_field _ _ 4 (by omega)] at hv289_4
           replace hv289_4 := Option.some.inj (hv289_4.symm.trans hx289_4)
           injection hv289_4 with hva_ hvn_ hvc_
           rw [hva_] at ge289_4
           rw [hvc_] at ul289_4
           have HL289_4 := Aside0.mk (show Kd.V k101 101 _ w.heap.size _ _ ((rd_T31 x4_1 x63_3).f4) from Kd.V_mk ul289_4 ge289_4)
           clear hva_ hvn_ hvc_ ge289_4 ul289_4
           have hv289_5 := hcc289 5 _ rfl
           rw [add_field _ _ 5 (by omega)] at hv289_5
           replace hv289_5 := Option.some.inj (hv289_5.symm.trans hx289_5)
           injection hv289_5 with hva_ hvn_ hvc_
           rw [hva_] at ge289_5
           rw [hvc_] at ul289_5
           have HL289_5 := Aside0.mk (show Kd.V k79 79 _ w.heap.size _ _ ((rd_T31 x4_1 x63_3).f5) from Kd.V_mk ul289_5 ge289_5)
           clear hva_ hvn_ hvc_ ge289_5 ul289_5
           have hv289_6 := hcc289 6 _ rfl
           rw [add_field _ _ 6 (by omega)] at hv289_6
           replace hv289_6 := Option.some.inj (hv289_6.symm.trans hx289_6)
           injection hv289_6 with hva_ hvn_ hvc_
           rw [hva_] at ge289_6
           rw [hvc_] at ul289_6
           have HL289_6 := Aside0.mk (show Kd.V (Kd.int .i64) 3 _ w.heap.size _ _ ((rd_T31 x4_1 x63_3).f6) from Kd.V_mk ul289_6 ge289_6)
           clear hva_ hvn_ hvc_ ge289_6 ul289_6
           clear hcc289 hce289
           have HR289_2 := Aside0.mk hi289_2
           have HC289_2 := Aside0.mk hl289_2
           clear hi289_2 hl289_2
           have HR289_3 := Aside0.mk hi289_3
           have HC289_3 := Aside0.mk hl289_3
           clear hi289_3 hl289_3
           have HR289_4 := Aside0.mk hi289_4
           have HC289_4 := Aside0.mk hl289_4
           clear hi289_4 hl289_4
           have HR289_5 := Aside0.mk hi289_5
           have HC289_5 := Aside0.mk hl289_5
           clear hi289_5 hl289_5
           have HR289_6 := Aside0.mk hi289_6
           have HC289_6 := Aside0.mk hl289_6
           clear hi289_6 hl289_6
           replace p289 := eq_true p289
           replace q289 := eq_true q289
           try go_wp2_with (first | ((with_reducible refine gate_dst (N := 13) rfl ?_); (try (refine gate_guard (by rfl) ?_; dsimp only)); refine box_event ?hg (N := 13) ?hd (cs := #[.int .i64 0, .int .i64 0, .slice none 0 0, .slice none 0 0, .slice none 0 0, .slice none 0 0, .slice none 0 0, .bool false]) (t := 31) ?hr ?_; (case hd => rfl); (case hg => rfl); (case hr => first | (go_simp; done) | (go_simp; rfl)); intro gb290 hg w67 hbox hb; have n0_ := Aside0.mk (Kd.N_below (Kd.N_elderB (kN_ HO_61.out) gb290 (Nat.le_of_eq hg.symm)) hb); have n1_ := Aside0.mk (Kd.R_below (kR_ HO_288002.out) hb); have n2_ := Aside0.mk (Kd.R_below (kR_ HO_288003.out) hb); have n3_ := Aside0.mk (Kd.N_below (Kd.N_elderB (kN_ HO_288004.out) gb290 (Nat.le_of_eq hg.symm)) hb); have n4_ := Aside0.mk (Kd.N_below (Kd.N_elderB (kN_ HO_288005.out) gb290 (Nat.le_of_eq hg.symm)) hb); have n5_ := Aside0.mk (Kd.R_below (kR_ HO_288006.out) hb); have n6_ := Aside0.mk (Kd.V_below (Kd.V_elderB (kV_ HL289_2.out) gb290 (Nat.le_of_eq hg.symm)) hb); have n7_ := Aside0.mk (Kd.V_below (Kd.V_elderB (kV_ HL289_3.out) gb290 (Nat.le_of_eq hg.symm)) hb); have n8_ := Aside0.mk (Kd.V_below (Kd.V_elderB (kV_ HL289_4.out) gb290 (Nat.le_of_eq hg.symm)) hb); have n9_ := Aside0.mk (Kd.V_below (Kd.V_elderB (kV_ HL289_5.out) gb290 (Nat.le_of_eq hg.symm)) hb); have n10_ := Aside0.mk (Kd.V_below (Kd.V_elderB (kV_ HL289_6.out) gb290 (Nat.le_of_eq hg.symm)) hb); have n11_ := Aside0.mk (blk_below (g := gb287) (o := .cells #[.int .i64 t268, .int .i64 t269, .slice Ao43 t270.length co43, .slice Ao44 t273.length co44, .slice Ao45 t276.length co45, .slice Ao46 t279.length co46, .slice Ao47 t282.length co47, .bool t285] 31 (0, 0)) (bk_ BK287.out) hb); have n12_ := Aside0.mk (Kd.C_below (kC_ HR289_2.out) hb); have n13_ := Aside0.mk (Kd.C_below (kC_ HR289_3.out) hb); have n14_ := Aside0.mk (Kd.C_below (kC_ HR289_4.out) hb); have n15_ := Aside0.mk (Kd.C_below (kC_ HR289_5.out) hb); have n16_ := Aside0.mk (Kd.C_below (kC_ HR289_6.out) hb); have n17_ := Aside0.mk (below_step (hb1_ HB.out GE287.out) hb); have n18_ := Aside0.mk (hbox); have n19_ := Aside0.mk ((by rw [hg]; exact (below_size (hb1_ HB.out GE287.out)) : w.heap.size ≤ gb290)); have n20_ := Aside0.mk ((by rw [hg]; exact (below_size (hb1_ HB.out GE287.out)) : w.heap.size ≤ gb290)); have n21_ := Aside0.mk ((by rw [hg]; exact Nat.ne_of_lt (blk_lt (g := gb287) (o := .cells #[.int .i64 t268, .int .i64 t269, .slice Ao43 t270.length co43, .slice Ao44 t273.length co44, .slice Ao45 t276.length co45, .slice Ao46 t279.length co46, .slice Ao47 t282.length co47, .bool t285] 31 (0, 0)) (bk_ BK287.out)) : gb287 ≠ gb290)); have n22_ := Aside0.mk ((by rw [hg]; exact Nat.ne_of_gt (blk_lt (g := gb287) (o := .cells #[.int .i64 t268, .int .i64 t269, .slice Ao43 t270.length co43, .slice Ao44 t273.length co44, .slice Ao45 t276.length co45, .slice Ao46 t279.length co46, .slice Ao47 t282.length co47, .bool t285] 31 (0, 0)) (bk_ BK287.out)) : gb290 ≠ gb287)); clear HO_61 HO_288002 HO_288003 HO_288004 HO_288005 HO_288006 HL289_2 HL289_3 HL289_4 HL289_5 HL289_6 BK287 HR289_2 HR289_3 HR289_4 HR289_5 HR289_6 HB; have HO_61 := n0_; have HO_288002 := n1_; have HO_288003 := n2_; have HO_288004 := n3_; have HO_288005 := n4_; have HO_288006 := n5_; have HL289_2 := n6_; have HL289_3 := n7_; have HL289_4 := n8_; have HL289_5 := n9_; have HL289_6 := n10_; have BK287 := n11_; have HR289_2 := n12_; have HR289_3 := n13_; have HR289_4 := n14_; have HR289_5 := n15_; have HR289_6 := n16_; have HB := n17_; have BK290 := n18_; have GW290 := n19_; have GE290 := n20_; have NB287_290 := n21_; have NB290_287 := n22_; clear n0_ n1_ n2_ n3_ n4_ n5_ n6_ n7_ n8_ n9_ n10_ n11_ n12_ n13_ n14_ n15_ n16_ n17_ n18_ n19_ n20_ n21_ n22_ hb hbox hg; have hnb68 := NB290_287.out; have hnc68 := NB287_290.out; have hcz69_0 : w67.cell? ⟨gb290, 0, none⟩ = some (.int .i64 0) := (blk_cell BK290.out 0).trans rfl; have hcz69_1 : w67.cell? ⟨gb290, 1, none⟩ = some (.int .i64 0) := (blk_cell BK290.out 1).trans rfl; have hcz69_2 : w67.cell? ⟨gb290, 2, none⟩ = some (.slice none 0 0) := (blk_cell BK290.out 2).trans rfl; have hcz69_3 : w67.cell? ⟨gb290, 3, none⟩ = some (.slice none 0 0) := (blk_cell BK290.out 3).trans rfl; have hcz69_4 : w67.cell? ⟨gb290, 4, none⟩ = some (.slice none 0 0) := (blk_cell BK290.out 4).trans rfl; have hcz69_5 : w67.cell? ⟨gb290, 5, none⟩ = some (.slice none 0 0) := (blk_cell BK290.out 5).trans rfl; have hcz69_6 : w67.cell? ⟨gb290, 6, none⟩ = some (.slice none 0 0) := (blk_cell BK290.out 6).trans rfl; have hcz69_7 : w67.cell? ⟨gb290, 7, none⟩ = some (.bool false) := (blk_cell BK290.out 7).trans rfl; have hfz69_0 := blk_frozen BK290.out 0; have hfz69_1 := blk_frozen BK290.out 1; have hfz69_2 := blk_frozen BK290.out 2; have hfz69_3 := blk_frozen BK290.out 3; have hfz69_4 := blk_frozen BK290.out 4; have hfz69_5 := blk_frozen BK290.out 5; have hfz69_6 := blk_frozen BK290.out 6; have hfz69_7 := blk_frozen BK290.out 7; have hcz70_0 : w67.cell? ⟨gb287, 0, none⟩ = some (.int .i64 t268) := (blk_cell BK287.out 0).trans rfl; have hcz70_1 : w67.cell? ⟨gb287, 1, none⟩ = some (.int .i64 t269) := (blk_cell BK287.out 1).trans rfl; have hcz70_2 : w67.cell? ⟨gb287, 2, none⟩ = some (.slice Ao43 t270.length co43) := (blk_cell BK287.out 2).trans rfl; have hcz70_3 : w67.cell? ⟨gb287, 3, none⟩ = some (.slice Ao44 t273.length co44) := (blk_cell BK287.out 3).trans rfl; have hcz70_4 : w67.cell? ⟨gb287, 4, none⟩ = some (.slice Ao45 t276.length co45) := (blk_cell BK287.out 4).trans rfl; have hcz70_5 : w67.cell? ⟨gb287, 5, none⟩ = some (.slice Ao46 t279.length co46) := (blk_cell BK287.out 5).trans rfl; have hcz70_6 : w67.cell? ⟨gb287, 6, none⟩ = some (.slice Ao47 t282.length co47) := (blk_cell BK287.out 6).trans rfl; have hcz70_7 : w67.cell? ⟨gb287, 7, none⟩ = some (.bool t285) := (blk_cell BK287.out 7).trans rfl; have hfz70_0 := blk_frozen BK287.out 0; have hfz70_1 := blk_frozen BK287.out 1; have hfz70_2 := blk_frozen BK287.out 2; have hfz70_3 := blk_frozen BK287.out 3; have hfz70_4 := blk_frozen BK287.out 4; have hfz70_5 := blk_frozen BK287.out 5; have hfz70_6 := blk_frozen BK287.out 6; have hfz70_7 := blk_frozen BK287.out 7; have p291 : 0 ≤ (x63_3 : Int) := od_; have q291 : x63_3 < (t273.length : Int) := od_; obtain ⟨ad291, e291, hx291_0⟩ := Kd.at_int (Kd.R_reads' HO_288003.out).2.2 x63_3 p291 q291; cases e291; have hn291_0 : ad291.block ≠ gb290 := Kd.own_blk (Kd.R_ne HO_288003.out BK290.out (by decide)); have hn291_1 : ad291.block ≠ gb290 := Kd.own_blk (Kd.R_ne HO_288003.out BK290.out (by decide)); have hn291_2 : ad291.block ≠ gb290 := Kd.own_blk (Kd.R_ne HO_288003.out BK290.out (by decide)); have hn291_3 : ad291.block ≠ gb290 := Kd.own_blk (Kd.R_ne HO_288003.out BK290.out (by decide)); have hn291_4 : ad291.block ≠ gb290 := Kd.own_blk (Kd.R_ne HO_288003.out BK290.out (by decide)); have hn291_5 : ad291.block ≠ gb290 := Kd.own_blk (Kd.R_ne HO_288003.out BK290.out (by decide)); have hn291_6 : ad291.block ≠ gb290 := Kd.own_blk (Kd.R_ne HO_288003.out BK290.out (by decide)); have hn291_7 : ad291.block ≠ gb290 := Kd.own_blk (Kd.R_ne HO_288003.out BK290.out (by decide)); replace hx291_0 := (cell_far (p := ⟨gb290, 0, none⟩) (by first | (rw [add_block]; exact hn291_0) | (show (Addr.add _ _).block ≠ _; rw [add_block]; exact hn291_0) | exact hn291_0) (.int .i64 ((rd_T31 x4_1 x63_3).f0))).trans hx291_0; replace hx291_0 := (cell_far (p := ⟨gb290, 1, none⟩) (by first | (rw [add_block]; exact hn291_1) | (show (Addr.add _ _).block ≠ _; rw [add_block]; exact hn291_1) | exact hn291_1) (.int .i64 ((rd_T31 x4_1 x63_3).f1))).trans hx291_0; replace hx291_0 := (cell_far (p := ⟨gb290, 2, none⟩) (by first | (rw [add_block]; exact hn291_2) | (show (Addr.add _ _).block ≠ _; rw [add_block]; exact hn291_2) | exact hn291_2) (.slice A289_2 ((rd_T31 x4_1 x63_3).f2).length c289_2)).trans hx291_0; replace hx291_0 := (cell_far (p := ⟨gb290, 3, none⟩) (by first | (rw [add_block]; exact hn291_3) | (show (Addr.add _ _).block ≠ _; rw [add_block]; exact hn291_3) | exact hn291_3) (.slice A289_3 ((rd_T31 x4_1 x63_3).f3).length c289_3)).trans hx291_0; replace hx291_0 := (cell_far (p := ⟨gb290, 4, none⟩) (by first | (rw [add_block]; exact hn291_4) | (show (Addr.add _ _).block ≠ _; rw [add_block]; exact hn291_4) | exact hn291_4) (.slice A289_4 ((rd_T31 x4_1 x63_3).f4).length c289_4)).trans hx291_0; replace hx291_0 := (cell_far (p := ⟨gb290, 5, none⟩) (by first | (rw [add_block]; exact hn291_5) | (show (Addr.add _ _).block ≠ _; rw [add_block]; exact hn291_5) | exact hn291_5) (.slice A289_5 ((rd_T31 x4_1 x63_3).f5).length c289_5)).trans hx291_0; replace hx291_0 := (cell_far (p := ⟨gb290, 6, none⟩) (by first | (rw [add_block]; exact hn291_6) | (show (Addr.add _ _).block ≠ _; rw [add_block]; exact hn291_6) | exact hn291_6) (.slice A289_6 ((rd_T31 x4_1 x63_3).f6).length c289_6)).trans hx291_0; replace hx291_0 := (cell_far (p := ⟨gb290, 7, none⟩) (by first | (rw [add_block]; exact hn291_7) | (show (Addr.add _ _).block ≠ _; rw [add_block]; exact hn291_7) | exact hn291_7) (.bool ((rd_T31 x4_1 x63_3).f7))).trans hx291_0; clear hn291_0 hn291_1 hn291_2 hn291_3 hn291_4 hn291_5 hn291_6 hn291_7; replace p291 := eq_true p291; replace q291 := eq_true q291))
           obtain ⟨w71, hW_⟩ : ∃ w_ : World, ((((((((w67.setCell ⟨gb290, 0, none⟩ (.int .i64 ((rd_T31 x4_1 x63_3).f0))).setCell ⟨gb290, 1, none⟩ (.int .i64 ((rd_T31 x4_1 x63_3).f1))).setCell ⟨gb290, 2, none⟩ (.slice A289_2 ((rd_T31 x4_1 x63_3).f2).length c289_2)).setCell ⟨gb290, 3, none⟩ (.slice A289_3 ((rd_T31 x4_1 x63_3).f3).length c289_3)).setCell ⟨gb290, 4, none⟩ (.slice A289_4 ((rd_T31 x4_1 x63_3).f4).length c289_4)).setCell ⟨gb290, 5, none⟩ (.slice A289_5 ((rd_T31 x4_1 x63_3).f5).length c289_5)).setCell ⟨gb290, 6, none⟩ (.slice A289_6 ((rd_T31 x4_1 x63_3).f6).length c289_6)).setCell ⟨gb290, 7, none⟩ (.bool ((rd_T31 x4_1 x63_3).f7))) = w_ := ⟨_, rfl⟩
           have n0_ : Aside0 (Kd.N k31 31 w71 w.heap.size (fun k_ => some k_ ≠ (.slice Ao43 t270.length co43 : Value).ownBlock ∧ some k_ ≠ (.slice (some ad291) t273.length co44 : Value).ownBlock ∧ some k_ ≠ (.slice Ao45 t276.length co45 : Value).ownBlock ∧ some k_ ≠ (.slice Ao46 t279.length co46 : Value).ownBlock ∧ some k_ ≠ (.slice Ao47 t282.length co47 : Value).ownBlock ∧ k_ ≠ gb287 ∧ k_ ≠ gb290) (.slice (some ad289) x4_1.length co38) x4_1) := ⟨by rw [← hW_]; exact by (with_reducible repeat (first | apply Kd.N_alloc | apply Kd.N_drewN | apply Kd.N_drew)); exact Kd.N_mono (Kd.N_far (p := ⟨gb290, 7, none⟩) (Kd.N_far (p := ⟨gb290, 6, none⟩) (Kd.N_far (p := ⟨gb290, 5, none⟩) (Kd.N_far (p := ⟨gb290, 4, none⟩) (Kd.N_far (p := ⟨gb290, 3, none⟩) (Kd.N_far (p := ⟨gb290, 2, none⟩) (Kd.N_far (p := ⟨gb290, 1, none⟩) (Kd.N_far (p := ⟨gb290, 0, none⟩) (Kd.N_mono HO_61.out (fun k_ hk => (⟨hk, hk.2⟩ : _ ∧ k_ ≠ gb290))) (fun _ hk => hk.2) (.int .i64 ((rd_T31 x4_1 x63_3).f0))) (fun _ hk => hk.2) (.int .i64 ((rd_T31 x4_1 x63_3).f1))) (fun _ hk => hk.2) (.slice A289_2 ((rd_T31 x4_1 x63_3).f2).length c289_2)) (fun _ hk => hk.2) (.slice A289_3 ((rd_T31 x4_1 x63_3).f3).length c289_3)) (fun _ hk => hk.2) (.slice A289_4 ((rd_T31 x4_1 x63_3).f4).length c289_4)) (fun _ hk => hk.2) (.slice A289_5 ((rd_T31 x4_1 x63_3).f5).length c289_5)) (fun _ hk => hk.2) (.slice A289_6 ((rd_T31 x4_1 x63_3).f6).length c289_6)) (fun _ hk => hk.2) (.bool ((rd_T31 x4_1 x63_3).f7))) (fun _ hk => ⟨hk.1.1.1, ⟨hk.1.1.2.1, ⟨hk.1.1.2.2.1, ⟨hk.1.1.2.2.2.1, ⟨hk.1.1.2.2.2.2.1, ⟨hk.1.1.2.2.2.2.2, hk.1.2⟩⟩⟩⟩⟩⟩)⟩
           have n1_ : Aside0 (Kd.R (Kd.int .u8) 5 w71 w.heap.size (fun _ => True) (.slice Ao43 t270.length co43) t270) := ⟨by rw [← hW_]; exact by (with_reducible repeat (first | apply Kd.R_alloc | apply Kd.R_drewN | apply Kd.R_drew)); exact Kd.R_mono (Kd.R_far (p := ⟨gb290, 7, none⟩) (Kd.R_far (p := ⟨gb290, 6, none⟩) (Kd.R_far (p := ⟨gb290, 5, none⟩) (Kd.R_far (p := ⟨gb290, 4, none⟩) (Kd.R_far (p := ⟨gb290, 3, none⟩) (Kd.R_far (p := ⟨gb290, 2, none⟩) (Kd.R_far (p := ⟨gb290, 1, none⟩) (Kd.R_far (p := ⟨gb290, 0, none⟩) (Kd.R_types HO_288002.out BK290.out (by decide)) (fun _ hk => hk.2) (.int .i64 ((rd_T31 x4_1 x63_3).f0))) (fun _ hk => hk.2) (.int .i64 ((rd_T31 x4_1 x63_3).f1))) (fun _ hk => hk.2) (.slice A289_2 ((rd_T31 x4_1 x63_3).f2).length c289_2)) (fun _ hk => hk.2) (.slice A289_3 ((rd_T31 x4_1 x63_3).f3).length c289_3)) (fun _ hk => hk.2) (.slice A289_4 ((rd_T31 x4_1 x63_3).f4).length c289_4)) (fun _ hk => hk.2) (.slice A289_5 ((rd_T31 x4_1 x63_3).f5).length c289_5)) (fun _ hk => hk.2) (.slice A289_6 ((rd_T31 x4_1 x63_3).f6).length c289_6)) (fun _ hk => hk.2) (.bool ((rd_T31 x4_1 x63_3).f7))) (fun _ hk => trivial)⟩
           have n2_ : Aside0 (Kd.R (Kd.int .i64) 3 w71 w.heap.size (fun k_ => some k_ ≠ (.slice Ao47 t282.length co47 : Value).ownBlock) (.slice (some ad291) t273.length co44) t273) := ⟨by rw [← hW_]; exact by (with_reducible repeat (first | apply Kd.R_alloc | apply Kd.R_drewN | apply Kd.R_drew)); exact Kd.R_mono (Kd.R_far (p := ⟨gb290, 7, none⟩) (Kd.R_far (p := ⟨gb290, 6, none⟩) (Kd.R_far (p := ⟨gb290, 5, none⟩) (Kd.R_far (p := ⟨gb290, 4, none⟩) (Kd.R_far (p := ⟨gb290, 3, none⟩) (Kd.R_far (p := ⟨gb290, 2, none⟩) (Kd.R_far (p := ⟨gb290, 1, none⟩) (Kd.R_far (p := ⟨gb290, 0, none⟩) (Kd.R_types HO_288003.out BK290.out (by decide)) (fun _ hk => hk.2) (.int .i64 ((rd_T31 x4_1 x63_3).f0))) (fun _ hk => hk.2) (.int .i64 ((rd_T31 x4_1 x63_3).f1))) (fun _ hk => hk.2) (.slice A289_2 ((rd_T31 x4_1 x63_3).f2).length c289_2)) (fun _ hk => hk.2) (.slice A289_3 ((rd_T31 x4_1 x63_3).f3).length c289_3)) (fun _ hk => hk.2) (.slice A289_4 ((rd_T31 x4_1 x63_3).f4).length c289_4)) (fun _ hk => hk.2) (.slice A289_5 ((rd_T31 x4_1 x63_3).f5).length c289_5)) (fun _ hk => hk.2) (.slice A289_6 ((rd_T31 x4_1 x63_3).f6).length c289_6)) (fun _ hk => hk.2) (.bool ((rd_T31 x4_1 x63_3).f7))) (fun _ hk => hk.1)⟩
           have n3_ : Aside0 (Kd.N k101 101 w71 w.heap.size (fun k_ => some k_ ≠ (.slice (some ad289) x4_1.length co38 : Value).ownBlock ∧ some k_ ≠ (.slice Ao43 t270.length co43 : Value).ownBlock ∧ some k_ ≠ (.slice (some ad291) t273.length co44 : Value).ownBlock ∧ some k_ ≠ (.slice Ao46 t279.length co46 : Value).ownBlock ∧ some k_ ≠ (.slice Ao47 t282.length co47 : Value).ownBlock ∧ k_ ≠ gb287 ∧ k_ ≠ gb290) (.slice Ao45 t276.length co45) t276) := ⟨by rw [← hW_]; exact by (with_reducible repeat (first | apply Kd.N_alloc | apply Kd.N_drewN | apply Kd.N_drew)); exact Kd.N_mono (Kd.N_far (p := ⟨gb290, 7, none⟩) (Kd.N_far (p := ⟨gb290, 6, none⟩) (Kd.N_far (p := ⟨gb290, 5, none⟩) (Kd.N_far (p := ⟨gb290, 4, none⟩) (Kd.N_far (p := ⟨gb290, 3, none⟩) (Kd.N_far (p := ⟨gb290, 2, none⟩) (Kd.N_far (p := ⟨gb290, 1, none⟩) (Kd.N_far (p := ⟨gb290, 0, none⟩) (Kd.N_mono HO_288004.out (fun k_ hk => (⟨hk, hk.2⟩ : _ ∧ k_ ≠ gb290))) (fun _ hk => hk.2) (.int .i64 ((rd_T31 x4_1 x63_3).f0))) (fun _ hk => hk.2) (.int .i64 ((rd_T31 x4_1 x63_3).f1))) (fun _ hk => hk.2) (.slice A289_2 ((rd_T31 x4_1 x63_3).f2).length c289_2)) (fun _ hk => hk.2) (.slice A289_3 ((rd_T31 x4_1 x63_3).f3).length c289_3)) (fun _ hk => hk.2) (.slice A289_4 ((rd_T31 x4_1 x63_3).f4).length c289_4)) (fun _ hk => hk.2) (.slice A289_5 ((rd_T31 x4_1 x63_3).f5).length c289_5)) (fun _ hk => hk.2) (.slice A289_6 ((rd_T31 x4_1 x63_3).f6).length c289_6)) (fun _ hk => hk.2) (.bool ((rd_T31 x4_1 x63_3).f7))) (fun _ hk => ⟨hk.1.1.1, ⟨hk.1.1.2.1, ⟨hk.1.1.2.2.1, ⟨hk.1.1.2.2.2.1, ⟨hk.1.1.2.2.2.2.1, ⟨hk.1.1.2.2.2.2.2, hk.1.2⟩⟩⟩⟩⟩⟩)⟩
           have n4_ : Aside0 (Kd.N k79 79 w71 w.heap.size (fun k_ => some k_ ≠ (.slice (some ad289) x4_1.length co38 : Value).ownBlock ∧ some k_ ≠ (.slice Ao43 t270.length co43 : Value).ownBlock ∧ some k_ ≠ (.slice (some ad291) t273.length co44 : Value).ownBlock ∧ some k_ ≠ (.slice Ao45 t276.length co45 : Value).ownBlock ∧ some k_ ≠ (.slice Ao47 t282.length co47 : Value).ownBlock ∧ k_ ≠ gb287 ∧ k_ ≠ gb290) (.slice Ao46 t279.length co46) t279) := ⟨by rw [← hW_]; exact by (with_reducible repeat (first | apply Kd.N_alloc | apply Kd.N_drewN | apply Kd.N_drew)); exact Kd.N_mono (Kd.N_far (p := ⟨gb290, 7, none⟩) (Kd.N_far (p := ⟨gb290, 6, none⟩) (Kd.N_far (p := ⟨gb290, 5, none⟩) (Kd.N_far (p := ⟨gb290, 4, none⟩) (Kd.N_far (p := ⟨gb290, 3, none⟩) (Kd.N_far (p := ⟨gb290, 2, none⟩) (Kd.N_far (p := ⟨gb290, 1, none⟩) (Kd.N_far (p := ⟨gb290, 0, none⟩) (Kd.N_mono HO_288005.out (fun k_ hk => (⟨hk, hk.2⟩ : _ ∧ k_ ≠ gb290))) (fun _ hk => hk.2) (.int .i64 ((rd_T31 x4_1 x63_3).f0))) (fun _ hk => hk.2) (.int .i64 ((rd_T31 x4_1 x63_3).f1))) (fun _ hk => hk.2) (.slice A289_2 ((rd_T31 x4_1 x63_3).f2).length c289_2)) (fun _ hk => hk.2) (.slice A289_3 ((rd_T31 x4_1 x63_3).f3).length c289_3)) (fun _ hk => hk.2) (.slice A289_4 ((rd_T31 x4_1 x63_3).f4).length c289_4)) (fun _ hk => hk.2) (.slice A289_5 ((rd_T31 x4_1 x63_3).f5).length c289_5)) (fun _ hk => hk.2) (.slice A289_6 ((rd_T31 x4_1 x63_3).f6).length c289_6)) (fun _ hk => hk.2) (.bool ((rd_T31 x4_1 x63_3).f7))) (fun _ hk => ⟨hk.1.1.1, ⟨hk.1.1.2.1, ⟨hk.1.1.2.2.1, ⟨hk.1.1.2.2.2.1, ⟨hk.1.1.2.2.2.2.1, ⟨hk.1.1.2.2.2.2.2, hk.1.2⟩⟩⟩⟩⟩⟩)⟩
           have n5_ : Aside0 (Kd.R (Kd.int .i64) 3 w71 w.heap.size (fun k_ => some k_ ≠ (.slice (some ad291) t273.length co44 : Value).ownBlock) (.slice Ao47 t282.length co47) t282) := ⟨by rw [← hW_]; exact by (with_reducible repeat (first | apply Kd.R_alloc | apply Kd.R_drewN | apply Kd.R_drew)); exact Kd.R_mono (Kd.R_far (p := ⟨gb290, 7, none⟩) (Kd.R_far (p := ⟨gb290, 6, none⟩) (Kd.R_far (p := ⟨gb290, 5, none⟩) (Kd.R_far (p := ⟨gb290, 4, none⟩) (Kd.R_far (p := ⟨gb290, 3, none⟩) (Kd.R_far (p := ⟨gb290, 2, none⟩) (Kd.R_far (p := ⟨gb290, 1, none⟩) (Kd.R_far (p := ⟨gb290, 0, none⟩) (Kd.R_types HO_288006.out BK290.out (by decide)) (fun _ hk => hk.2) (.int .i64 ((rd_T31 x4_1 x63_3).f0))) (fun _ hk => hk.2) (.int .i64 ((rd_T31 x4_1 x63_3).f1))) (fun _ hk => hk.2) (.slice A289_2 ((rd_T31 x4_1 x63_3).f2).length c289_2)) (fun _ hk => hk.2) (.slice A289_3 ((rd_T31 x4_1 x63_3).f3).length c289_3)) (fun _ hk => hk.2) (.slice A289_4 ((rd_T31 x4_1 x63_3).f4).length c289_4)) (fun _ hk => hk.2) (.slice A289_5 ((rd_T31 x4_1 x63_3).f5).length c289_5)) (fun _ hk => hk.2) (.slice A289_6 ((rd_T31 x4_1 x63_3).f6).length c289_6)) (fun _ hk => hk.2) (.bool ((rd_T31 x4_1 x63_3).f7))) (fun _ hk => hk.1)⟩
           have n6_ : Aside0 (Kd.V (Kd.int .u8) 5 w71 w.heap.size (fun k_ => some k_ ≠ (.slice (some ad289) x4_1.length co38 : Value).ownBlock ∧ some k_ ≠ (.slice Ao43 t270.length co43 : Value).ownBlock ∧ some k_ ≠ (.slice (some ad291) t273.length co44 : Value).ownBlock ∧ some k_ ≠ (.slice Ao45 t276.length co45 : Value).ownBlock ∧ some k_ ≠ (.slice Ao46 t279.length co46 : Value).ownBlock ∧ some k_ ≠ (.slice Ao47 t282.length co47 : Value).ownBlock ∧ k_ ≠ gb287 ∧ k_ ≠ gb290) (.slice A289_2 ((rd_T31 x4_1 x63_3).f2).length c289_2) ((rd_T31 x4_1 x63_3).f2)) := ⟨by rw [← hW_]; exact by (with_reducible repeat (first | apply Kd.V_alloc | apply Kd.V_drewN | apply Kd.V_drew)); exact Kd.V_mono (Kd.V_far (p := ⟨gb290, 7, none⟩) (Kd.V_far (p := ⟨gb290, 6, none⟩) (Kd.V_far (p := ⟨gb290, 5, none⟩) (Kd.V_far (p := ⟨gb290, 4, none⟩) (Kd.V_far (p := ⟨gb290, 3, none⟩) (Kd.V_far (p := ⟨gb290, 2, none⟩) (Kd.V_far (p := ⟨gb290, 1, none⟩) (Kd.V_far (p := ⟨gb290, 0, none⟩) (Kd.V_mono HL289_2.out (fun k_ hk => (⟨hk, hk.2⟩ : _ ∧ k_ ≠ gb290))) (fun _ hk => hk.2) (.int .i64 ((rd_T31 x4_1 x63_3).f0))) (fun _ hk => hk.2) (.int .i64 ((rd_T31 x4_1 x63_3).f1))) (fun _ hk => hk.2) (.slice A289_2 ((rd_T31 x4_1 x63_3).f2).length c289_2)) (fun _ hk => hk.2) (.slice A289_3 ((rd_T31 x4_1 x63_3).f3).length c289_3)) (fun _ hk => hk.2) (.slice A289_4 ((rd_T31 x4_1 x63_3).f4).length c289_4)) (fun _ hk => hk.2) (.slice A289_5 ((rd_T31 x4_1 x63_3).f5).length c289_5)) (fun _ hk => hk.2) (.slice A289_6 ((rd_T31 x4_1 x63_3).f6).length c289_6)) (fun _ hk => hk.2) (.bool ((rd_T31 x4_1 x63_3).f7))) (fun _ hk => ⟨hk.1.1.2, ⟨hk.1.1.1.1, ⟨hk.1.1.1.2.1, ⟨hk.1.1.1.2.2.1, ⟨hk.1.1.1.2.2.2.1, ⟨hk.1.1.1.2.2.2.2.1, ⟨hk.1.1.1.2.2.2.2.2, hk.1.2⟩⟩⟩⟩⟩⟩⟩)⟩
           have n7_ : Aside0 (Kd.V (Kd.int .i64) 3 w71 w.heap.size (fun k_ => some k_ ≠ (.slice (some ad289) x4_1.length co38 : Value).ownBlock ∧ some k_ ≠ (.slice Ao43 t270.length co43 : Value).ownBlock ∧ some k_ ≠ (.slice (some ad291) t273.length co44 : Value).ownBlock ∧ some k_ ≠ (.slice Ao45 t276.length co45 : Value).ownBlock ∧ some k_ ≠ (.slice Ao46 t279.length co46 : Value).ownBlock ∧ some k_ ≠ (.slice Ao47 t282.length co47 : Value).ownBlock ∧ k_ ≠ gb287 ∧ k_ ≠ gb290) (.slice A289_3 ((rd_T31 x4_1 x63_3).f3).length c289_3) ((rd_T31 x4_1 x63_3).f3)) := ⟨by rw [← hW_]; exact by (with_reducible repeat (first | apply Kd.V_alloc | apply Kd.V_drewN | apply Kd.V_drew)); exact Kd.V_mono (Kd.V_far (p := ⟨gb290, 7, none⟩) (Kd.V_far (p := ⟨gb290, 6, none⟩) (Kd.V_far (p := ⟨gb290, 5, none⟩) (Kd.V_far (p := ⟨gb290, 4, none⟩) (Kd.V_far (p := ⟨gb290, 3, none⟩) (Kd.V_far (p := ⟨gb290, 2, none⟩) (Kd.V_far (p := ⟨gb290, 1, none⟩) (Kd.V_far (p := ⟨gb290, 0, none⟩) (Kd.V_mono HL289_3.out (fun k_ hk => (⟨hk, hk.2⟩ : _ ∧ k_ ≠ gb290))) (fun _ hk => hk.2) (.int .i64 ((rd_T31 x4_1 x63_3).f0))) (fun _ hk => hk.2) (.int .i64 ((rd_T31 x4_1 x63_3).f1))) (fun _ hk => hk.2) (.slice A289_2 ((rd_T31 x4_1 x63_3).f2).length c289_2)) (fun _ hk => hk.2) (.slice A289_3 ((rd_T31 x4_1 x63_3).f3).length c289_3)) (fun _ hk => hk.2) (.slice A289_4 ((rd_T31 x4_1 x63_3).f4).length c289_4)) (fun _ hk => hk.2) (.slice A289_5 ((rd_T31 x4_1 x63_3).f5).length c289_5)) (fun _ hk => hk.2) (.slice A289_6 ((rd_T31 x4_1 x63_3).f6).length c289_6)) (fun _ hk => hk.2) (.bool ((rd_T31 x4_1 x63_3).f7))) (fun _ hk => ⟨hk.1.1.2, ⟨hk.1.1.1.1, ⟨hk.1.1.1.2.1, ⟨hk.1.1.1.2.2.1, ⟨hk.1.1.1.2.2.2.1, ⟨hk.1.1.1.2.2.2.2.1, ⟨hk.1.1.1.2.2.2.2.2, hk.1.2⟩⟩⟩⟩⟩⟩⟩)⟩
           have n8_ : Aside0 (Kd.V k101 101 w71 w.heap.size (fun k_ => some k_ ≠ (.slice (some ad289) x4_1.length co38 : Value).ownBlock ∧ some k_ ≠ (.slice Ao43 t270.length co43 : Value).ownBlock ∧ some k_ ≠ (.slice (some ad291) t273.length co44 : Value).ownBlock ∧ some k_ ≠ (.slice Ao45 t276.length co45 : Value).ownBlock ∧ some k_ ≠ (.slice Ao46 t279.length co46 : Value).ownBlock ∧ some k_ ≠ (.slice Ao47 t282.length co47 : Value).ownBlock ∧ k_ ≠ gb287 ∧ k_ ≠ gb290) (.slice A289_4 ((rd_T31 x4_1 x63_3).f4).length c289_4) ((rd_T31 x4_1 x63_3).f4)) := ⟨by rw [← hW_]; exact by (with_reducible repeat (first | apply Kd.V_alloc | apply Kd.V_drewN | apply Kd.V_drew)); exact Kd.V_mono (Kd.V_far (p := ⟨gb290, 7, none⟩) (Kd.V_far (p := ⟨gb290, 6, none⟩) (Kd.V_far (p := ⟨gb290, 5, none⟩) (Kd.V_far (p := ⟨gb290, 4, none⟩) (Kd.V_far (p := ⟨gb290, 3, none⟩) (Kd.V_far (p := ⟨gb290, 2, none⟩) (Kd.V_far (p := ⟨gb290, 1, none⟩) (Kd.V_far (p := ⟨gb290, 0, none⟩) (Kd.V_mono HL289_4.out (fun k_ hk => (⟨hk, hk.2⟩ : _ ∧ k_ ≠ gb290))) (fun _ hk => hk.2) (.int .i64 ((rd_T31 x4_1 x63_3).f0))) (fun _ hk => hk.2) (.int .i64 ((rd_T31 x4_1 x63_3).f1))) (fun _ hk => hk.2) (.slice A289_2 ((rd_T31 x4_1 x63_3).f2).length c289_2)) (fun _ hk => hk.2) (.slice A289_3 ((rd_T31 x4_1 x63_3).f3).length c289_3)) (fun _ hk => hk.2) (.slice A289_4 ((rd_T31 x4_1 x63_3).f4).length c289_4)) (fun _ hk => hk.2) (.slice A289_5 ((rd_T31 x4_1 x63_3).f5).length c289_5)) (fun _ hk => hk.2) (.slice A289_6 ((rd_T31 x4_1 x63_3).f6).length c289_6)) (fun _ hk => hk.2) (.bool ((rd_T31 x4_1 x63_3).f7))) (fun _ hk => ⟨hk.1.1.2, ⟨hk.1.1.1.1, ⟨hk.1.1.1.2.1, ⟨hk.1.1.1.2.2.1, ⟨hk.1.1.1.2.2.2.1, ⟨hk.1.1.1.2.2.2.2.1, ⟨hk.1.1.1.2.2.2.2.2, hk.1.2⟩⟩⟩⟩⟩⟩⟩)⟩
           have n9_ : Aside0 (Kd.V k79 79 w71 w.heap.size (fun k_ => some k_ ≠ (.slice (some ad289) x4_1.length co38 : Value).ownBlock ∧ some k_ ≠ (.slice Ao43 t270.length co43 : Value).ownBlock ∧ some k_ ≠ (.slice (some ad291) t273.length co44 : Value).ownBlock ∧ some k_ ≠ (.slice Ao45 t276.length co45 : Value).ownBlock ∧ some k_ ≠ (.slice Ao46 t279.length co46 : Value).ownBlock ∧ some k_ ≠ (.slice Ao47 t282.length co47 : Value).ownBlock ∧ k_ ≠ gb287 ∧ k_ ≠ gb290) (.slice A289_5 ((rd_T31 x4_1 x63_3).f5).length c289_5) ((rd_T31 x4_1 x63_3).f5)) := ⟨by rw [← hW_]; exact by (with_reducible repeat (first | apply Kd.V_alloc | apply Kd.V_drewN | apply Kd.V_drew)); exact Kd.V_mono (Kd.V_far (p := ⟨gb290, 7, none⟩) (Kd.V_far (p := ⟨gb290, 6, none⟩) (Kd.V_far (p := ⟨gb290, 5, none⟩) (Kd.V_far (p := ⟨gb290, 4, none⟩) (Kd.V_far (p := ⟨gb290, 3, none⟩) (Kd.V_far (p := ⟨gb290, 2, none⟩) (Kd.V_far (p := ⟨gb290, 1, none⟩) (Kd.V_far (p := ⟨gb290, 0, none⟩) (Kd.V_mono HL289_5.out (fun k_ hk => (⟨hk, hk.2⟩ : _ ∧ k_ ≠ gb290))) (fun _ hk => hk.2) (.int .i64 ((rd_T31 x4_1 x63_3).f0))) (fun _ hk => hk.2) (.int .i64 ((rd_T31 x4_1 x63_3).f1))) (fun _ hk => hk.2) (.slice A289_2 ((rd_T31 x4_1 x63_3).f2).length c289_2)) (fun _ hk => hk.2) (.slice A289_3 ((rd_T31 x4_1 x63_3).f3).length c289_3)) (fun _ hk => hk.2) (.slice A289_4 ((rd_T31 x4_1 x63_3).f4).length c289_4)) (fun _ hk => hk.2) (.slice A289_5 ((rd_T31 x4_1 x63_3).f5).length c289_5)) (fun _ hk => hk.2) (.slice A289_6 ((rd_T31 x4_1 x63_3).f6).length c289_6)) (fun _ hk => hk.2) (.bool ((rd_T31 x4_1 x63_3).f7))) (fun _ hk => ⟨hk.1.1.2, ⟨hk.1.1.1.1, ⟨hk.1.1.1.2.1, ⟨hk.1.1.1.2.2.1, ⟨hk.1.1.1.2.2.2.1, ⟨hk.1.1.1.2.2.2.2.1, ⟨hk.1.1.1.2.2.2.2.2, hk.1.2⟩⟩⟩⟩⟩⟩⟩)⟩
           have n10_ : Aside0 (Kd.V (Kd.int .i64) 3 w71 w.heap.size (fun k_ => some k_ ≠ (.slice (some ad289) x4_1.length co38 : Value).ownBlock ∧ some k_ ≠ (.slice Ao43 t270.length co43 : Value).ownBlock ∧ some k_ ≠ (.slice (some ad291) t273.length co44 : Value).ownBlock ∧ some k_ ≠ (.slice Ao45 t276.length co45 : Value).ownBlock ∧ some k_ ≠ (.slice Ao46 t279.length co46 : Value).ownBlock ∧ some k_ ≠ (.slice Ao47 t282.length co47 : Value).ownBlock ∧ k_ ≠ gb287 ∧ k_ ≠ gb290) (.slice A289_6 ((rd_T31 x4_1 x63_3).f6).length c289_6) ((rd_T31 x4_1 x63_3).f6)) := ⟨by rw [← hW_]; exact by (with_reducible repeat (first | apply Kd.V_alloc | apply Kd.V_drewN | apply Kd.V_drew)); exact Kd.V_mono (Kd.V_far (p := ⟨gb290, 7, none⟩) (Kd.V_far (p := ⟨gb290, 6, none⟩) (Kd.V_far (p := ⟨gb290, 5, none⟩) (Kd.V_far (p := ⟨gb290, 4, none⟩) (Kd.V_far (p := ⟨gb290, 3, none⟩) (Kd.V_far (p := ⟨gb290, 2, none⟩) (Kd.V_far (p := ⟨gb290, 1, none⟩) (Kd.V_far (p := ⟨gb290, 0, none⟩) (Kd.V_mono HL289_6.out (fun k_ hk => (⟨hk, hk.2⟩ : _ ∧ k_ ≠ gb290))) (fun _ hk => hk.2) (.int .i64 ((rd_T31 x4_1 x63_3).f0))) (fun _ hk => hk.2) (.int .i64 ((rd_T31 x4_1 x63_3).f1))) (fun _ hk => hk.2) (.slice A289_2 ((rd_T31 x4_1 x63_3).f2).length c289_2)) (fun _ hk => hk.2) (.slice A289_3 ((rd_T31 x4_1 x63_3).f3).length c289_3)) (fun _ hk => hk.2) (.slice A289_4 ((rd_T31 x4_1 x63_3).f4).length c289_4)) (fun _ hk => hk.2) (.slice A289_5 ((rd_T31 x4_1 x63_3).f5).length c289_5)) (fun _ hk => hk.2) (.slice A289_6 ((rd_T31 x4_1 x63_3).f6).length c289_6)) (fun _ hk => hk.2) (.bool ((rd_T31 x4_1 x63_3).f7))) (fun _ hk => ⟨hk.1.1.2, ⟨hk.1.1.1.1, ⟨hk.1.1.1.2.1, ⟨hk.1.1.1.2.2.1, ⟨hk.1.1.1.2.2.2.1, ⟨hk.1.1.1.2.2.2.2.1, ⟨hk.1.1.1.2.2.2.2.2, hk.1.2⟩⟩⟩⟩⟩⟩⟩)⟩
           have n11_ : Aside0 (w71.heap[gb287]? = some (.cells #[.int .i64 t268, .int .i64 t269, .slice Ao43 t270.length co43, .slice (some ad291) t273.length co44, .slice Ao45 t276.length co45, .slice Ao46 t279.length co46, .slice Ao47 t282.length co47, .bool t285] 31 (0, 0))) := ⟨by rw [← hW_]; exact by (with_reducible repeat (first | refine blk_drewN ?_ _ | refine blk_drew ?_ | refine blk_alloc ?_ _)); refine blk_far ?_ NB287_290.out _; (with_reducible repeat (first | refine blk_drewN ?_ _ | refine blk_drew ?_ | refine blk_alloc ?_ _)); refine blk_far ?_ NB287_290.out _; (with_reducible repeat (first | refine blk_drewN ?_ _ | refine blk_drew ?_ | refine blk_alloc ?_ _)); refine blk_far ?_ NB287_290.out _; (with_reducible repeat (first | refine blk_drewN ?_ _ | refine blk_drew ?_ | refine blk_alloc ?_ _)); refine blk_far ?_ NB287_290.out _; (with_reducible repeat (first | refine blk_drewN ?_ _ | refine blk_drew ?_ | refine blk_alloc ?_ _)); refine blk_far ?_ NB287_290.out _; (with_reducible repeat (first | refine blk_drewN ?_ _ | refine blk_drew ?_ | refine blk_alloc ?_ _)); refine blk_far ?_ NB287_290.out _; (with_reducible repeat (first | refine blk_drewN ?_ _ | refine blk_drew ?_ | refine blk_alloc ?_ _)); refine blk_far ?_ NB287_290.out _; (with_reducible repeat (first | refine blk_drewN ?_ _ | refine blk_drew ?_ | refine blk_alloc ?_ _)); refine blk_far ?_ NB287_290.out _; (with_reducible repeat (first | refine blk_drewN ?_ _ | refine blk_drew ?_ | refine blk_alloc ?_ _)); exact BK287.out⟩
           have n12_ : Aside0 (w71.heap[gb290]? = some (.cells #[.int .i64 ((rd_T31 x4_1 x63_3).f0), .int .i64 ((rd_T31 x4_1 x63_3).f1), .slice A289_2 ((rd_T31 x4_1 x63_3).f2).length c289_2, .slice A289_3 ((rd_T31 x4_1 x63_3).f3).length c289_3, .slice A289_4 ((rd_T31 x4_1 x63_3).f4).length c289_4, .slice A289_5 ((rd_T31 x4_1 x63_3).f5).length c289_5, .slice A289_6 ((rd_T31 x4_1 x63_3).f6).length c289_6, .bool ((rd_T31 x4_1 x63_3).f7)] 31 (0, 0))) := ⟨by rw [← hW_]; exact by (with_reducible repeat (first | refine blk_drewN ?_ _ | refine blk_drew ?_ | refine blk_alloc ?_ _)); refine blk_put (cs := #[.int .i64 ((rd_T31 x4_1 x63_3).f0), .int .i64 ((rd_T31 x4_1 x63_3).f1), .slice A289_2 ((rd_T31 x4_1 x63_3).f2).length c289_2, .slice A289_3 ((rd_T31 x4_1 x63_3).f3).length c289_3, .slice A289_4 ((rd_T31 x4_1 x63_3).f4).length c289_4, .slice A289_5 ((rd_T31 x4_1 x63_3).f5).length c289_5, .slice A289_6 ((rd_T31 x4_1 x63_3).f6).length c289_6, .bool false]) ?_ 7 _ rfl; (with_reducible repeat (first | refine blk_drewN ?_ _ | refine blk_drew ?_ | refine blk_alloc ?_ _)); refine blk_put (cs := #[.int .i64 ((rd_T31 x4_1 x63_3).f0), .int .i64 ((rd_T31 x4_1 x63_3).f1), .slice A289_2 ((rd_T31 x4_1 x63_3).f2).length c289_2, .slice A289_3 ((rd_T31 x4_1 x63_3).f3).length c289_3, .slice A289_4 ((rd_T31 x4_1 x63_3).f4).length c289_4, .slice A289_5 ((rd_T31 x4_1 x63_3).f5).length c289_5, .slice none 0 0, .bool false]) ?_ 6 _ rfl; (with_reducible repeat (first | refine blk_drewN ?_ _ | refine blk_drew ?_ | refine blk_alloc ?_ _)); refine blk_put (cs := #[.int .i64 ((rd_T31 x4_1 x63_3).f0), .int .i64 ((rd_T31 x4_1 x63_3).f1), .slice A289_2 ((rd_T31 x4_1 x63_3).f2).length c289_2, .slice A289_3 ((rd_T31 x4_1 x63_3).f3).length c289_3, .slice A289_4 ((rd_T31 x4_1 x63_3).f4).length c289_4, .slice none 0 0, .slice none 0 0, .bool false]) ?_ 5 _ rfl; (with_reducible repeat (first | refine blk_drewN ?_ _ | refine blk_drew ?_ | refine blk_alloc ?_ _)); refine blk_put (cs := #[.int .i64 ((rd_T31 x4_1 x63_3).f0), .int .i64 ((rd_T31 x4_1 x63_3).f1), .slice A289_2 ((rd_T31 x4_1 x63_3).f2).length c289_2, .slice A289_3 ((rd_T31 x4_1 x63_3).f3).length c289_3, .slice none 0 0, .slice none 0 0, .slice none 0 0, .bool false]) ?_ 4 _ rfl; (with_reducible repeat (first | refine blk_drewN ?_ _ | refine blk_drew ?_ | refine blk_alloc ?_ _)); refine blk_put (cs := #[.int .i64 ((rd_T31 x4_1 x63_3).f0), .int .i64 ((rd_T31 x4_1 x63_3).f1), .slice A289_2 ((rd_T31 x4_1 x63_3).f2).length c289_2, .slice none 0 0, .slice none 0 0, .slice none 0 0, .slice none 0 0, .bool false]) ?_ 3 _ rfl; (with_reducible repeat (first | refine blk_drewN ?_ _ | refine blk_drew ?_ | refine blk_alloc ?_ _)); refine blk_put (cs := #[.int .i64 ((rd_T31 x4_1 x63_3).f0), .int .i64 ((rd_T31 x4_1 x63_3).f1), .slice none 0 0, .slice none 0 0, .slice none 0 0, .slice none 0 0, .slice none 0 0, .bool false]) ?_ 2 _ rfl; (with_reducible repeat (first | refine blk_drewN ?_ _ | refine blk_drew ?_ | refine blk_alloc ?_ _)); refine blk_put (cs := #[.int .i64 ((rd_T31 x4_1 x63_3).f0), .int .i64 0, .slice none 0 0, .slice none 0 0, .slice none 0 0, .slice none 0 0, .slice none 0 0, .bool false]) ?_ 1 _ rfl; (with_reducible repeat (first | refine blk_drewN ?_ _ | refine blk_drew ?_ | refine blk_alloc ?_ _)); refine blk_put (cs := #[.int .i64 0, .int .i64 0, .slice none 0 0, .slice none 0 0, .slice none 0 0, .slice none 0 0, .slice none 0 0, .bool false]) ?_ 0 _ rfl; (with_reducible repeat (first | refine blk_drewN ?_ _ | refine blk_drew ?_ | refine blk_alloc ?_ _)); exact BK290.out⟩
           have n13_ : Aside0 (Below w.heap.size w w71) := ⟨by rw [← hW_]; exact by repeat (first | (with_reducible first | exact HB.out | apply below_alloc | apply pw_below_drewN | apply below_drew1 | refine below_set ?_ GE287.out | refine below_set ?_ GE290.out) | exact HB.out)⟩
           (try clear HO_61)
           (try clear HO_288002)
           (try clear HO_288003)
           (try clear HO_288004)
           (try clear HO_288005)
           (try clear HO_288006)
           (try clear HL289_2)
           (try clear HL289_3)
           (try clear HL289_4)
           (try clear HL289_5)
           (try clear HL289_6)
           (try clear BK287)
           (try clear BK290)
           (try clear HB)
           rw [hW_]
           clear hW_
           have HO_61 := n0_
           have HO_288002 := n1_
           have HO_288003 := n2_
           have HO_288004 := n3_
           have HO_288005 := n4_
           have HO_288006 := n5_
           have HL289_2 := n6_
           have HL289_3 := n7_
           have HL289_4 := n8_
           have HL289_5 := n9_
           have HL289_6 := n10_
           have BK287 := n11_
           have BK290 := n12_
           have HB := n13_
           clear n0_ n1_ n2_ n3_ n4_ n5_ n6_ n7_ n8_ n9_ n10_ n11_ n12_ n13_
           have n0_ := Aside0.mk (Kd.N_drew HO_61.out)
           have n1_ := Aside0.mk (Kd.R_drew HO_288002.out)
           have n2_ := Aside0.mk (Kd.R_drew HO_288003.out)
           have n3_ := Aside0.mk (Kd.N_drew HO_288004.out)
           have n4_ := Aside0.mk (Kd.N_drew HO_288005.out)
           have n5_ := Aside0.mk (Kd.R_drew HO_288006.out)
           have n6_ := Aside0.mk (Kd.V_drew HL289_2.out)
           have n7_ := Aside0.mk (Kd.V_drew HL289_3.out)
           have n8_ := Aside0.mk (Kd.V_drew HL289_4.out)
           have n9_ := Aside0.mk (Kd.V_drew HL289_5.out)
           have n10_ := Aside0.mk (Kd.V_drew HL289_6.out)
           have n11_ := Aside0.mk (blk_drew BK287.out)
           have n12_ := Aside0.mk (blk_drew BK290.out)
           have n13_ := Aside0.mk (below_drew1 HB.out)
           clear HO_61
           clear HO_288002
           clear HO_288003
           clear HO_288004
           clear HO_288005
           clear HO_288006
           clear HL289_2
           clear HL289_3
           clear HL289_4
           clear HL289_5
           clear HL289_6
           clear BK287
           clear BK290
           clear HB
           have HO_61 := n0_
           have HO_288002 := n1_
           have HO_288003 := n2_
           have HO_288004 := n3_
           have HO_288005 := n4_
           have HO_288006 := n5_
           have HL289_2 := n6_
           have HL289_3 := n7_
           have HL289_4 := n8_
           have HL289_5 := n9_
           have HL289_6 := n10_
           have BK287 := n11_
           have BK290 := n12_
           have HB := n13_
           clear n0_ n1_ n2_ n3_ n4_ n5_ n6_ n7_ n8_ n9_ n10_ n11_ n12_ n13_
           have q73 : ((wrap64 ((rd t273 x63_3) + ((rd_T31 x4_1 x63_3).f0))) : Int) ≤ ((t270.length : Int) : Int) := od_
           obtain ⟨i073, hi073, _, hsz73, _⟩ := info_parts info5
           have hroom73 : t270.length ≤ co43 := (Kd.R_reads' HO_288002.out).2.1
           have hC73 : Kd.F (Kd.int .u8) _ _ Ao43 t270.length t270 := (Kd.V_at (base := w.heap.size) (Kd.R_V (Kd.R_types (Kd.R_types (Kd.R_apart' (Kd.R_apart' (Kd.R_apart' (Kd.R_apart' (Kd.R_apart' (HO_288002.out) (Kd.N_typed HO_61.out) (by decide)) (Kd.R_typed HO_288003.out) (by decide)) (Kd.N_typed HO_288004.out) (by decide)) (Kd.N_typed HO_288005.out) (by decide)) (Kd.R_typed HO_288006.out) (by decide)) BK287.out (by decide)) BK290.out (by decide)))).2.2
           have ql73 : ((rd t273 x63_3) : Int) ≤ ((wrap64 ((rd t273 x63_3) + ((rd_T31 x4_1 x63_3).f0))) : Int) := od_
           have q073 : (0 : Int) ≤ ((rd t273 x63_3) : Int) := od_
           have hcut73 := cut_mid (P := Try.prog) 27 5 .i64 .i64 Try.underlying27 hi073 1 hsz73 Ao43 t270.length co43 (rd t273 x63_3) (wrap64 ((rd t273 x63_3) + ((rd_T31 x4_1 x63_3).f0))) q073 ql73 q73 hroom73
           have hr73 := Kd.F_mid (lo := ((rd t273 x63_3) : Int).toNat) (hi := ((wrap64 ((rd t273 x63_3) + ((rd_T31 x4_1 x63_3).f0))) : Int).toNat) (c := co43) hC73 (by omega) (by omega) hroom73
           obtain ⟨A73, hA73⟩ : ∃ A1, A1 = (if co43 = ((rd t273 x63_3) : Int).toNat then Ao43 else (Ao43 : Option Addr).map (·.add (((rd t273 x63_3) : Int).toNat * 1))) := ⟨_, rfl⟩
           obtain ⟨c73, hc73⟩ : ∃ c1, c1 = co43 - ((rd t273 x63_3) : Int).toNat := ⟨_, rfl⟩
           have hy73 : y292.length = ((wrap64 ((rd t273 x63_3) + ((rd_T31 x4_1 x63_3).f0))) : Int).toNat - ((rd t273 x63_3) : Int).toNat := (by rw [Ny292.out, List.length_drop, List.length_take] <;> omega)
           rw [show ((t270).take ((wrap64 ((rd t273 x63_3) + ((rd_T31 x4_1 x63_3).f0))) : Int).toNat).drop ((rd t273 x63_3) : Int).toNat = y292 from Ny292.out.symm] at hr73
           replace hr73 : Kd.F (Kd.int .u8) _ _ A73 y292.length y292 := (by rw [hA73]; exact hr73)
           rw [← hy73, ← hA73, ← hc73] at hcut73
           have HO296 := Aside0.mk (show Kd.V (Kd.int .u8) 5 _ w.heap.size _ (.slice A73 y292.length c73) y292 from Kd.V_mk (by rw [hy73, hc73]; exact Nat.sub_le_sub_right (Nat.le_trans (by omega) hroom73) _) hr73)
           have HC296 := Aside0.mk (show y292.length ≤ c73 from by rw [hy73, hc73]; exact Nat.sub_le_sub_right (Nat.le_trans (by omega) hroom73) _)
           clear hr73 hC73 hroom73 hi073 hsz73 hc73
           have KY73 := Aside0.mk hy73
           have KA73 := Aside0.mk hA73
           clear hy73 hA73
           replace q73 := eq_true q73
           refine start_ (n := 35) (S := fun w' => w'.cell? ⟨gb290, 0, none⟩ = some (.int .i64 ((rd_T31 x4_1 x63_3).f0)) ∧ w'.cell? ⟨gb290, 1, none⟩ = some (.int .i64 ((rd_T31 x4_1 x63_3).f1)) ∧ w'.cell? ⟨gb290, 2, none⟩ = some (.slice A289_2 ((rd_T31 x4_1 x63_3).f2).length c289_2) ∧ w'.cell? ⟨gb290, 3, none⟩ = some (.slice A289_3 ((rd_T31 x4_1 x63_3).f3).length c289_3) ∧ w'.cell? ⟨gb290, 4, none⟩ = some (.slice A289_4 ((rd_T31 x4_1 x63_3).f4).length c289_4) ∧ w'.cell? ⟨gb290, 5, none⟩ = some (.slice A289_5 ((rd_T31 x4_1 x63_3).f5).length c289_5) ∧ w'.cell? ⟨gb290, 6, none⟩ = some (.slice A289_6 ((rd_T31 x4_1 x63_3).f6).length c289_6) ∧ w'.cell? ⟨gb290, 7, none⟩ = some (.bool ((rd_T31 x4_1 x63_3).f7)) ∧ w'.cell? ⟨gb287, 0, none⟩ = some (.int .i64 t268) ∧ w'.cell? ⟨gb287, 1, none⟩ = some (.int .i64 t269) ∧ w'.cell? ⟨gb287, 2, none⟩ = some (.slice Ao43 t270.length co43) ∧ w'.cell? ⟨gb287, 3, none⟩ = some (.slice (some ad291) t273.length co44) ∧ w'.cell? ⟨gb287, 4, none⟩ = some (.slice Ao45 t276.length co45) ∧ w'.cell? ⟨gb287, 5, none⟩ = some (.slice Ao46 t279.length co46) ∧ w'.cell? ⟨gb287, 6, none⟩ = some (.slice Ao47 t282.length co47) ∧ w'.cell? ⟨gb287, 7, none⟩ = some (.bool t285)) (ds := []) #[false,false,false,false,false,false,false,false,false,false,false,false,false,false,false,false,false,false,false,false,false,false,false,false,false,false,false,false,false,false,false,false,false,false,false] (by kernel_rfl) rfl rfl ⟨(blk_cell BK290.out 0).trans rfl, (blk_cell BK290.out 1).trans rfl, (blk_cell BK290.out 2).trans rfl, (blk_cell BK290.out 3).trans rfl, (blk_cell BK290.out 4).trans rfl, (blk_cell BK290.out 5).trans rfl, (blk_cell BK290.out 6).trans rfl, (blk_cell BK290.out 7).trans rfl, (blk_cell BK287.out 0).trans rfl, (blk_cell BK287.out 1).trans rfl, (blk_cell BK287.out 2).trans rfl, (blk_cell BK287.out 3).trans rfl, (blk_cell BK287.out 4).trans rfl, (blk_cell BK287.out 5).trans rfl, (blk_cell BK287.out 6).trans rfl, (blk_cell BK287.out 7).trans rfl⟩ (fun hHeld => ?_); refine with_tabW law16_ProductSpares.tab21 law16_ProductSpares.bits21 (fun HT_ HW_ => ?_)
           generalize w71.drew = w72 at HO_61 HO_288002 HO_288003 HO_288004 HO_288005 HO_288006 HL289_2 HL289_3 HL289_4 HL289_5 HL289_6 BK287 BK290 HB HO296 hHeld ⊢
           refine pure_ (i := 0) (N := some 73) (v := ?_) (a' := ?_) #[true,false,false,false,false,false,false,false,false,false,false,false,false,false,false,false,false,false,false,false,false,false,false,false,false,false,false,false,false,false,false,false,false,false,false] rfl rfl (any_of HT_.out (by kernel_rfl)) (fun _ _ _ h => h) (Or.inl ⟨by rfl, ?_⟩) ?_ ?_
           rotate_left
           ·
            intro w'
            go_simp
            with_reducible rfl
           rotate_left
           ·
            simp only [Act.put, setIfInBounds_toArray, set_cons_zero, set_cons_succ, i64_w, i32_w]
            rfl
           refine pure_ (i := 1) (N := some 74) (v := ?_) (a' := ?_) #[true,true,false,false,false,false,false,false,false,false,false,false,false,false,false,false,false,false,false,false,false,false,false,false,false,false,false,false,false,false,false,false,false,false,false] rfl rfl (any_of HT_.out (by kernel_rfl)) (fun _ _ _ h => h) (Or.inl ⟨by rfl, ?_⟩) ?_ ?_
           rotate_left
           ·
            intro w'
            go_simp
            with_reducible rfl
           rotate_left
           ·
            simp only [Act.put, setIfInBounds_toArray, set_cons_zero, set_cons_succ, i64_w, i32_w]
            rfl
           refine pure_ (i := 2) (N := some 75) (v := ?_) (a' := ?_) #[true,true,true,false,false,false,false,false,false,false,false,false,false,false,false,false,false,false,false,false,false,false,false,false,false,false,false,false,false,false,false,false,false,false,false] rfl rfl (any_of HT_.out (by kernel_rfl)) (fun _ _ _ h => h) (Or.inl ⟨by rfl, ?_⟩) ?_ ?_
           rotate_left
           ·
            intro w'
            go_simp
            with_reducible rfl
           rotate_left
           ·
            simp only [Act.put, setIfInBounds_toArray, set_cons_zero, set_cons_succ, i64_w, i32_w]
            rfl
           refine pure_ (i := 3) (N := some 76) (v := ?_) (a' := ?_) #[true,true,true,true,false,false,false,false,false,false,false,false,false,false,false,false,false,false,false,false,false,false,false,false,false,false,false,false,false,false,false,false,false,false,false] rfl rfl (any_of HT_.out (by kernel_rfl)) (fun _ _ _ h => h) (Or.inl ⟨by rfl, ?_⟩) ?_ ?_
           rotate_left
           ·
            intro w'
            go_simp
            with_reducible rfl
           rotate_left
           ·
            simp only [Act.put, setIfInBounds_toArray, set_cons_zero, set_cons_succ, i64_w, i32_w]
            rfl
           refine pure_ (i := 4) (N := some 77) (v := ?_) (a' := ?_) #[true,true,true,true,true,false,false,false,false,false,false,false,false,false,false,false,false,false,false,false,false,false,false,false,false,false,false,false,false,false,false,false,false,false,false] rfl rfl (any_of HT_.out (by kernel_rfl)) (fun _ _ _ h => h) (Or.inl ⟨by rfl, ?_⟩) ?_ ?_
           rotate_left
           ·
            intro w'
            go_simp
            with_reducible rfl
           rotate_left
           ·
            simp only [Act.put, setIfInBounds_toArray, set_cons_zero, set_cons_succ, i64_w, i32_w]
            rfl
           refine pure_ (i := 5) (N := some 78) (v := ?_) (a' := ?_) #[true,true,true,true,true,true,false,false,false,false,false,false,false,false,false,false,false,false,false,false,false,false,false,false,false,false,false,false,false,false,false,false,false,false,false] rfl rfl (any_of HT_.out (by kernel_rfl)) (fun _ _ _ h => h) (Or.inl ⟨by rfl, ?_⟩) ?_ ?_
           rotate_left
           ·
            intro w'
            go_simp
            with_reducible rfl
           rotate_left
           ·
            simp only [Act.put, setIfInBounds_toArray, set_cons_zero, set_cons_succ, i64_w, i32_w]
            rfl
           refine pure_ (i := 6) (N := some 79) (v := ?_) (a' := ?_) #[true,true,true,true,true,true,true,false,false,false,false,false,false,false,false,false,false,false,false,false,false,false,false,false,false,false,false,false,false,false,false,false,false,false,false] rfl rfl (any_of HT_.out (by kernel_rfl)) (fun _ _ _ h => h) (Or.inl ⟨by rfl, ?_⟩) ?_ ?_
           rotate_left
           ·
            intro w'
            go_simp
            with_reducible rfl
           rotate_left
           ·
            simp only [Act.put, setIfInBounds_toArray, set_cons_zero, set_cons_succ, i64_w, i32_w]
            rfl
           refine pure_ (i := 7) (N := some 80) (v := ?_) (a' := ?_) #[true,true,true,true,true,true,true,true,false,false,false,false,false,false,false,false,false,false,false,false,false,false,false,false,false,false,false,false,false,false,false,false,false,false,false] rfl rfl (any_of HT_.out (by kernel_rfl)) (fun _ _ _ h => h) (Or.inl ⟨by rfl, ?_⟩) ?_ ?_
           rotate_left
           ·
            intro w'
            go_simp
            with_reducible rfl
           rotate_left
           ·
            simp only [Act.put, setIfInBounds_toArray, set_cons_zero, set_cons_succ, i64_w, i32_w]
            rfl
           refine take_ (i := 8) (N := some 81) (v := ?_) (a' := ?_) #[true,true,true,true,true,true,true,true,true,false,false,false,false,false,false,false,false,false,false,false,false,false,false,false,false,false,false,false,false,false,false,false,false,false,false] rfl rfl (take_ofW HT_.out HW_.out (by kernel_rfl)) (fun _ _ _ h => h) (Or.inl ⟨by rfl, ?_⟩) hHeld ?_ ?_
           rotate_left
           ·
            rintro w' ⟨s0, s1, s2, s3, s4, s5, s6, s7, s8, s9, s10, s11, s12, s13, s14, s15⟩
            go_simp
            with_reducible rfl
           rotate_left
           ·
            simp only [Act.put, setIfInBounds_toArray, set_cons_zero, set_cons_succ, i64_w, i32_w]
            rfl
           refine pure_ (i := 9) (N := some 82) (v := ?_) (a' := ?_) #[true,true,true,true,true,true,true,true,true,true,false,false,false,false,false,false,false,false,false,false,false,false,false,false,false,false,false,false,false,false,false,false,false,false,false] rfl rfl (any_of HT_.out (by kernel_rfl)) (fun _ _ _ h => h) (Or.inl ⟨by rfl, ?_⟩) ?_ ?_
           rotate_left
           ·
            intro w'
            go_simp
            with_reducible rfl
           rotate_left
           ·
            simp only [Act.put, setIfInBounds_toArray, set_cons_zero, set_cons_succ, i64_w, i32_w]
            rfl
           refine pure_ (i := 10) (N := some 83) (v := ?_) (a' := ?_) #[true,true,true,true,true,true,true,true,true,true,true,false,false,false,false,false,false,false,false,false,false,false,false,false,false,false,false,false,false,false,false,false,false,false,false] rfl rfl (any_of HT_.out (by kernel_rfl)) (fun _ _ _ h => h) (Or.inl ⟨by rfl, ?_⟩) ?_ ?_
           rotate_left
           ·
            intro w'
            go_simp
            with_reducible rfl
           rotate_left
           ·
            simp only [Act.put, setIfInBounds_toArray, set_cons_zero, set_cons_succ, i64_w, i32_w]
            rfl
           refine pure_ (i := 11) (N := some 84) (v := ?_) (a' := ?_) #[true,true,true,true,true,true,true,true,true,true,true,true,false,false,false,false,false,false,false,false,false,false,false,false,false,false,false,false,false,false,false,false,false,false,false] rfl rfl (any_of HT_.out (by kernel_rfl)) (fun _ _ _ h => h) (Or.inl ⟨by rfl, ?_⟩) ?_ ?_
           rotate_left
           ·
            intro w'
            go_simp
            with_reducible rfl
           rotate_left
           ·
            simp only [Act.put, setIfInBounds_toArray, set_cons_zero, set_cons_succ, i64_w, i32_w]
            rfl
           refine pure_ (i := 12) (N := some 85) (v := ?_) (a' := ?_) #[true,true,true,true,true,true,true,true,true,true,true,true,true,false,false,false,false,false,false,false,false,false,false,false,false,false,false,false,false,false,false,false,false,false,false] rfl rfl (any_of HT_.out (by kernel_rfl)) (fun _ _ _ h => h) (Or.inl ⟨by rfl, ?_⟩) ?_ ?_
           rotate_left
           ·
            intro w'
            go_simp
            with_reducible rfl
           rotate_left
           ·
            simp only [Act.put, setIfInBounds_toArray, set_cons_zero, set_cons_succ, i64_w, i32_w]
            rfl
           refine pure_ (i := 13) (N := some 86) (v := ?_) (a' := ?_) #[true,true,true,true,true,true,true,true,true,true,true,true,true,true,false,false,false,false,false,false,false,false,false,false,false,false,false,false,false,false,false,false,false,false,false] rfl rfl (any_of HT_.out (by kernel_rfl)) (fun _ _ _ h => h) (Or.inl ⟨by rfl, ?_⟩) ?_ ?_
           rotate_left
           ·
            intro w'
            go_simp
            with_reducible rfl
           rotate_left
           ·
            simp only [Act.put, setIfInBounds_toArray, set_cons_zero, set_cons_succ, i64_w, i32_w]
            rfl
           refine pure_ (i := 16) (N := some 89) (v := ?_) (a' := ?_) #[true,true,true,true,true,true,true,true,true,true,true,true,true,true,false,false,true,false,false,false,false,false,false,false,false,false,false,false,false,false,false,false,false,false,false] rfl rfl (any_of HT_.out (by kernel_rfl)) (fun _ _ _ h => h) (Or.inl ⟨by rfl, ?_⟩) ?_ ?_
           rotate_left
           ·
            intro w'
            go_simp
            with_reducible rfl
           rotate_left
           ·
            simp only [Act.put, setIfInBounds_toArray, set_cons_zero, set_cons_succ, i64_w, i32_w]
            rfl
           refine take_ (i := 14) (N := some 87) (v := ?_) (a' := ?_) #[true,true,true,true,true,true,true,true,true,true,true,true,true,true,true,false,true,false,false,false,false,false,false,false,false,false,false,false,false,false,false,false,false,false,false] rfl rfl (take_ofW HT_.out HW_.out (by kernel_rfl)) (fun _ _ _ h => h) (Or.inl ⟨by rfl, ?_⟩) hHeld ?_ ?_
           rotate_left
           ·
            rintro w' ⟨s0, s1, s2, s3, s4, s5, s6, s7, s8, s9, s10, s11, s12, s13, s14, s15⟩
            go_simp
            with_reducible rfl
           rotate_left
           ·
            simp only [Act.put, setIfInBounds_toArray, set_cons_zero, set_cons_succ, i64_w, i32_w]
            rfl
           refine pure_ (i := 15) (N := some 88) (v := ?_) (a' := ?_) #[true,true,true,true,true,true,true,true,true,true,true,true,true,true,true,true,true,false,false,false,false,false,false,false,false,false,false,false,false,false,false,false,false,false,false] rfl rfl (any_of HT_.out (by kernel_rfl)) (fun _ _ _ h => h) (Or.inl ⟨by rfl, ?_⟩) ?_ ?_
           rotate_left
           ·
            intro w'
            go_simp
            with_reducible rfl
           rotate_left
           ·
            simp only [Act.put, setIfInBounds_toArray, set_cons_zero, set_cons_succ, i64_w, i32_w]
            rfl
           refine take_ (i := 17) (N := some 90) (v := ?_) (a' := ?_) #[true,true,true,true,true,true,true,true,true,true,true,true,true,true,true,true,true,true,false,false,false,false,false,false,false,false,false,false,false,false,false,false,false,false,false] rfl rfl (take_ofW HT_.out HW_.out (by kernel_rfl)) (fun _ _ _ h => h) (Or.inl ⟨by rfl, ?_⟩) hHeld ?_ ?_
           rotate_left
           ·
            rintro w' ⟨s0, s1, s2, s3, s4, s5, s6, s7, s8, s9, s10, s11, s12, s13, s14, s15⟩
            go_simp
            with_reducible rfl
           rotate_left
           ·
            simp only [Act.put, setIfInBounds_toArray, set_cons_zero, set_cons_succ, i64_w, i32_w]
            rfl
           refine pure_ (i := 18) (N := some 91) (v := ?_) (a' := ?_) #[true,true,true,true,true,true,true,true,true,true,true,true,true,true,true,true,true,true,true,false,false,false,false,false,false,false,false,false,false,false,false,false,false,false,false] rfl rfl (any_of HT_.out (by kernel_rfl)) (fun _ _ _ h => h) (Or.inl ⟨by rfl, ?_⟩) ?_ ?_
           rotate_left
           ·
            intro w'
            go_simp
            with_reducible rfl
           rotate_left
           ·
            simp only [Act.put, setIfInBounds_toArray, set_cons_zero, set_cons_succ, i64_w, i32_w]
            rfl
           refine pure_ (i := 19) (N := some 92) (v := ?_) (a' := ?_) #[true,true,true,true,true,true,true,true,true,true,true,true,true,true,true,true,true,true,true,true,false,false,false,false,false,false,false,false,false,false,false,false,false,false,false] rfl rfl (any_of HT_.out (by kernel_rfl)) (fun _ _ _ h => h) (Or.inl ⟨by rfl, ?_⟩) ?_ ?_
           rotate_left
           ·
            intro w'
            go_simp
            with_reducible rfl
           rotate_left
           ·
            simp only [Act.put, setIfInBounds_toArray, set_cons_zero, set_cons_succ, i64_w, i32_w]
            rfl
           refine pure_ (i := 20) (N := some 93) (v := ?_) (a' := ?_) #[true,true,true,true,true,true,true,true,true,true,true,true,true,true,true,true,true,true,true,true,true,false,false,false,false,false,false,false,false,false,false,false,false,false,false] rfl rfl (any_of HT_.out (by kernel_rfl)) (fun _ _ _ h => h) (Or.inl ⟨by rfl, ?_⟩) ?_ ?_
           rotate_left
           ·
            intro w'
            go_simp
            with_reducible rfl
           rotate_left
           ·
            simp only [Act.put, setIfInBounds_toArray, set_cons_zero, set_cons_succ, i64_w, i32_w]
            rfl
           refine pure_ (i := 21) (N := some 94) (v := ?_) (a' := ?_) #[true,true,true,true,true,true,true,true,true,true,true,true,true,true,true,true,true,true,true,true,true,true,false,false,false,false,false,false,false,false,false,false,false,false,false] rfl rfl (any_of HT_.out (by kernel_rfl)) (fun _ _ _ h => h) (Or.inl ⟨by rfl, ?_⟩) ?_ ?_
           rotate_left
           ·
            intro w'
            go_simp
            with_reducible rfl
           rotate_left
           ·
            simp only [Act.put, setIfInBounds_toArray, set_cons_zero, set_cons_succ, i64_w, i32_w]
            rfl
           refine pure_ (i := 23) (N := some 96) (v := ?_) (a' := ?_) #[true,true,true,true,true,true,true,true,true,true,true,true,true,true,true,true,true,true,true,true,true,true,false,true,false,false,false,false,false,false,false,false,false,false,false] rfl rfl (any_of HT_.out (by kernel_rfl)) (fun _ _ _ h => h) (Or.inl ⟨by rfl, ?_⟩) ?_ ?_
           rotate_left
           ·
            intro w'
            go_simp
            with_reducible rfl
           rotate_left
           ·
            simp only [Act.put, setIfInBounds_toArray, set_cons_zero, set_cons_succ, i64_w, i32_w]
            rfl
           refine pure_ (i := 24) (N := some 97) (v := ?_) (a' := ?_) #[true,true,true,true,true,true,true,true,true,true,true,true,true,true,true,true,true,true,true,true,true,true,false,true,true,false,false,false,false,false,false,false,false,false,false] rfl rfl (any_of HT_.out (by kernel_rfl)) (fun _ _ _ h => h) (Or.inl ⟨by rfl, ?_⟩) ?_ ?_
           rotate_left
           ·
            intro w'
            go_simp
            with_reducible rfl
           rotate_left
           ·
            simp only [Act.put, setIfInBounds_toArray, set_cons_zero, set_cons_succ, i64_w, i32_w]
            rfl
           refine pure_ (i := 25) (N := some 98) (v := ?_) (a' := ?_) #[true,true,true,true,true,true,true,true,true,true,true,true,true,true,true,true,true,true,true,true,true,true,false,true,true,true,false,false,false,false,false,false,false,false,false] rfl rfl (any_of HT_.out (by kernel_rfl)) (fun _ _ _ h => h) (Or.inl ⟨by rfl, ?_⟩) ?_ ?_
           rotate_left
           ·
            intro w'
            go_simp
            with_reducible rfl
           rotate_left
           ·
            simp only [Act.put, setIfInBounds_toArray, set_cons_zero, set_cons_succ, i64_w, i32_w]
            rfl
           refine pure_ (i := 30) (N := some 103) (v := ?_) (a' := ?_) #[true,true,true,true,true,true,true,true,true,true,true,true,true,true,true,true,true,true,true,true,true,true,false,true,true,true,false,false,false,false,true,false,false,false,false] rfl rfl (any_of HT_.out (by kernel_rfl)) (fun _ _ _ h => h) (Or.inl ⟨by rfl, ?_⟩) ?_ ?_
           rotate_left
           ·
            intro w'
            go_simp
            with_reducible rfl
           rotate_left
           ·
            simp only [Act.put, setIfInBounds_toArray, set_cons_zero, set_cons_succ, i64_w, i32_w]
            rfl
           refine take_ (i := 22) (N := some 95) (v := ?_) (a' := ?_) #[true,true,true,true,true,true,true,true,true,true,true,true,true,true,true,true,true,true,true,true,true,true,true,true,true,true,false,false,false,false,true,false,false,false,false] rfl rfl (take_ofW HT_.out HW_.out (by kernel_rfl)) (fun _ _ _ h => h) (Or.inl ⟨by rfl, ?_⟩) hHeld ?_ ?_
           rotate_left
           ·
            rintro w' ⟨s0, s1, s2, s3, s4, s5, s6, s7, s8, s9, s10, s11, s12, s13, s14, s15⟩
            go_simp
            with_reducible rfl
           rotate_left
           ·
            simp only [Act.put, setIfInBounds_toArray, set_cons_zero, set_cons_succ, i64_w, i32_w]
            rfl
           refine take_ (i := 26) (N := some 99) (v := ?_) (a' := ?_) #[true,true,true,true,true,true,true,true,true,true,true,true,true,true,true,true,true,true,true,true,true,true,true,true,true,true,true,false,false,false,true,false,false,false,false] rfl rfl (take_ofW HT_.out HW_.out (by kernel_rfl)) (fun _ _ _ h => h) (Or.inl ⟨by rfl, ?_⟩) hHeld ?_ ?_
           rotate_left
           ·
            rintro w' ⟨s0, s1, s2, s3, s4, s5, s6, s7, s8, s9, s10, s11, s12, s13, s14, s15⟩
            go_simp
            with_reducible rfl
           rotate_left
           ·
            simp only [Act.put, setIfInBounds_toArray, set_cons_zero, set_cons_succ, i64_w, i32_w]
            rfl
           refine pure_ (i := 27) (N := some 100) (v := ?_) (a' := ?_) #[true,true,true,true,true,true,true,true,true,true,true,true,true,true,true,true,true,true,true,true,true,true,true,true,true,true,true,true,false,false,true,false,false,false,false] rfl rfl (any_of HT_.out (by kernel_rfl)) (fun _ _ _ h => h) (Or.inl ⟨by rfl, ?_⟩) ?_ ?_
           rotate_left
           ·
            intro w'
            go_simp
            with_reducible rfl
           rotate_left
           ·
            simp only [Act.put, setIfInBounds_toArray, set_cons_zero, set_cons_succ, i64_w, i32_w]
            rfl
           refine pure_ (i := 28) (N := some 101) (v := ?_) (a' := ?_) #[true,true,true,true,true,true,true,true,true,true,true,true,true,true,true,true,true,true,true,true,true,true,true,true,true,true,true,true,true,false,true,false,false,false,false] rfl rfl (any_of HT_.out (by kernel_rfl)) (fun _ _ _ h => h) (Or.inl ⟨by rfl, ?_⟩) ?_ ?_
           rotate_left
           ·
            intro w'
            go_simp
            with_reducible rfl
           rotate_left
           ·
            simp only [Act.put, setIfInBounds_toArray, set_cons_zero, set_cons_succ, i64_w, i32_w]
            rfl
           refine take_ (i := 31) (N := some 104) (v := ?_) (a' := ?_) #[true,true,true,true,true,true,true,true,true,true,true,true,true,true,true,true,true,true,true,true,true,true,true,true,true,true,true,true,true,false,true,true,false,false,false] rfl rfl (take_ofW HT_.out HW_.out (by kernel_rfl)) (fun _ _ _ h => h) (Or.inl ⟨by rfl, ?_⟩) hHeld ?_ ?_
           rotate_left
           ·
            rintro w' ⟨s0, s1, s2, s3, s4, s5, s6, s7, s8, s9, s10, s11, s12, s13, s14, s15⟩
            go_simp
            with_reducible rfl
           rotate_left
           ·
            simp only [Act.put, setIfInBounds_toArray, set_cons_zero, set_cons_succ, i64_w, i32_w]
            rfl
           refine join_ (σ := Unit) 2 #[true,true,true,true,true,true,true,true,true,true,true,true,true,true,true,true,true,true,true,true,true,true,true,true,true,true,true,true,true,true,true,true,true,false,false] (fun s_ => [(102, .string (strOfNums y292)), (105, .string (strOfNums ((rd_T31 x4_1 x63_3).f2)))]) (fun s_ w' => (w'.cell? ⟨gb290, 0, none⟩ = some (.int .i64 ((rd_T31 x4_1 x63_3).f0)) ∧ w'.cell? ⟨gb290, 1, none⟩ = some (.int .i64 ((rd_T31 x4_1 x63_3).f1)) ∧ w'.cell? ⟨gb290, 2, none⟩ = some (.slice A289_2 ((rd_T31 x4_1 x63_3).f2).length c289_2) ∧ w'.cell? ⟨gb290, 3, none⟩ = some (.slice A289_3 ((rd_T31 x4_1 x63_3).f3).length c289_3) ∧ w'.cell? ⟨gb290, 4, none⟩ = some (.slice A289_4 ((rd_T31 x4_1 x63_3).f4).length c289_4) ∧ w'.cell? ⟨gb290, 5, none⟩ = some (.slice A289_5 ((rd_T31 x4_1 x63_3).f5).length c289_5) ∧ w'.cell? ⟨gb290, 6, none⟩ = some (.slice A289_6 ((rd_T31 x4_1 x63_3).f6).length c289_6) ∧ w'.cell? ⟨gb290, 7, none⟩ = some (.bool ((rd_T31 x4_1 x63_3).f7)) ∧ w'.cell? ⟨gb287, 0, none⟩ = some (.int .i64 t268) ∧ w'.cell? ⟨gb287, 1, none⟩ = some (.int .i64 t269) ∧ w'.cell? ⟨gb287, 2, none⟩ = some (.slice Ao43 t270.length co43) ∧ w'.cell? ⟨gb287, 3, none⟩ = some (.slice (some ad291) t273.length co44) ∧ w'.cell? ⟨gb287, 4, none⟩ = some (.slice Ao45 t276.length co45) ∧ w'.cell? ⟨gb287, 5, none⟩ = some (.slice Ao46 t279.length co46) ∧ w'.cell? ⟨gb287, 6, none⟩ = some (.slice Ao47 t282.length co47) ∧ w'.cell? ⟨gb287, 7, none⟩ = some (.bool t285)) ∧ (Kd.V (Kd.int .u8) 5 w' w.heap.size (fun k_ => some k_ ≠ (.slice Ao43 t270.length co43 : Value).ownBlock ∧ some k_ ≠ (.slice (some ad291) t273.length co44 : Value).ownBlock ∧ some k_ ≠ (.slice Ao45 t276.length co45 : Value).ownBlock ∧ some k_ ≠ (.slice Ao46 t279.length co46 : Value).ownBlock ∧ some k_ ≠ (.slice Ao47 t282.length co47 : Value).ownBlock ∧ some k_ ≠ (.slice (some ad289) x4_1.length co38 : Value).ownBlock ∧ k_ ≠ gb287 ∧ k_ ≠ gb290) (.slice A289_2 ((rd_T31 x4_1 x63_3).f2).length c289_2) ((rd_T31 x4_1 x63_3).f2)) ∧ (Kd.V (Kd.int .i64) 3 w' w.heap.size (fun k_ => some k_ ≠ (.slice Ao43 t270.length co43 : Value).ownBlock ∧ some k_ ≠ (.slice (some ad291) t273.length co44 : Value).ownBlock ∧ some k_ ≠ (.slice Ao45 t276.length co45 : Value).ownBlock ∧ some k_ ≠ (.slice Ao46 t279.length co46 : Value).ownBlock ∧ some k_ ≠ (.slice Ao47 t282.length co47 : Value).ownBlock ∧ some k_ ≠ (.slice (some ad289) x4_1.length co38 : Value).ownBlock ∧ k_ ≠ gb287 ∧ k_ ≠ gb290) (.slice A289_3 ((rd_T31 x4_1 x63_3).f3).length c289_3) ((rd_T31 x4_1 x63_3).f3)) ∧ (Kd.V k101 101 w' w.heap.size (fun k_ => some k_ ≠ (.slice Ao43 t270.length co43 : Value).ownBlock ∧ some k_ ≠ (.slice (some ad291) t273.length co44 : Value).ownBlock ∧ some k_ ≠ (.slice Ao45 t276.length co45 : Value).ownBlock ∧ some k_ ≠ (.slice Ao46 t279.length co46 : Value).ownBlock ∧ some k_ ≠ (.slice Ao47 t282.length co47 : Value).ownBlock ∧ some k_ ≠ (.slice (some ad289) x4_1.length co38 : Value).ownBlock ∧ k_ ≠ gb287 ∧ k_ ≠ gb290) (.slice A289_4 ((rd_T31 x4_1 x63_3).f4).length c289_4) ((rd_T31 x4_1 x63_3).f4)) ∧ (Kd.V k79 79 w' w.heap.size (fun k_ => some k_ ≠ (.slice Ao43 t270.length co43 : Value).ownBlock ∧ some k_ ≠ (.slice (some ad291) t273.length co44 : Value).ownBlock ∧ some k_ ≠ (.slice Ao45 t276.length co45 : Value).ownBlock ∧ some k_ ≠ (.slice Ao46 t279.length co46 : Value).ownBlock ∧ some k_ ≠ (.slice Ao47 t282.length co47 : Value).ownBlock ∧ some k_ ≠ (.slice (some ad289) x4_1.length co38 : Value).ownBlock ∧ k_ ≠ gb287 ∧ k_ ≠ gb290) (.slice A289_5 ((rd_T31 x4_1 x63_3).f5).length c289_5) ((rd_T31 x4_1 x63_3).f5)) ∧ (Kd.V (Kd.int .i64) 3 w' w.heap.size (fun k_ => some k_ ≠ (.slice Ao43 t270.length co43 : Value).ownBlock ∧ some k_ ≠ (.slice (some ad291) t273.length co44 : Value).ownBlock ∧ some k_ ≠ (.slice Ao45 t276.length co45 : Value).ownBlock ∧ some k_ ≠ (.slice Ao46 t279.length co46 : Value).ownBlock ∧ some k_ ≠ (.slice Ao47 t282.length co47 : Value).ownBlock ∧ some k_ ≠ (.slice (some ad289) x4_1.length co38 : Value).ownBlock ∧ k_ ≠ gb287 ∧ k_ ≠ gb290) (.slice A289_6 ((rd_T31 x4_1 x63_3).f6).length c289_6) ((rd_T31 x4_1 x63_3).f6)) ∧ (Kd.V (Kd.int .u8) 5 w' w.heap.size (fun k_ => some k_ ≠ (.slice (some ad291) t273.length co44 : Value).ownBlock ∧ some k_ ≠ (.slice Ao45 t276.length co45 : Value).ownBlock ∧ some k_ ≠ (.slice Ao46 t279.length co46 : Value).ownBlock ∧ some k_ ≠ (.slice Ao47 t282.length co47 : Value).ownBlock ∧ some k_ ≠ (.slice (some ad289) x4_1.length co38 : Value).ownBlock ∧ k_ ≠ gb287 ∧ k_ ≠ gb290) (.slice A73 y292.length c73) y292) ∧ (Kd.R (Kd.int .u8) 5 w' w.heap.size (fun _ => True) (.slice Ao43 t270.length co43) t270) ∧ (Kd.R (Kd.int .i64) 3 w' w.heap.size (fun k_ => some k_ ≠ (.slice Ao47 t282.length co47 : Value).ownBlock) (.slice (some ad291) t273.length co44) t273) ∧ (Kd.N k101 101 w' w.heap.size (fun k_ => some k_ ≠ (.slice Ao43 t270.length co43 : Value).ownBlock ∧ some k_ ≠ (.slice (some ad291) t273.length co44 : Value).ownBlock ∧ some k_ ≠ (.slice Ao46 t279.length co46 : Value).ownBlock ∧ some k_ ≠ (.slice Ao47 t282.length co47 : Value).ownBlock ∧ some k_ ≠ (.slice (some ad289) x4_1.length co38 : Value).ownBlock ∧ k_ ≠ gb287 ∧ k_ ≠ gb290) (.slice Ao45 t276.length co45) t276) ∧ (Kd.N k79 79 w' w.heap.size (fun k_ => some k_ ≠ (.slice Ao43 t270.length co43 : Value).ownBlock ∧ some k_ ≠ (.slice (some ad291) t273.length co44 : Value).ownBlock ∧ some k_ ≠ (.slice Ao45 t276.length co45 : Value).ownBlock ∧ some k_ ≠ (.slice Ao47 t282.length co47 : Value).ownBlock ∧ some k_ ≠ (.slice (some ad289) x4_1.length co38 : Value).ownBlock ∧ k_ ≠ gb287 ∧ k_ ≠ gb290) (.slice Ao46 t279.length co46) t279) ∧ (Kd.R (Kd.int .i64) 3 w' w.heap.size (fun k_ => some k_ ≠ (.slice (some ad291) t273.length co44 : Value).ownBlock) (.slice Ao47 t282.length co47) t282) ∧ (Kd.N k31 31 w' w.heap.size (fun k_ => some k_ ≠ (.slice Ao43 t270.length co43 : Value).ownBlock ∧ some k_ ≠ (.slice (some ad291) t273.length co44 : Value).ownBlock ∧ some k_ ≠ (.slice Ao45 t276.length co45 : Value).ownBlock ∧ some k_ ≠ (.slice Ao46 t279.length co46 : Value).ownBlock ∧ some k_ ≠ (.slice Ao47 t282.length co47 : Value).ownBlock ∧ k_ ≠ gb287 ∧ k_ ≠ gb290) (.slice (some ad289) x4_1.length co38) x4_1) ∧ (w'.heap[gb287]? = some (.cells #[.int .i64 t268, .int .i64 t269, .slice Ao43 t270.length co43, .slice (some ad291) t273.length co44, .slice Ao45 t276.length co45, .slice Ao46 t279.length co46, .slice Ao47 t282.length co47, .bool t285] 31 (0, 0))) ∧ (w'.heap[gb290]? = some (.cells #[.int .i64 ((rd_T31 x4_1 x63_3).f0), .int .i64 ((rd_T31 x4_1 x63_3).f1), .slice A289_2 ((rd_T31 x4_1 x63_3).f2).length c289_2, .slice A289_3 ((rd_T31 x4_1 x63_3).f3).length c289_3, .slice A289_4 ((rd_T31 x4_1 x63_3).f4).length c289_4, .slice A289_5 ((rd_T31 x4_1 x63_3).f5).length c289_5, .slice A289_6 ((rd_T31 x4_1 x63_3).f6).length c289_6, .bool ((rd_T31 x4_1 x63_3).f7)] 31 (0, 0))) ∧ (Below w.heap.size w w')) ?_ ?_
           rotate_left
           ·
            intro hCont
            refine two_ (i := 29) (j := 32) (Ni := some 102) (Nj := some 105) #[true,true,true,true,true,true,true,true,true,true,true,true,true,true,true,true,true,true,true,true,true,true,true,true,true,true,true,true,true,true,true,true,false,false,false] #[true,true,true,true,true,true,true,true,true,true,true,true,true,true,true,true,true,true,true,true,true,true,true,true,true,true,true,true,true,false,true,true,true,false,false] rfl rfl rfl rfl (two_of HT_.out (by kernel_rfl)) (by decide) (by decide) (fun K hK => ?_) (fun K hK => ?_)
            ·
             skip
             have hcv74 := Kd.C_string (P := Try.prog) (A := A73) (c := c73) Try.underlying27 Try.underlying5 Try.underlying9 (Kd.V_reads' HO296.out).2.2
             refine value_ (w1 := ?_) (v := ?_) (by rfl) rfl ?_ ?_
             rotate_left 2
             ·
              go_simp
              constructor
              ·
               rfl
              ·
               rfl
             clear hcv74
             refine hK.out _ _ ⟨(blk_cell BK290.out 0).trans rfl, (blk_cell BK290.out 1).trans rfl, (blk_cell BK290.out 2).trans rfl, (blk_cell BK290.out 3).trans rfl, (blk_cell BK290.out 4).trans rfl, (blk_cell BK290.out 5).trans rfl, (blk_cell BK290.out 6).trans rfl, (blk_cell BK290.out 7).trans rfl, (blk_cell BK287.out 0).trans rfl, (blk_cell BK287.out 1).trans rfl, (blk_cell BK287.out 2).trans rfl, (blk_cell BK287.out 3).trans rfl, (blk_cell BK287.out 4).trans rfl, (blk_cell BK287.out 5).trans rfl, (blk_cell BK287.out 6).trans rfl, (blk_cell BK287.out 7).trans rfl⟩ (fun hHeld => ?_)
             clear hK K
             refine norm_ (a' := ?_) ?_ ?_
             rotate_left
             ·
              show Act.put _ (some 102) _ = _
              simp only [Act.put, setIfInBounds_toArray, set_cons_zero, set_cons_succ, i64_w, i32_w]
              rfl
             refine one_ (i := 32) (N := some 105) #[true,true,true,true,true,true,true,true,true,true,true,true,true,true,true,true,true,true,true,true,true,true,true,true,true,true,true,true,true,true,true,true,true,false,false] rfl rfl (one_of HT_.out (by kernel_rfl)) (by decide) (fun K hK => ?_)
             have hcv75 := Kd.C_string (P := Try.prog) (A := A289_2) (c := c289_2) Try.underlying27 Try.underlying5 Try.underlying9 ((Kd.V_reads' HL289_2.out).2.2)
             refine value_ (w1 := ?_) (v := ?_) (by rfl) rfl ?_ ?_
             rotate_left 2
             ·
              go_simp
              constructor
              ·
               rfl
              ·
               rfl
             clear hcv75
             refine hK.out _ _ ⟨(blk_cell BK290.out 0).trans rfl, (blk_cell BK290.out 1).trans rfl, (blk_cell BK290.out 2).trans rfl, (blk_cell BK290.out 3).trans rfl, (blk_cell BK290.out 4).trans rfl, (blk_cell BK290.out 5).trans rfl, (blk_cell BK290.out 6).trans rfl, (blk_cell BK290.out 7).trans rfl, (blk_cell BK287.out 0).trans rfl, (blk_cell BK287.out 1).trans rfl, (blk_cell BK287.out 2).trans rfl, (blk_cell BK287.out 3).trans rfl, (blk_cell BK287.out 4).trans rfl, (blk_cell BK287.out 5).trans rfl, (blk_cell BK287.out 6).trans rfl, (blk_cell BK287.out 7).trans rfl⟩ (fun hHeld => ?_)
             clear hK K
             refine norm_ (a' := ?_) ?_ ?_
             rotate_left
             ·
              show Act.put _ (some 105) _ = _
              simp only [Act.put, setIfInBounds_toArray, set_cons_zero, set_cons_succ, i64_w, i32_w]
              rfl
             exact norm_ (by simp only [putAll, Act.put, setIfInBounds_toArray, set_cons_zero, set_cons_succ]) (hCont () _ ⟨hHeld, (by (with_reducible repeat (first | apply Kd.V_alloc | apply Kd.V_drewN | apply Kd.V_drew)); exact Kd.V_mono HL289_2.out (fun _ hk => ⟨hk.2.1, ⟨hk.2.2.1, ⟨hk.2.2.2.1, ⟨hk.2.2.2.2.1, ⟨hk.2.2.2.2.2.1, ⟨hk.1, ⟨hk.2.2.2.2.2.2.1, hk.2.2.2.2.2.2.2⟩⟩⟩⟩⟩⟩⟩)), (by (with_reducible repeat (first | apply Kd.V_alloc | apply Kd.V_drewN | apply Kd.V_drew)); exact Kd.V_mono HL289_3.out (fun _ hk => ⟨hk.2.1, ⟨hk.2.2.1, ⟨hk.2.2.2.1, ⟨hk.2.2.2.2.1, ⟨hk.2.2.2.2.2.1, ⟨hk.1, ⟨hk.2.2.2.2.2.2.1, hk.2.2.2.2.2.2.2⟩⟩⟩⟩⟩⟩⟩)), (by (with_reducible repeat (first | apply Kd.V_alloc | apply Kd.V_drewN | apply Kd.V_drew)); exact Kd.V_mono HL289_4.out (fun _ hk => ⟨hk.2.1, ⟨hk.2.2.1, ⟨hk.2.2.2.1, ⟨hk.2.2.2.2.1, ⟨hk.2.2.2.2.2.1, ⟨hk.1, ⟨hk.2.2.2.2.2.2.1, hk.2.2.2.2.2.2.2⟩⟩⟩⟩⟩⟩⟩)), (by (with_reducible repeat (first | apply Kd.V_alloc | apply Kd.V_drewN | apply Kd.V_drew)); exact Kd.V_mono HL289_5.out (fun _ hk => ⟨hk.2.1, ⟨hk.2.2.1, ⟨hk.2.2.2.1, ⟨hk.2.2.2.2.1, ⟨hk.2.2.2.2.2.1, ⟨hk.1, ⟨hk.2.2.2.2.2.2.1, hk.2.2.2.2.2.2.2⟩⟩⟩⟩⟩⟩⟩)), (by (with_reducible repeat (first | apply Kd.V_alloc | apply Kd.V_drewN | apply Kd.V_drew)); exact Kd.V_mono HL289_6.out (fun _ hk => ⟨hk.2.1, ⟨hk.2.2.1, ⟨hk.2.2.2.1, ⟨hk.2.2.2.2.1, ⟨hk.2.2.2.2.2.1, ⟨hk.1, ⟨hk.2.2.2.2.2.2.1, hk.2.2.2.2.2.2.2⟩⟩⟩⟩⟩⟩⟩)), (by (with_reducible repeat (first | apply Kd.V_alloc | apply Kd.V_drewN | apply Kd.V_drew)); exact Kd.V_mono HO296.out (fun _ hk => ⟨hk.1.1.1.1.1.2, ⟨hk.1.1.1.1.2, ⟨hk.1.1.1.2, ⟨hk.1.1.2, ⟨hk.1.1.1.1.1.1.2, ⟨hk.1.2, hk.2⟩⟩⟩⟩⟩⟩)), (kR_ HO_288002.out), (kR_ HO_288003.out), (by (with_reducible repeat (first | apply Kd.N_alloc | apply Kd.N_drewN | apply Kd.N_drew)); exact Kd.N_mono HO_288004.out (fun _ hk => ⟨hk.2.1, ⟨hk.2.2.1, ⟨hk.2.2.2.1, ⟨hk.2.2.2.2.1, ⟨hk.1, ⟨hk.2.2.2.2.2.1, hk.2.2.2.2.2.2⟩⟩⟩⟩⟩⟩)), (by (with_reducible repeat (first | apply Kd.N_alloc | apply Kd.N_drewN | apply Kd.N_drew)); exact Kd.N_mono HO_288005.out (fun _ hk => ⟨hk.2.1, ⟨hk.2.2.1, ⟨hk.2.2.2.1, ⟨hk.2.2.2.2.1, ⟨hk.1, ⟨hk.2.2.2.2.2.1, hk.2.2.2.2.2.2⟩⟩⟩⟩⟩⟩)), (kR_ HO_288006.out), (kN_ HO_61.out), (bk_ BK287.out), (bk_ BK290.out), (hb2_ HB.out GE287.out GE290.out)⟩)
            ·
             skip
             have hcv74 := Kd.C_string (P := Try.prog) (A := A289_2) (c := c289_2) Try.underlying27 Try.underlying5 Try.underlying9 ((Kd.V_reads' HL289_2.out).2.2)
             refine value_ (w1 := ?_) (v := ?_) (by rfl) rfl ?_ ?_
             rotate_left 2
             ·
              go_simp
              constructor
              ·
               rfl
              ·
               rfl
             clear hcv74
             refine hK.out _ _ ⟨(blk_cell BK290.out 0).trans rfl, (blk_cell BK290.out 1).trans rfl, (blk_cell BK290.out 2).trans rfl, (blk_cell BK290.out 3).trans rfl, (blk_cell BK290.out 4).trans rfl, (blk_cell BK290.out 5).trans rfl, (blk_cell BK290.out 6).trans rfl, (blk_cell BK290.out 7).trans rfl, (blk_cell BK287.out 0).trans rfl, (blk_cell BK287.out 1).trans rfl, (blk_cell BK287.out 2).trans rfl, (blk_cell BK287.out 3).trans rfl, (blk_cell BK287.out 4).trans rfl, (blk_cell BK287.out 5).trans rfl, (blk_cell BK287.out 6).trans rfl, (blk_cell BK287.out 7).trans rfl⟩ (fun hHeld => ?_)
             clear hK K
             refine norm_ (a' := ?_) ?_ ?_
             rotate_left
             ·
              show Act.put _ (some 105) _ = _
              simp only [Act.put, setIfInBounds_toArray, set_cons_zero, set_cons_succ, i64_w, i32_w]
              rfl
             refine one_ (i := 29) (N := some 102) #[true,true,true,true,true,true,true,true,true,true,true,true,true,true,true,true,true,true,true,true,true,true,true,true,true,true,true,true,true,true,true,true,true,false,false] rfl rfl (one_of HT_.out (by kernel_rfl)) (by decide) (fun K hK => ?_)
             have hcv75 := Kd.C_string (P := Try.prog) (A := A73) (c := c73) Try.underlying27 Try.underlying5 Try.underlying9 (Kd.V_reads' HO296.out).2.2
             refine value_ (w1 := ?_) (v := ?_) (by rfl) rfl ?_ ?_
             rotate_left 2
             ·
              go_simp
              constructor
              ·
               rfl
              ·
               rfl
             clear hcv75
             refine hK.out _ _ ⟨(blk_cell BK290.out 0).trans rfl, (blk_cell BK290.out 1).trans rfl, (blk_cell BK290.out 2).trans rfl, (blk_cell BK290.out 3).trans rfl, (blk_cell BK290.out 4).trans rfl, (blk_cell BK290.out 5).trans rfl, (blk_cell BK290.out 6).trans rfl, (blk_cell BK290.out 7).trans rfl, (blk_cell BK287.out 0).trans rfl, (blk_cell BK287.out 1).trans rfl, (blk_cell BK287.out 2).trans rfl, (blk_cell BK287.out 3).trans rfl, (blk_cell BK287.out 4).trans rfl, (blk_cell BK287.out 5).trans rfl, (blk_cell BK287.out 6).trans rfl, (blk_cell BK287.out 7).trans rfl⟩ (fun hHeld => ?_)
             clear hK K
             refine norm_ (a' := ?_) ?_ ?_
             rotate_left
             ·
              show Act.put _ (some 102) _ = _
              simp only [Act.put, setIfInBounds_toArray, set_cons_zero, set_cons_succ, i64_w, i32_w]
              rfl
             exact norm_ (by simp only [putAll, Act.put, setIfInBounds_toArray, set_cons_zero, set_cons_succ]) (hCont () _ ⟨hHeld, (by (with_reducible repeat (first | apply Kd.V_alloc | apply Kd.V_drewN | apply Kd.V_drew)); exact Kd.V_mono HL289_2.out (fun _ hk => ⟨hk.2.1, ⟨hk.2.2.1, ⟨hk.2.2.2.1, ⟨hk.2.2.2.2.1, ⟨hk.2.2.2.2.2.1, ⟨hk.1, ⟨hk.2.2.2.2.2.2.1, hk.2.2.2.2.2.2.2⟩⟩⟩⟩⟩⟩⟩)), (by (with_reducible repeat (first | apply Kd.V_alloc | apply Kd.V_drewN | apply Kd.V_drew)); exact Kd.V_mono HL289_3.out (fun _ hk => ⟨hk.2.1, ⟨hk.2.2.1, ⟨hk.2.2.2.1, ⟨hk.2.2.2.2.1, ⟨hk.2.2.2.2.2.1, ⟨hk.1, ⟨hk.2.2.2.2.2.2.1, hk.2.2.2.2.2.2.2⟩⟩⟩⟩⟩⟩⟩)), (by (with_reducible repeat (first | apply Kd.V_alloc | apply Kd.V_drewN | apply Kd.V_drew)); exact Kd.V_mono HL289_4.out (fun _ hk => ⟨hk.2.1, ⟨hk.2.2.1, ⟨hk.2.2.2.1, ⟨hk.2.2.2.2.1, ⟨hk.2.2.2.2.2.1, ⟨hk.1, ⟨hk.2.2.2.2.2.2.1, hk.2.2.2.2.2.2.2⟩⟩⟩⟩⟩⟩⟩)), (by (with_reducible repeat (first | apply Kd.V_alloc | apply Kd.V_drewN | apply Kd.V_drew)); exact Kd.V_mono HL289_5.out (fun _ hk => ⟨hk.2.1, ⟨hk.2.2.1, ⟨hk.2.2.2.1, ⟨hk.2.2.2.2.1, ⟨hk.2.2.2.2.2.1, ⟨hk.1, ⟨hk.2.2.2.2.2.2.1, hk.2.2.2.2.2.2.2⟩⟩⟩⟩⟩⟩⟩)), (by (with_reducible repeat (first | apply Kd.V_alloc | apply Kd.V_drewN | apply Kd.V_drew)); exact Kd.V_mono HL289_6.out (fun _ hk => ⟨hk.2.1, ⟨hk.2.2.1, ⟨hk.2.2.2.1, ⟨hk.2.2.2.2.1, ⟨hk.2.2.2.2.2.1, ⟨hk.1, ⟨hk.2.2.2.2.2.2.1, hk.2.2.2.2.2.2.2⟩⟩⟩⟩⟩⟩⟩)), (by (with_reducible repeat (first | apply Kd.V_alloc | apply Kd.V_drewN | apply Kd.V_drew)); exact Kd.V_mono HO296.out (fun _ hk => ⟨hk.1.1.1.1.1.2, ⟨hk.1.1.1.1.2, ⟨hk.1.1.1.2, ⟨hk.1.1.2, ⟨hk.1.1.1.1.1.1.2, ⟨hk.1.2, hk.2⟩⟩⟩⟩⟩⟩)), (kR_ HO_288002.out), (kR_ HO_288003.out), (by (with_reducible repeat (first | apply Kd.N_alloc | apply Kd.N_drewN | apply Kd.N_drew)); exact Kd.N_mono HO_288004.out (fun _ hk => ⟨hk.2.1, ⟨hk.2.2.1, ⟨hk.2.2.2.1, ⟨hk.2.2.2.2.1, ⟨hk.1, ⟨hk.2.2.2.2.2.1, hk.2.2.2.2.2.2⟩⟩⟩⟩⟩⟩)), (by (with_reducible repeat (first | apply Kd.N_alloc | apply Kd.N_drewN | apply Kd.N_drew)); exact Kd.N_mono HO_288005.out (fun _ hk => ⟨hk.2.1, ⟨hk.2.2.1, ⟨hk.2.2.2.1, ⟨hk.2.2.2.2.1, ⟨hk.1, ⟨hk.2.2.2.2.2.1, hk.2.2.2.2.2.2⟩⟩⟩⟩⟩⟩)), (kR_ HO_288006.out), (kN_ HO_61.out), (bk_ BK287.out), (bk_ BK290.out), (hb2_ HB.out GE287.out GE290.out)⟩)
           rintro _ w76 ⟨hS_, h0_, h1_, h2_, h3_, h4_, h5_, h6_, h7_, h8_, h9_, h10_, h11_, h12_, h13_, h14_⟩
           have n0_ : Aside0 (Kd.V (Kd.int .u8) 5 w76 w.heap.size (fun k_ => some k_ ≠ (.slice Ao43 t270.length co43 : Value).ownBlock ∧ some k_ ≠ (.slice (some ad291) t273.length co44 : Value).ownBlock ∧ some k_ ≠ (.slice Ao45 t276.length co45 : Value).ownBlock ∧ some k_ ≠ (.slice Ao46 t279.length co46 : Value).ownBlock ∧ some k_ ≠ (.slice Ao47 t282.length co47 : Value).ownBlock ∧ some k_ ≠ (.slice (some ad289) x4_1.length co38 : Value).ownBlock ∧ k_ ≠ gb287 ∧ k_ ≠ gb290) (.slice A289_2 ((rd_T31 x4_1 x63_3).f2).length c289_2) ((rd_T31 x4_1 x63_3).f2)) := ⟨h0_⟩
           have n1_ : Aside0 (Kd.V (Kd.int .i64) 3 w76 w.heap.size (fun k_ => some k_ ≠ (.slice Ao43 t270.length co43 : Value).ownBlock ∧ some k_ ≠ (.slice (some ad291) t273.length co44 : Value).ownBlock ∧ some k_ ≠ (.slice Ao45 t276.length co45 : Value).ownBlock ∧ some k_ ≠ (.slice Ao46 t279.length co46 : Value).ownBlock ∧ some k_ ≠ (.slice Ao47 t282.length co47 : Value).ownBlock ∧ some k_ ≠ (.slice (some ad289) x4_1.length co38 : Value).ownBlock ∧ k_ ≠ gb287 ∧ k_ ≠ gb290) (.slice A289_3 ((rd_T31 x4_1 x63_3).f3).length c289_3) ((rd_T31 x4_1 x63_3).f3)) := ⟨h1_⟩
           have n2_ : Aside0 (Kd.V k101 101 w76 w.heap.size (fun k_ => some k_ ≠ (.slice Ao43 t270.length co43 : Value).ownBlock ∧ some k_ ≠ (.slice (some ad291) t273.length co44 : Value).ownBlock ∧ some k_ ≠ (.slice Ao45 t276.length co45 : Value).ownBlock ∧ some k_ ≠ (.slice Ao46 t279.length co46 : Value).ownBlock ∧ some k_ ≠ (.slice Ao47 t282.length co47 : Value).ownBlock ∧ some k_ ≠ (.slice (some ad289) x4_1.length co38 : Value).ownBlock ∧ k_ ≠ gb287 ∧ k_ ≠ gb290) (.slice A289_4 ((rd_T31 x4_1 x63_3).f4).length c289_4) ((rd_T31 x4_1 x63_3).f4)) := ⟨h2_⟩
           have n3_ : Aside0 (Kd.V k79 79 w76 w.heap.size (fun k_ => some k_ ≠ (.slice Ao43 t270.length co43 : Value).ownBlock ∧ some k_ ≠ (.slice (some ad291) t273.length co44 : Value).ownBlock ∧ some k_ ≠ (.slice Ao45 t276.length co45 : Value).ownBlock ∧ some k_ ≠ (.slice Ao46 t279.length co46 : Value).ownBlock ∧ some k_ ≠ (.slice Ao47 t282.length co47 : Value).ownBlock ∧ some k_ ≠ (.slice (some ad289) x4_1.length co38 : Value).ownBlock ∧ k_ ≠ gb287 ∧ k_ ≠ gb290) (.slice A289_5 ((rd_T31 x4_1 x63_3).f5).length c289_5) ((rd_T31 x4_1 x63_3).f5)) := ⟨h3_⟩
           have n4_ : Aside0 (Kd.V (Kd.int .i64) 3 w76 w.heap.size (fun k_ => some k_ ≠ (.slice Ao43 t270.length co43 : Value).ownBlock ∧ some k_ ≠ (.slice (some ad291) t273.length co44 : Value).ownBlock ∧ some k_ ≠ (.slice Ao45 t276.length co45 : Value).ownBlock ∧ some k_ ≠ (.slice Ao46 t279.length co46 : Value).ownBlock ∧ some k_ ≠ (.slice Ao47 t282.length co47 : Value).ownBlock ∧ some k_ ≠ (.slice (some ad289) x4_1.length co38 : Value).ownBlock ∧ k_ ≠ gb287 ∧ k_ ≠ gb290) (.slice A289_6 ((rd_T31 x4_1 x63_3).f6).length c289_6) ((rd_T31 x4_1 x63_3).f6)) := ⟨h4_⟩
           have n5_ : Aside0 (Kd.V (Kd.int .u8) 5 w76 w.heap.size (fun k_ => some k_ ≠ (.slice (some ad291) t273.length co44 : Value).ownBlock ∧ some k_ ≠ (.slice Ao45 t276.length co45 : Value).ownBlock ∧ some k_ ≠ (.slice Ao46 t279.length co46 : Value).ownBlock ∧ some k_ ≠ (.slice Ao47 t282.length co47 : Value).ownBlock ∧ some k_ ≠ (.slice (some ad289) x4_1.length co38 : Value).ownBlock ∧ k_ ≠ gb287 ∧ k_ ≠ gb290) (.slice A73 y292.length c73) y292) := ⟨h5_⟩
           have n6_ : Aside0 (Kd.R (Kd.int .u8) 5 w76 w.heap.size (fun _ => True) (.slice Ao43 t270.length co43) t270) := ⟨h6_⟩
           have n7_ : Aside0 (Kd.R (Kd.int .i64) 3 w76 w.heap.size (fun k_ => some k_ ≠ (.slice Ao47 t282.length co47 : Value).ownBlock) (.slice (some ad291) t273.length co44) t273) := ⟨h7_⟩
           have n8_ : Aside0 (Kd.N k101 101 w76 w.heap.size (fun k_ => some k_ ≠ (.slice Ao43 t270.length co43 : Value).ownBlock ∧ some k_ ≠ (.slice (some ad291) t273.length co44 : Value).ownBlock ∧ some k_ ≠ (.slice Ao46 t279.length co46 : Value).ownBlock ∧ some k_ ≠ (.slice Ao47 t282.length co47 : Value).ownBlock ∧ some k_ ≠ (.slice (some ad289) x4_1.length co38 : Value).ownBlock ∧ k_ ≠ gb287 ∧ k_ ≠ gb290) (.slice Ao45 t276.length co45) t276) := ⟨h8_⟩
           have n9_ : Aside0 (Kd.N k79 79 w76 w.heap.size (fun k_ => some k_ ≠ (.slice Ao43 t270.length co43 : Value).ownBlock ∧ some k_ ≠ (.slice (some ad291) t273.length co44 : Value).ownBlock ∧ some k_ ≠ (.slice Ao45 t276.length co45 : Value).ownBlock ∧ some k_ ≠ (.slice Ao47 t282.length co47 : Value).ownBlock ∧ some k_ ≠ (.slice (some ad289) x4_1.length co38 : Value).ownBlock ∧ k_ ≠ gb287 ∧ k_ ≠ gb290) (.slice Ao46 t279.length co46) t279) := ⟨h9_⟩
           have n10_ : Aside0 (Kd.R (Kd.int .i64) 3 w76 w.heap.size (fun k_ => some k_ ≠ (.slice (some ad291) t273.length co44 : Value).ownBlock) (.slice Ao47 t282.length co47) t282) := ⟨h10_⟩
           have n11_ : Aside0 (Kd.N k31 31 w76 w.heap.size (fun k_ => some k_ ≠ (.slice Ao43 t270.length co43 : Value).ownBlock ∧ some k_ ≠ (.slice (some ad291) t273.length co44 : Value).ownBlock ∧ some k_ ≠ (.slice Ao45 t276.length co45 : Value).ownBlock ∧ some k_ ≠ (.slice Ao46 t279.length co46 : Value).ownBlock ∧ some k_ ≠ (.slice Ao47 t282.length co47 : Value).ownBlock ∧ k_ ≠ gb287 ∧ k_ ≠ gb290) (.slice (some ad289) x4_1.length co38) x4_1) := ⟨h11_⟩
           have n12_ : Aside0 (w76.heap[gb287]? = some (.cells #[.int .i64 t268, .int .i64 t269, .slice Ao43 t270.length co43, .slice (some ad291) t273.length co44, .slice Ao45 t276.length co45, .slice Ao46 t279.length co46, .slice Ao47 t282.length co47, .bool t285] 31 (0, 0))) := ⟨h12_⟩
           have n13_ : Aside0 (w76.heap[gb290]? = some (.cells #[.int .i64 ((rd_T31 x4_1 x63_3).f0), .int .i64 ((rd_T31 x4_1 x63_3).f1), .slice A289_2 ((rd_T31 x4_1 x63_3).f2).length c289_2, .slice A289_3 ((rd_T31 x4_1 x63_3).f3).length c289_3, .slice A289_4 ((rd_T31 x4_1 x63_3).f4).length c289_4, .slice A289_5 ((rd_T31 x4_1 x63_3).f5).length c289_5, .slice A289_6 ((rd_T31 x4_1 x63_3).f6).length c289_6, .bool ((rd_T31 x4_1 x63_3).f7)] 31 (0, 0))) := ⟨h13_⟩
           have n14_ : Aside0 (Below w.heap.size w w76) := ⟨h14_⟩
           clear HO_61
           clear HO_288002
           clear HO_288003
           clear HO_288004
           clear HO_288005
           clear HO_288006
           clear HL289_2
           clear HL289_3
           clear HL289_4
           clear HL289_5
           clear HL289_6
           clear BK287
           clear BK290
           clear HB
           clear h0_ h1_ h2_ h3_ h4_ h5_ h6_ h7_ h8_ h9_ h10_ h11_ h12_ h13_ h14_
           have HL289_2 := n0_
           have HL289_3 := n1_
           have HL289_4 := n2_
           have HL289_5 := n3_
           have HL289_6 := n4_
           have HO296 := n5_
           have HO_288002 := n6_
           have HO_288003 := n7_
           have HO_288004 := n8_
           have HO_288005 := n9_
           have HO_288006 := n10_
           have HO_61 := n11_
           have BK287 := n12_
           have BK290 := n13_
           have HB := n14_
           clear n0_ n1_ n2_ n3_ n4_ n5_ n6_ n7_ n8_ n9_ n10_ n11_ n12_ n13_ n14_
           have hHeld : w76.cell? ⟨gb290, 0, none⟩ = some (.int .i64 ((rd_T31 x4_1 x63_3).f0)) ∧ w76.cell? ⟨gb290, 1, none⟩ = some (.int .i64 ((rd_T31 x4_1 x63_3).f1)) ∧ w76.cell? ⟨gb290, 2, none⟩ = some (.slice A289_2 ((rd_T31 x4_1 x63_3).f2).length c289_2) ∧ w76.cell? ⟨gb290, 3, none⟩ = some (.slice A289_3 ((rd_T31 x4_1 x63_3).f3).length c289_3) ∧ w76.cell? ⟨gb290, 4, none⟩ = some (.slice A289_4 ((rd_T31 x4_1 x63_3).f4).length c289_4) ∧ w76.cell? ⟨gb290, 5, none⟩ = some (.slice A289_5 ((rd_T31 x4_1 x63_3).f5).length c289_5) ∧ w76.cell? ⟨gb290, 6, none⟩ = some (.slice A289_6 ((rd_T31 x4_1 x63_3).f6).length c289_6) ∧ w76.cell? ⟨gb290, 7, none⟩ = some (.bool ((rd_T31 x4_1 x63_3).f7)) ∧ w76.cell? ⟨gb287, 0, none⟩ = some (.int .i64 t268) ∧ w76.cell? ⟨gb287, 1, none⟩ = some (.int .i64 t269) ∧ w76.cell? ⟨gb287, 2, none⟩ = some (.slice Ao43 t270.length co43) ∧ w76.cell? ⟨gb287, 3, none⟩ = some (.slice (some ad291) t273.length co44) ∧ w76.cell? ⟨gb287, 4, none⟩ = some (.slice Ao45 t276.length co45) ∧ w76.cell? ⟨gb287, 5, none⟩ = some (.slice Ao46 t279.length co46) ∧ w76.cell? ⟨gb287, 6, none⟩ = some (.slice Ao47 t282.length co47) ∧ w76.cell? ⟨gb287, 7, none⟩ = some (.bool t285) := hS_
           refine norm_ (a' := ?_) ?_ ?_
           rotate_left
           ·
            simp only [putAll, Act.put, setIfInBounds_toArray, set_cons_zero, set_cons_succ]
            rfl
           refine pure_ (i := 33) (N := some 106) (v := ?_) (a' := ?_) #[true,true,true,true,true,true,true,true,true,true,true,true,true,true,true,true,true,true,true,true,true,true,true,true,true,true,true,true,true,true,true,true,true,true,false] rfl rfl (any_of HT_.out (by kernel_rfl)) (fun _ _ _ h => h) (Or.inl ⟨by rfl, ?_⟩) ?_ ?_
           rotate_left
           ·
            intro w'
            go_simp
            with_reducible rfl
           rotate_left
           ·
            simp only [Act.put, setIfInBounds_toArray, set_cons_zero, set_cons_succ, i64_w, i32_w]
            rfl
           refine pure_ (i := 34) (N := some 107) (v := ?_) (a' := ?_) #[true,true,true,true,true,true,true,true,true,true,true,true,true,true,true,true,true,true,true,true,true,true,true,true,true,true,true,true,true,true,true,true,true,true,true] rfl rfl (any_of HT_.out (by kernel_rfl)) (fun _ _ _ h => h) (Or.inl ⟨by rfl, ?_⟩) ?_ ?_
           rotate_left
           ·
            intro w'
            go_simp
            with_reducible rfl
           rotate_left
           ·
            simp only [Act.put, setIfInBounds_toArray, set_cons_zero, set_cons_succ, i64_w, i32_w]
            rfl
           refine done_ (done_of HT_.out (by kernel_rfl)) ?_
           try go_wp2
           have n0_ := Aside0.mk (Kd.N_drew HO_61.out)
           have n1_ := Aside0.mk (Kd.R_drew HO_288002.out)
           have n2_ := Aside0.mk (Kd.R_drew HO_288003.out)
           have n3_ := Aside0.mk (Kd.N_drew HO_288004.out)
           have n4_ := Aside0.mk (Kd.N_drew HO_288005.out)
           have n5_ := Aside0.mk (Kd.R_drew HO_288006.out)
           have n6_ := Aside0.mk (Kd.V_drew HL289_2.out)
           have n7_ := Aside0.mk (Kd.V_drew HL289_3.out)
           have n8_ := Aside0.mk (Kd.V_drew HL289_4.out)
           have n9_ := Aside0.mk (Kd.V_drew HL289_5.out)
           have n10_ := Aside0.mk (Kd.V_drew HL289_6.out)
           have n11_ := Aside0.mk (Kd.V_drew HO296.out)
           have n12_ := Aside0.mk (blk_drew BK287.out)
           have n13_ := Aside0.mk (blk_drew BK290.out)
           have n14_ := Aside0.mk (below_drew1 HB.out)
           clear HO_61
           clear HO_288002
           clear HO_288003
           clear HO_288004
           clear HO_288005
           clear HO_288006
           clear HL289_2
           clear HL289_3
           clear HL289_4
           clear HL289_5
           clear HL289_6
           clear HO296
           clear BK287
           clear BK290
           clear HB
           have HO_61 := n0_
           have HO_288002 := n1_
           have HO_288003 := n2_
           have HO_288004 := n3_
           have HO_288005 := n4_
           have HO_288006 := n5_
           have HL289_2 := n6_
           have HL289_3 := n7_
           have HL289_4 := n8_
           have HL289_5 := n9_
           have HL289_6 := n10_
           have HO296 := n11_
           have BK287 := n12_
           have BK290 := n13_
           have HB := n14_
           clear n0_ n1_ n2_ n3_ n4_ n5_ n6_ n7_ n8_ n9_ n10_ n11_ n12_ n13_ n14_
           refine start_ (n := 10) (S := fun w' => w'.cell? ⟨gb290, 0, none⟩ = some (.int .i64 ((rd_T31 x4_1 x63_3).f0)) ∧ w'.cell? ⟨gb290, 1, none⟩ = some (.int .i64 ((rd_T31 x4_1 x63_3).f1)) ∧ w'.cell? ⟨gb290, 2, none⟩ = some (.slice A289_2 ((rd_T31 x4_1 x63_3).f2).length c289_2) ∧ w'.cell? ⟨gb290, 3, none⟩ = some (.slice A289_3 ((rd_T31 x4_1 x63_3).f3).length c289_3) ∧ w'.cell? ⟨gb290, 4, none⟩ = some (.slice A289_4 ((rd_T31 x4_1 x63_3).f4).length c289_4) ∧ w'.cell? ⟨gb290, 5, none⟩ = some (.slice A289_5 ((rd_T31 x4_1 x63_3).f5).length c289_5) ∧ w'.cell? ⟨gb290, 6, none⟩ = some (.slice A289_6 ((rd_T31 x4_1 x63_3).f6).length c289_6) ∧ w'.cell? ⟨gb290, 7, none⟩ = some (.bool ((rd_T31 x4_1 x63_3).f7))) (ds := []) #[false,false,false,false,false,false,false,false,false,false] (by kernel_rfl) rfl rfl ⟨(blk_cell BK290.out 0).trans rfl, (blk_cell BK290.out 1).trans rfl, (blk_cell BK290.out 2).trans rfl, (blk_cell BK290.out 3).trans rfl, (blk_cell BK290.out 4).trans rfl, (blk_cell BK290.out 5).trans rfl, (blk_cell BK290.out 6).trans rfl, (blk_cell BK290.out 7).trans rfl⟩ (fun hHeld => ?_); refine with_tabW law16_ProductSpares.tab23 law16_ProductSpares.bits23 (fun HT_ HW_ => ?_)
           generalize w76.drew = w77 at HO_61 HO_288002 HO_288003 HO_288004 HO_288005 HO_288006 HL289_2 HL289_3 HL289_4 HL289_5 HL289_6 HO296 BK287 BK290 HB hHeld ⊢
           refine pure_ (i := 0) (N := some 108) (v := ?_) (a' := ?_) #[true,false,false,false,false,false,false,false,false,false] rfl rfl (any_of HT_.out (by kernel_rfl)) (fun _ _ _ h => h) (Or.inl ⟨by rfl, ?_⟩) ?_ ?_
           rotate_left
           ·
            intro w'
            go_simp
            with_reducible rfl
           rotate_left
           ·
            simp only [Act.put, setIfInBounds_toArray, set_cons_zero, set_cons_succ, i64_w, i32_w]
            rfl
           refine pure_ (i := 1) (N := some 109) (v := ?_) (a' := ?_) #[true,true,false,false,false,false,false,false,false,false] rfl rfl (any_of HT_.out (by kernel_rfl)) (fun _ _ _ h => h) (Or.inl ⟨by rfl, ?_⟩) ?_ ?_
           rotate_left
           ·
            intro w'
            go_simp
            with_reducible rfl
           rotate_left
           ·
            simp only [Act.put, setIfInBounds_toArray, set_cons_zero, set_cons_succ, i64_w, i32_w]
            rfl
           refine pure_ (i := 4) (N := some 112) (v := ?_) (a' := ?_) #[true,true,false,false,true,false,false,false,false,false] rfl rfl (any_of HT_.out (by kernel_rfl)) (fun _ _ _ h => h) (Or.inl ⟨by rfl, ?_⟩) ?_ ?_
           rotate_left
           ·
            intro w'
            go_simp
            with_reducible rfl
           rotate_left
           ·
            simp only [Act.put, setIfInBounds_toArray, set_cons_zero, set_cons_succ, i64_w, i32_w]
            rfl
           refine pure_ (i := 5) (N := some 113) (v := ?_) (a' := ?_) #[true,true,false,false,true,true,false,false,false,false] rfl rfl (any_of HT_.out (by kernel_rfl)) (fun _ _ _ h => h) (Or.inl ⟨by rfl, ?_⟩) ?_ ?_
           rotate_left
           ·
            intro w'
            go_simp
            with_reducible rfl
           rotate_left
           ·
            simp only [Act.put, setIfInBounds_toArray, set_cons_zero, set_cons_succ, i64_w, i32_w]
            rfl
           refine take_ (i := 2) (N := some 110) (v := ?_) (a' := ?_) #[true,true,true,false,true,true,false,false,false,false] rfl rfl (take_ofW HT_.out HW_.out (by kernel_rfl)) (fun _ _ _ h => h) (Or.inl ⟨by rfl, ?_⟩) hHeld ?_ ?_
           rotate_left
           ·
            rintro w' ⟨s0, s1, s2, s3, s4, s5, s6, s7⟩
            go_simp
            with_reducible rfl
           rotate_left
           ·
            simp only [Act.put, setIfInBounds_toArray, set_cons_zero, set_cons_succ, i64_w, i32_w]
            rfl
           refine pure_ (i := 3) (N := some 111) (v := ?_) (a' := ?_) #[true,true,true,true,true,true,false,false,false,false] rfl rfl (any_of HT_.out (by kernel_rfl)) (fun _ _ _ h => h) (Or.inl ⟨by rfl, ?_⟩) ?_ ?_
           rotate_left
           ·
            intro w'
            go_simp
            with_reducible rfl
           rotate_left
           ·
            simp only [Act.put, setIfInBounds_toArray, set_cons_zero, set_cons_succ, i64_w, i32_w]
            rfl
           refine pure_ (i := 8) (N := some 9) (v := ?_) (a' := ?_) #[true,true,true,true,true,true,false,false,true,false] rfl rfl (any_of HT_.out (by kernel_rfl)) (fun _ _ _ h => h) (Or.inl ⟨by rfl, ?_⟩) ?_ ?_
           rotate_left
           ·
            intro w'
            go_simp
            with_reducible rfl
           rotate_left
           ·
            simp only [Act.put, setIfInBounds_toArray, set_cons_zero, set_cons_succ, i64_w, i32_w]
            rfl
           refine take_ (i := 6) (N := some 114) (v := ?_) (a' := ?_) #[true,true,true,true,true,true,true,false,true,false] rfl rfl (take_ofW HT_.out HW_.out (by kernel_rfl)) (fun _ _ _ h => h) (Or.inl ⟨by rfl, ?_⟩) hHeld ?_ ?_
           rotate_left
           ·
            rintro w' ⟨s0, s1, s2, s3, s4, s5, s6, s7⟩
            go_simp
            with_reducible rfl
           rotate_left
           ·
            simp only [Act.put, setIfInBounds_toArray, set_cons_zero, set_cons_succ, i64_w, i32_w]
            rfl
           refine pure_ (i := 7) (N := some 115) (v := ?_) (a' := ?_) #[true,true,true,true,true,true,true,true,true,false] rfl rfl (any_of HT_.out (by kernel_rfl)) (fun _ _ _ h => h) (Or.inl ⟨by rfl, ?_⟩) ?_ ?_
           rotate_left
           ·
            intro w'
            go_simp
            with_reducible rfl
           rotate_left
           ·
            simp only [Act.put, setIfInBounds_toArray, set_cons_zero, set_cons_succ, i64_w, i32_w]
            rfl
           refine pure_ (i := 9) (N := some 10) (v := ?_) (a' := ?_) #[true,true,true,true,true,true,true,true,true,true] rfl rfl (any_of HT_.out (by kernel_rfl)) (fun _ _ _ h => h) (Or.inl ⟨by rfl, ?_⟩) ?_ ?_
           rotate_left
           ·
            intro w'
            go_simp
            with_reducible rfl
           rotate_left
           ·
            simp only [Act.put, setIfInBounds_toArray, set_cons_zero, set_cons_succ, i64_w, i32_w]
            rfl
           refine done_ (done_of HT_.out (by kernel_rfl)) ?_
           have hcz78_0 : w77.cell? ⟨gb290, 0, none⟩ = some (.int .i64 ((rd_T31 x4_1 x63_3).f0)) := (blk_cell BK290.out 0).trans rfl
           have hcz78_1 : w77.cell? ⟨gb290, 1, none⟩ = some (.int .i64 ((rd_T31 x4_1 x63_3).f1)) := (blk_cell BK290.out 1).trans rfl
           have hcz78_2 : w77.cell? ⟨gb290, 2, none⟩ = some (.slice A289_2 ((rd_T31 x4_1 x63_3).f2).length c289_2) := (blk_cell BK290.out 2).trans rfl
           have hcz78_3 : w77.cell? ⟨gb290, 3, none⟩ = some (.slice A289_3 ((rd_T31 x4_1 x63_3).f3).length c289_3) := (blk_cell BK290.out 3).trans rfl
           have hcz78_4 : w77.cell? ⟨gb290, 4, none⟩ = some (.slice A289_4 ((rd_T31 x4_1 x63_3).f4).length c289_4) := (blk_cell BK290.out 4).trans rfl
           have hcz78_5 : w77.cell? ⟨gb290, 5, none⟩ = some (.slice A289_5 ((rd_T31 x4_1 x63_3).f5).length c289_5) := (blk_cell BK290.out 5).trans rfl
           have hcz78_6 : w77.cell? ⟨gb290, 6, none⟩ = some (.slice A289_6 ((rd_T31 x4_1 x63_3).f6).length c289_6) := (blk_cell BK290.out 6).trans rfl
           have hcz78_7 : w77.cell? ⟨gb290, 7, none⟩ = some (.bool ((rd_T31 x4_1 x63_3).f7)) := (blk_cell BK290.out 7).trans rfl
           have hfz78_0 := blk_frozen BK290.out 0
           have hfz78_1 := blk_frozen BK290.out 1
           have hfz78_2 := blk_frozen BK290.out 2
           have hfz78_3 := blk_frozen BK290.out 3
           have hfz78_4 := blk_frozen BK290.out 4
           have hfz78_5 := blk_frozen BK290.out 5
           have hfz78_6 := blk_frozen BK290.out 6
           have hfz78_7 := blk_frozen BK290.out 7
           try go_wp2_with (first | ((with_reducible refine gate_callee (f := 32) rfl ?_); refine goesL_ (some 119) rfl rfl Try.func32 (by kernel_rfl) rfl #[.slice A289_2 ((rd_T31 x4_1 x63_3).f2).length c289_2] rfl (by (try simp only [List.map_toArray, List.map_cons, List.map_nil]); first | done | rfl | (simp only [List.length_drop, List.length_take]; rfl)) ?_; (with_reducible refine (ref15_Count.calls k3 _ _ ((rd_T31 x4_1 x63_3).f2) t297 _ ?side1 ?side2 A66.out).mono ?_); (case side1 => repeat (first | exact ((Kd.V_reads' (kV_ HL289_2.out)).2.2) | (with_reducible refine Kd.C_alloc ?_ _) | (with_reducible refine Kd.C_drewN ?_ _) | (with_reducible refine Kd.C_drew ?_))); (case side2 => exact HC289_2.out); rintro e w' ⟨rfl, ⟨nd, rfl⟩⟩; refine ⟨_, rfl, ?_⟩))
           go_roundg k3
           case measure => have := HK1.out; have := HJ36.out; have := HK3.out; omega
           case rel => exact ⟨(wrap64 ((rd t273 x63_3) + ((rd_T31 x4_1 x63_3).f0))), (ji65), (wrap64 (x11_3 + t297)), (wrap64 (x63_3 + 1)), (by first | rfl | (simp; done) | (simp [*]; done)), (by first | rfl | (simp; done) | (simp only [← hji65] <;> (first | rfl | simp)) | (simp [*]; done)), (by first | rfl | (simp; done) | (simp [*]; done)), (by first | rfl | (simp; done) | (simp [*]; done)), H', ⟨by have := HK1.out; have := HJ36.out; have := HK3.out; omega⟩, ⟨by (with_reducible repeat (first | apply Kd.N_alloc | apply Kd.N_drewN | apply Kd.N_drew)); exact Kd.N_mono HO_61.out (fun _ hk => ⟨hk.1, ⟨hk.2.1, ⟨hk.2.2.1, ⟨hk.2.2.2.1, ⟨hk.2.2.2.2.1, hk.2.2.2.2.2.1⟩⟩⟩⟩⟩)⟩, ⟨by (with_reducible repeat (first | apply Kd.R_alloc | apply Kd.R_drewN | apply Kd.R_drew)); exact HO_288002.out⟩, ⟨by (with_reducible repeat (first | apply Kd.R_alloc | apply Kd.R_drewN | apply Kd.R_drew)); exact HO_288003.out⟩, ⟨by (with_reducible repeat (first | apply Kd.N_alloc | apply Kd.N_drewN | apply Kd.N_drew)); exact Kd.N_mono HO_288004.out (fun _ hk => ⟨hk.2.2.2.2.1, ⟨hk.1, ⟨hk.2.1, ⟨hk.2.2.1, ⟨hk.2.2.2.1, hk.2.2.2.2.2.1⟩⟩⟩⟩⟩)⟩, ⟨by (with_reducible repeat (first | apply Kd.N_alloc | apply Kd.N_drewN | apply Kd.N_drew)); exact Kd.N_mono HO_288005.out (fun _ hk => ⟨hk.2.2.2.2.1, ⟨hk.1, ⟨hk.2.1, ⟨hk.2.2.1, ⟨hk.2.2.2.1, hk.2.2.2.2.2.1⟩⟩⟩⟩⟩)⟩, ⟨by (with_reducible repeat (first | apply Kd.R_alloc | apply Kd.R_drewN | apply Kd.R_drew)); exact HO_288006.out⟩, ⟨by (with_reducible repeat (first | refine blk_drewN ?_ _ | refine blk_drew ?_ | refine blk_alloc ?_ _)); exact BK287.out⟩, ⟨by repeat (first | (with_reducible first | exact HB.out | apply below_alloc | apply pw_below_drewN | apply below_drew1 | refine below_set ?_ GE287.out | refine below_set ?_ GE290.out) | exact HB.out)⟩⟩
          ·
           rw [if_neg c54] at H
           have c54b0 : decide (x63_3 < (x4_1.length : Int)) = false := decide_eq_false c54
           clear c54
           by_cases c79 : t268 = x9_3
           rotate_left
           ·
            rw [if_neg c79] at H
            have c79b0 : (t268 == x9_3) = false := beq_eq_false_iff_ne.mpr c79
            have c79b1 : (t268 != x9_3) = true := bne_iff_ne.mpr c79
            exact absurd ((Option.some.inj H).trans hr_) (by decide)
           rw [if_pos c79] at H
           have c79b0 : (t268 == x9_3) = true := beq_iff_eq.mpr c79
           have c79b1 : (t268 != x9_3) = false := bne_eq_false_iff_eq.mpr c79
           clear c79
           by_cases c80 : t269 = x10_3
           rotate_left
           ·
            rw [if_neg c80] at H
            have c80b0 : (t269 == x10_3) = false := beq_eq_false_iff_ne.mpr c80
            have c80b1 : (t269 != x10_3) = true := bne_iff_ne.mpr c80
            exact absurd ((Option.some.inj H).trans hr_) (by decide)
           rw [if_pos c80] at H
           have c80b0 : (t269 == x10_3) = true := beq_iff_eq.mpr c80
           have c80b1 : (t269 != x10_3) = false := bne_eq_false_iff_eq.mpr c80
           clear c80
           replace H := Option.bind_eq_some_iff.mp H
           obtain ⟨t298, A810, H⟩ := H
           replace H : (if t298 = x11_3 then ((product_Stride.f t268 t269 t270 t273 t276 t279 t282 t285).bind fun t299 => (if x10_3 = 0 then (none) else (if (Int.tmod t299 x10_3) = 0 then ((product_Stride.f t268 t269 t270 t273 t276 t279 t282 t285).bind fun t300 => (if t300 ≥ t268 then ((Awake16.f).bind fun t301 => (some t301)) else (some false))) else (some false)))) else (some false)) = some r := H
           have A81 := Aside0.mk A810
           clear A810
           by_cases c82 : t298 = x11_3
           rotate_left
           ·
            rw [if_neg c82] at H
            have c82b0 : (t298 == x11_3) = false := beq_eq_false_iff_ne.mpr c82
            have c82b1 : (t298 != x11_3) = true := bne_iff_ne.mpr c82
            exact absurd ((Option.some.inj H).trans hr_) (by decide)
           rw [if_pos c82] at H
           have c82b0 : (t298 == x11_3) = true := beq_iff_eq.mpr c82
           have c82b1 : (t298 != x11_3) = false := bne_eq_false_iff_eq.mpr c82
           clear c82
           replace H := Option.bind_eq_some_iff.mp H
           obtain ⟨t299, A830, H⟩ := H
           replace H : (if x10_3 = 0 then (none) else (if (Int.tmod t299 x10_3) = 0 then ((product_Stride.f t268 t269 t270 t273 t276 t279 t282 t285).bind fun t300 => (if t300 ≥ t268 then ((Awake16.f).bind fun t301 => (some t301)) else (some false))) else (some false))) = some r := H
           have A83 := Aside0.mk A830
           clear A830
           by_cases c84 : x10_3 = 0
           ·
            rw [if_pos c84] at H
            exact absurd H (by simp)
           rw [if_neg c84] at H
           have c84b0 : (x10_3 == 0) = false := beq_eq_false_iff_ne.mpr c84
           have c84b1 : (x10_3 != 0) = true := bne_iff_ne.mpr c84
           by_cases c85 : (Int.tmod t299 x10_3) = 0
           rotate_left
           ·
            rw [if_neg c85] at H
            have c85b0 : ((Int.tmod t299 x10_3) == 0) = false := beq_eq_false_iff_ne.mpr c85
            have c85b1 : ((Int.tmod t299 x10_3) != 0) = true := bne_iff_ne.mpr c85
            exact absurd ((Option.some.inj H).trans hr_) (by decide)
           rw [if_pos c85] at H
           have c85b0 : ((Int.tmod t299 x10_3) == 0) = true := beq_iff_eq.mpr c85
           have c85b1 : ((Int.tmod t299 x10_3) != 0) = false := bne_eq_false_iff_eq.mpr c85
           clear c85
           replace H := Option.bind_eq_some_iff.mp H
           obtain ⟨t300, A860, H⟩ := H
           replace H : (if t300 ≥ t268 then ((Awake16.f).bind fun t301 => (some t301)) else (some false)) = some r := H
           have A86 := Aside0.mk A860
           clear A860
           by_cases c87 : t300 ≥ t268
           rotate_left
           ·
            rw [if_neg c87] at H
            have c87b0 : decide (t268 ≤ t300) = false := decide_eq_false c87
            clear c87
            exact absurd ((Option.some.inj H).trans hr_) (by decide)
           rw [if_pos c87] at H
           have c87b0 : decide (t268 ≤ t300) = true := decide_eq_true c87
           clear c87
           replace H := Option.bind_eq_some_iff.mp H
           obtain ⟨t301, A880, H⟩ := H
           replace H : (some t301) = some r := H
           have A88 := Aside0.mk A880
           clear A880
           obtain rfl := Option.some.inj H
           try go_wp2
           have n0_ := Aside0.mk (Kd.N_drew HO_61.out)
           have n1_ := Aside0.mk (Kd.R_drew HO_288002.out)
           have n2_ := Aside0.mk (Kd.R_drew HO_288003.out)
           have n3_ := Aside0.mk (Kd.N_drew HO_288004.out)
           have n4_ := Aside0.mk (Kd.N_drew HO_288005.out)
           have n5_ := Aside0.mk (Kd.R_drew HO_288006.out)
           have n6_ := Aside0.mk (blk_drew BK287.out)
           have n7_ := Aside0.mk (below_drew1 HB.out)
           clear HO_61
           clear HO_288002
           clear HO_288003
           clear HO_288004
           clear HO_288005
           clear HO_288006
           clear BK287
           clear HB
           have HO_61 := n0_
           have HO_288002 := n1_
           have HO_288003 := n2_
           have HO_288004 := n3_
           have HO_288005 := n4_
           have HO_288006 := n5_
           have BK287 := n6_
           have HB := n7_
           clear n0_ n1_ n2_ n3_ n4_ n5_ n6_ n7_
           refine start_ (n := 35) (S := fun w' => w'.cell? ⟨gb287, 0, none⟩ = some (.int .i64 t268) ∧ w'.cell? ⟨gb287, 1, none⟩ = some (.int .i64 t269) ∧ w'.cell? ⟨gb287, 2, none⟩ = some (.slice Ao43 t270.length co43) ∧ w'.cell? ⟨gb287, 3, none⟩ = some (.slice Ao44 t273.length co44) ∧ w'.cell? ⟨gb287, 4, none⟩ = some (.slice Ao45 t276.length co45) ∧ w'.cell? ⟨gb287, 5, none⟩ = some (.slice Ao46 t279.length co46) ∧ w'.cell? ⟨gb287, 6, none⟩ = some (.slice Ao47 t282.length co47) ∧ w'.cell? ⟨gb287, 7, none⟩ = some (.bool t285)) (ds := []) #[false,false,false,false,false,false,false,false,false,false,false,false,false,false,false,false,false,false,false,false,false,false,false,false,false,false,false,false,false,false,false,false,false,false,false] (by kernel_rfl) rfl rfl ⟨(blk_cell BK287.out 0).trans rfl, (blk_cell BK287.out 1).trans rfl, (blk_cell BK287.out 2).trans rfl, (blk_cell BK287.out 3).trans rfl, (blk_cell BK287.out 4).trans rfl, (blk_cell BK287.out 5).trans rfl, (blk_cell BK287.out 6).trans rfl, (blk_cell BK287.out 7).trans rfl⟩ (fun hHeld => ?_); refine with_tabW law16_ProductSpares.tab26 law16_ProductSpares.bits26 (fun HT_ HW_ => ?_)
           generalize wr.drew = w89 at HO_61 HO_288002 HO_288003 HO_288004 HO_288005 HO_288006 BK287 HB hHeld ⊢
           refine pure_ (i := 0) (N := some 122) (v := ?_) (a' := ?_) #[true,false,false,false,false,false,false,false,false,false,false,false,false,false,false,false,false,false,false,false,false,false,false,false,false,false,false,false,false,false,false,false,false,false,false] rfl rfl (any_of HT_.out (by kernel_rfl)) (fun _ _ _ h => h) (Or.inl ⟨by rfl, ?_⟩) ?_ ?_
           rotate_left
           ·
            intro w'
            go_simp
            with_reducible rfl
           rotate_left
           ·
            simp only [Act.put, setIfInBounds_toArray, set_cons_zero, set_cons_succ, i64_w, i32_w]
            rfl
           refine pure_ (i := 2) (N := some 124) (v := ?_) (a' := ?_) #[true,false,true,false,false,false,false,false,false,false,false,false,false,false,false,false,false,false,false,false,false,false,false,false,false,false,false,false,false,false,false,false,false,false,false] rfl rfl (any_of HT_.out (by kernel_rfl)) (fun _ _ _ h => h) (Or.inl ⟨by rfl, ?_⟩) ?_ ?_
           rotate_left
           ·
            intro w'
            go_simp
            with_reducible rfl
           rotate_left
           ·
            simp only [Act.put, setIfInBounds_toArray, set_cons_zero, set_cons_succ, i64_w, i32_w]
            rfl
           refine take_ (i := 1) (N := some 123) (v := ?_) (a' := ?_) #[true,true,true,false,false,false,false,false,false,false,false,false,false,false,false,false,false,false,false,false,false,false,false,false,false,false,false,false,false,false,false,false,false,false,false] rfl rfl (take_ofW HT_.out HW_.out (by kernel_rfl)) (fun _ _ _ h => h) (Or.inl ⟨by rfl, ?_⟩) hHeld ?_ ?_
           rotate_left
           ·
            rintro w' ⟨s0, s1, s2, s3, s4, s5, s6, s7⟩
            go_simp
            with_reducible rfl
           rotate_left
           ·
            simp only [Act.put, setIfInBounds_toArray, set_cons_zero, set_cons_succ, i64_w, i32_w]
            rfl
           refine pure_ (i := 3) (N := some 125) (v := ?_) (a' := ?_) #[true,true,true,true,false,false,false,false,false,false,false,false,false,false,false,false,false,false,false,false,false,false,false,false,false,false,false,false,false,false,false,false,false,false,false] rfl rfl (any_of HT_.out (by kernel_rfl)) (fun _ _ _ h => h) (Or.inl ⟨by rfl, ?_⟩) ?_ ?_
           rotate_left
           ·
            intro w'
            go_simp
            with_reducible rfl
           rotate_left
           ·
            simp only [Act.put, setIfInBounds_toArray, set_cons_zero, set_cons_succ, i64_w, i32_w]
            rfl
           refine pure_ (i := 4) (N := some 126) (v := ?_) (a' := ?_) #[true,true,true,true,true,false,false,false,false,false,false,false,false,false,false,false,false,false,false,false,false,false,false,false,false,false,false,false,false,false,false,false,false,false,false] rfl rfl (any_of HT_.out (by kernel_rfl)) (fun _ _ _ h => h) (Or.inl ⟨by rfl, ?_⟩) ?_ ?_
           rotate_left
           ·
            intro w'
            go_simp
            with_reducible rfl
           rotate_left
           ·
            simp only [Act.put, setIfInBounds_toArray, set_cons_zero, set_cons_succ, i64_w, i32_w]
            rfl
           refine pure_ (i := 5) (N := some 127) (v := ?_) (a' := ?_) #[true,true,true,true,true,true,false,false,false,false,false,false,false,false,false,false,false,false,false,false,false,false,false,false,false,false,false,false,false,false,false,false,false,false,false] rfl rfl (any_of HT_.out (by kernel_rfl)) (fun _ _ _ h => h) (Or.inl ⟨by rfl, ?_⟩) ?_ ?_
           rotate_left
           ·
            intro w'
            go_simp
            with_reducible rfl
           rotate_left
           ·
            simp only [Act.put, setIfInBounds_toArray, set_cons_zero, set_cons_succ, i64_w, i32_w]
            rfl
           refine pure_ (i := 7) (N := some 129) (v := ?_) (a' := ?_) #[true,true,true,true,true,true,false,true,false,false,false,false,false,false,false,false,false,false,false,false,false,false,false,false,false,false,false,false,false,false,false,false,false,false,false] rfl rfl (any_of HT_.out (by kernel_rfl)) (fun _ _ _ h => h) (Or.inl ⟨by rfl, ?_⟩) ?_ ?_
           rotate_left
           ·
            intro w'
            go_simp
            with_reducible rfl
           rotate_left
           ·
            simp only [Act.put, setIfInBounds_toArray, set_cons_zero, set_cons_succ, i64_w, i32_w]
            rfl
           refine take_ (i := 6) (N := some 128) (v := ?_) (a' := ?_) #[true,true,true,true,true,true,true,true,false,false,false,false,false,false,false,false,false,false,false,false,false,false,false,false,false,false,false,false,false,false,false,false,false,false,false] rfl rfl (take_ofW HT_.out HW_.out (by kernel_rfl)) (fun _ _ _ h => h) (Or.inl ⟨by rfl, ?_⟩) hHeld ?_ ?_
           rotate_left
           ·
            rintro w' ⟨s0, s1, s2, s3, s4, s5, s6, s7⟩
            go_simp
            with_reducible rfl
           rotate_left
           ·
            simp only [Act.put, setIfInBounds_toArray, set_cons_zero, set_cons_succ, i64_w, i32_w]
            rfl
           refine pure_ (i := 8) (N := some 130) (v := ?_) (a' := ?_) #[true,true,true,true,true,true,true,true,true,false,false,false,false,false,false,false,false,false,false,false,false,false,false,false,false,false,false,false,false,false,false,false,false,false,false] rfl rfl (any_of HT_.out (by kernel_rfl)) (fun _ _ _ h => h) (Or.inl ⟨by rfl, ?_⟩) ?_ ?_
           rotate_left
           ·
            intro w'
            go_simp
            with_reducible rfl
           rotate_left
           ·
            simp only [Act.put, setIfInBounds_toArray, set_cons_zero, set_cons_succ, i64_w, i32_w]
            rfl
           refine pure_ (i := 9) (N := some 131) (v := ?_) (a' := ?_) #[true,true,true,true,true,true,true,true,true,true,false,false,false,false,false,false,false,false,false,false,false,false,false,false,false,false,false,false,false,false,false,false,false,false,false] rfl rfl (any_of HT_.out (by kernel_rfl)) (fun _ _ _ h => h) (Or.inl ⟨by rfl, ?_⟩) ?_ ?_
           rotate_left
           ·
            intro w'
            go_simp
            with_reducible rfl
           rotate_left
           ·
            simp only [Act.put, setIfInBounds_toArray, set_cons_zero, set_cons_succ, i64_w, i32_w]
            rfl
           refine pure_ (i := 10) (N := some 132) (v := ?_) (a' := ?_) #[true,true,true,true,true,true,true,true,true,true,true,false,false,false,false,false,false,false,false,false,false,false,false,false,false,false,false,false,false,false,false,false,false,false,false] rfl rfl (any_of HT_.out (by kernel_rfl)) (fun _ _ _ h => h) (Or.inl ⟨by rfl, ?_⟩) ?_ ?_
           rotate_left
           ·
            intro w'
            go_simp
            with_reducible rfl
           rotate_left
           ·
            simp only [Act.put, setIfInBounds_toArray, set_cons_zero, set_cons_succ, i64_w, i32_w]
            rfl
           refine pure_ (i := 11) (N := some 133) (v := ?_) (a' := ?_) #[true,true,true,true,true,true,true,true,true,true,true,true,false,false,false,false,false,false,false,false,false,false,false,false,false,false,false,false,false,false,false,false,false,false,false] rfl rfl (any_of HT_.out (by kernel_rfl)) (fun _ _ _ h => h) (Or.inl ⟨by rfl, ?_⟩) ?_ ?_
           rotate_left
           ·
            intro w'
            go_simp
            with_reducible rfl
           rotate_left
           ·
            simp only [Act.put, setIfInBounds_toArray, set_cons_zero, set_cons_succ, i64_w, i32_w]
            rfl
           refine pure_ (i := 14) (N := some 136) (v := ?_) (a' := ?_) #[true,true,true,true,true,true,true,true,true,true,true,true,false,false,true,false,false,false,false,false,false,false,false,false,false,false,false,false,false,false,false,false,false,false,false] rfl rfl (any_of HT_.out (by kernel_rfl)) (fun _ _ _ h => h) (Or.inl ⟨by rfl, ?_⟩) ?_ ?_
           rotate_left
           ·
            intro w'
            go_simp
            with_reducible rfl
           rotate_left
           ·
            simp only [Act.put, setIfInBounds_toArray, set_cons_zero, set_cons_succ, i64_w, i32_w]
            rfl
           refine take_ (i := 12) (N := some 134) (v := ?_) (a' := ?_) #[true,true,true,true,true,true,true,true,true,true,true,true,true,false,true,false,false,false,false,false,false,false,false,false,false,false,false,false,false,false,false,false,false,false,false] rfl rfl (take_ofW HT_.out HW_.out (by kernel_rfl)) (fun _ _ _ h => h) (Or.inl ⟨by rfl, ?_⟩) hHeld ?_ ?_
           rotate_left
           ·
            rintro w' ⟨s0, s1, s2, s3, s4, s5, s6, s7⟩
            go_simp
            with_reducible rfl
           rotate_left
           ·
            simp only [Act.put, setIfInBounds_toArray, set_cons_zero, set_cons_succ, i64_w, i32_w]
            rfl
           refine one_ (i := 13) (N := some 135) #[true,true,true,true,true,true,true,true,true,true,true,true,true,true,true,false,false,false,false,false,false,false,false,false,false,false,false,false,false,false,false,false,false,false,false] rfl rfl (one_of HT_.out (by kernel_rfl)) (by decide) (fun K hK => ?_)
           refine goes_ Try.func32 (by kernel_rfl) rfl #[.slice Ao43 t270.length co43] (by rfl) rfl rfl (by (try simp only [List.map_toArray, List.map_cons, List.map_nil]); first | done | rfl | (simp only [List.length_drop, List.length_take]; rfl)) ?_
           with_reducible refine (ref15_Count.calls k3 _ _ t270 t298 _ ?side1 ?side2 A81.out).mono ?_
           (case side1 => repeat (first | exact (Kd.R_reads' HO_288002.out).2.2 | (with_reducible refine Kd.C_alloc ?_ _) | (with_reducible refine Kd.C_drewN ?_ _) | (with_reducible refine Kd.C_drew ?_)))
           (case side2 => exact (Kd.R_reads' HO_288002.out).2.1)
           rintro e w' ⟨rfl, ⟨nd, rfl⟩⟩
           refine ⟨_, rfl, ?_⟩
           refine hK.out _ _ ⟨(blk_cell BK287.out 0).trans rfl, (blk_cell BK287.out 1).trans rfl, (blk_cell BK287.out 2).trans rfl, (blk_cell BK287.out 3).trans rfl, (blk_cell BK287.out 4).trans rfl, (blk_cell BK287.out 5).trans rfl, (blk_cell BK287.out 6).trans rfl, (blk_cell BK287.out 7).trans rfl⟩ (fun hHeld => ?_)
           clear hK K
           refine norm_ (a' := ?_) ?_ ?_
           rotate_left
           ·
            show Act.put _ (some 135) _ = _
            simp only [Act.put, setIfInBounds_toArray, set_cons_zero, set_cons_succ, i64_w, i32_w]
            rfl
           refine pure_ (i := 15) (N := some 137) (v := ?_) (a' := ?_) #[true,true,true,true,true,true,true,true,true,true,true,true,true,true,true,true,false,false,false,false,false,false,false,false,false,false,false,false,false,false,false,false,false,false,false] rfl rfl (any_of HT_.out (by kernel_rfl)) (fun _ _ _ h => h) (Or.inl ⟨by rfl, ?_⟩) ?_ ?_
           rotate_left
           ·
            intro w'
            go_simp
            with_reducible rfl
           rotate_left
           ·
            simp only [Act.put, setIfInBounds_toArray, set_cons_zero, set_cons_succ, i64_w, i32_w]
            rfl
           refine pure_ (i := 16) (N := some 138) (v := ?_) (a' := ?_) #[true,true,true,true,true,true,true,true,true,true,true,true,true,true,true,true,true,false,false,false,false,false,false,false,false,false,false,false,false,false,false,false,false,false,false] rfl rfl (any_of HT_.out (by kernel_rfl)) (fun _ _ _ h => h) (Or.inl ⟨by rfl, ?_⟩) ?_ ?_
           rotate_left
           ·
            intro w'
            go_simp
            with_reducible rfl
           rotate_left
           ·
            simp only [Act.put, setIfInBounds_toArray, set_cons_zero, set_cons_succ, i64_w, i32_w]
            rfl
           refine pure_ (i := 17) (N := some 139) (v := ?_) (a' := ?_) #[true,true,true,true,true,true,true,true,true,true,true,true,true,true,true,true,true,true,false,false,false,false,false,false,false,false,false,false,false,false,false,false,false,false,false] rfl rfl (any_of HT_.out (by kernel_rfl)) (fun _ _ _ h => h) (Or.inl ⟨by rfl, ?_⟩) ?_ ?_
           rotate_left
           ·
            intro w'
            go_simp
            with_reducible rfl
           rotate_left
           ·
            simp only [Act.put, setIfInBounds_toArray, set_cons_zero, set_cons_succ, i64_w, i32_w]
            rfl
           refine pure_ (i := 20) (N := some 142) (v := ?_) (a' := ?_) #[true,true,true,true,true,true,true,true,true,true,true,true,true,true,true,true,true,true,false,false,true,false,false,false,false,false,false,false,false,false,false,false,false,false,false] rfl rfl (any_of HT_.out (by kernel_rfl)) (fun _ _ _ h => h) (Or.inl ⟨by rfl, ?_⟩) ?_ ?_
           rotate_left
           ·
            intro w'
            go_simp
            with_reducible rfl
           rotate_left
           ·
            simp only [Act.put, setIfInBounds_toArray, set_cons_zero, set_cons_succ, i64_w, i32_w]
            rfl
           refine take_ (i := 18) (N := some 140) (v := ?_) (a' := ?_) #[true,true,true,true,true,true,true,true,true,true,true,true,true,true,true,true,true,true,true,false,true,false,false,false,false,false,false,false,false,false,false,false,false,false,false] rfl rfl (take_ofW HT_.out HW_.out (by kernel_rfl)) (fun _ _ _ h => h) (Or.inl ⟨by rfl, ?_⟩) hHeld ?_ ?_
           rotate_left
           ·
            rintro w' ⟨s0, s1, s2, s3, s4, s5, s6, s7⟩
            go_simp
            with_reducible rfl
           rotate_left
           ·
            simp only [Act.put, setIfInBounds_toArray, set_cons_zero, set_cons_succ, i64_w, i32_w]
            rfl
           refine one_ (i := 19) (N := some 141) #[true,true,true,true,true,true,true,true,true,true,true,true,true,true,true,true,true,true,true,true,true,false,false,false,false,false,false,false,false,false,false,false,false,false,false] rfl rfl (one_of HT_.out (by kernel_rfl)) (by decide) (fun K hK => ?_)
           refine goes_ Try.func28 (by kernel_rfl) rfl #[.agg #[.int .i64 t268, .int .i64 t269, .slice Ao43 t270.length co43, .slice Ao44 t273.length co44, .slice Ao45 t276.length co45, .slice Ao46 t279.length co46, .slice Ao47 t282.length co47, .bool t285]] (by rfl) rfl rfl (by (try simp only [List.map_toArray, List.map_cons, List.map_nil]); first | done | rfl | (simp only [List.length_drop, List.length_take]; rfl)) ?_
           with_reducible refine (product_Stride.calls t268 t269 _ _ t270 _ _ t273 _ _ t276 _ _ t279 _ _ t282 t285 t299 _ ?side1 ?side2 ?side3 ?side4 ?side5 ?side6 ?side7 ?side8 ?side9 ?side10 A83.out).mono ?_
           (case side1 => repeat (first | exact (Kd.R_reads' HO_288002.out).2.2 | (with_reducible refine Kd.C_alloc ?_ _) | (with_reducible refine Kd.C_drewN ?_ _) | (with_reducible refine Kd.C_drew ?_)))
           (case side2 => exact (Kd.R_reads' HO_288002.out).2.1)
           (case side3 => repeat (first | exact (Kd.R_reads' HO_288003.out).2.2 | (with_reducible refine Kd.C_alloc ?_ _) | (with_reducible refine Kd.C_drewN ?_ _) | (with_reducible refine Kd.C_drew ?_)))
           (case side4 => exact (Kd.R_reads' HO_288003.out).2.1)
           (case side5 => repeat (first | exact (Kd.N_reads' HO_288004.out).2.2 | (with_reducible refine Kd.C_alloc ?_ _) | (with_reducible refine Kd.C_drewN ?_ _) | (with_reducible refine Kd.C_drew ?_)))
           (case side6 => exact (Kd.N_reads' HO_288004.out).2.1)
           (case side7 => repeat (first | exact (Kd.N_reads' HO_288005.out).2.2 | (with_reducible refine Kd.C_alloc ?_ _) | (with_reducible refine Kd.C_drewN ?_ _) | (with_reducible refine Kd.C_drew ?_)))
           (case side8 => exact (Kd.N_reads' HO_288005.out).2.1)
           (case side9 => repeat (first | exact (Kd.R_reads' HO_288006.out).2.2 | (with_reducible refine Kd.C_alloc ?_ _) | (with_reducible refine Kd.C_drewN ?_ _) | (with_reducible refine Kd.C_drew ?_)))
           (case side10 => exact (Kd.R_reads' HO_288006.out).2.1)
           rintro e w90 ⟨rfl, hb⟩
           refine ⟨_, rfl, ?_⟩
           have n0_ := Aside0.mk (Kd.N_below (kN_ HO_61.out) hb)
           have n1_ := Aside0.mk (Kd.R_below (kR_ HO_288002.out) hb)
           have n2_ := Aside0.mk (Kd.R_below (kR_ HO_288003.out) hb)
           have n3_ := Aside0.mk (Kd.N_below (kN_ HO_288004.out) hb)
           have n4_ := Aside0.mk (Kd.N_below (kN_ HO_288005.out) hb)
           have n5_ := Aside0.mk (Kd.R_below (kR_ HO_288006.out) hb)
           have n6_ := Aside0.mk (blk_below (g := gb287) (o := .cells #[.int .i64 t268, .int .i64 t269, .slice Ao43 t270.length co43, .slice Ao44 t273.length co44, .slice Ao45 t276.length co45, .slice Ao46 t279.length co46, .slice Ao47 t282.length co47, .bool t285] 31 (0, 0)) (bk_ BK287.out) hb)
           have n7_ := Aside0.mk (below_step (hb1_ HB.out GE287.out) hb)
           clear HO_61
           clear HO_288002
           clear HO_288003
           clear HO_288004
           clear HO_288005
           clear HO_288006
           clear BK287
           clear HB
           have HO_61 := n0_
           have HO_288002 := n1_
           have HO_288003 := n2_
           have HO_288004 := n3_
           have HO_288005 := n4_
           have HO_288006 := n5_
           have BK287 := n6_
           have HB := n7_
           clear n0_ n1_ n2_ n3_ n4_ n5_ n6_ n7_
           (try clear hb)
           (try clear hb2)
           (try clear hk)
           (try clear hi)
           refine hK.out _ _ ⟨(blk_cell BK287.out 0).trans rfl, (blk_cell BK287.out 1).trans rfl, (blk_cell BK287.out 2).trans rfl, (blk_cell BK287.out 3).trans rfl, (blk_cell BK287.out 4).trans rfl, (blk_cell BK287.out 5).trans rfl, (blk_cell BK287.out 6).trans rfl, (blk_cell BK287.out 7).trans rfl⟩ (fun hHeld => ?_)
           clear hK K
           refine norm_ (a' := ?_) ?_ ?_
           rotate_left
           ·
            show Act.put _ (some 141) _ = _
            simp only [Act.put, setIfInBounds_toArray, set_cons_zero, set_cons_succ, i64_w, i32_w]
            rfl
           refine pure_ (i := 21) (N := some 143) (v := ?_) (a' := ?_) #[true,true,true,true,true,true,true,true,true,true,true,true,true,true,true,true,true,true,true,true,true,true,false,false,false,false,false,false,false,false,false,false,false,false,false] rfl rfl (any_of HT_.out (by kernel_rfl)) (fun _ _ _ h => h) (Or.inl ⟨by rfl, ?_⟩) ?_ ?_
           rotate_left
           ·
            intro w'
            go_simp
            with_reducible rfl
           rotate_left
           ·
            simp only [Act.put, setIfInBounds_toArray, set_cons_zero, set_cons_succ, i64_w, i32_w]
            rfl
           refine pure_ (i := 22) (N := some 144) (v := ?_) (a' := ?_) #[true,true,true,true,true,true,true,true,true,true,true,true,true,true,true,true,true,true,true,true,true,true,true,false,false,false,false,false,false,false,false,false,false,false,false] rfl rfl (any_of HT_.out (by kernel_rfl)) (fun _ _ _ h => h) (Or.inl ⟨by rfl, ?_⟩) ?_ ?_
           rotate_left
           ·
            intro w'
            go_simp
            with_reducible rfl
           rotate_left
           ·
            simp only [Act.put, setIfInBounds_toArray, set_cons_zero, set_cons_succ, i64_w, i32_w]
            rfl
           refine pure_ (i := 23) (N := some 145) (v := ?_) (a' := ?_) #[true,true,true,true,true,true,true,true,true,true,true,true,true,true,true,true,true,true,true,true,true,true,true,true,false,false,false,false,false,false,false,false,false,false,false] rfl rfl (any_of HT_.out (by kernel_rfl)) (fun _ _ _ h => h) (Or.inl ⟨by rfl, ?_⟩) ?_ ?_
           rotate_left
           ·
            intro w'
            go_simp
            with_reducible rfl
           rotate_left
           ·
            simp only [Act.put, setIfInBounds_toArray, set_cons_zero, set_cons_succ, i64_w, i32_w]
            rfl
           refine pure_ (i := 24) (N := some 146) (v := ?_) (a' := ?_) #[true,true,true,true,true,true,true,true,true,true,true,true,true,true,true,true,true,true,true,true,true,true,true,true,true,false,false,false,false,false,false,false,false,false,false] rfl rfl (any_of HT_.out (by kernel_rfl)) (fun _ _ _ h => h) (Or.inl ⟨by rfl, ?_⟩) ?_ ?_
           rotate_left
           ·
            intro w'
            go_simp
            with_reducible rfl
           rotate_left
           ·
            simp only [Act.put, setIfInBounds_toArray, set_cons_zero, set_cons_succ, i64_w, i32_w]
            rfl
           refine pure_ (i := 27) (N := some 149) (v := ?_) (a' := ?_) #[true,true,true,true,true,true,true,true,true,true,true,true,true,true,true,true,true,true,true,true,true,true,true,true,true,false,false,true,false,false,false,false,false,false,false] rfl rfl (any_of HT_.out (by kernel_rfl)) (fun _ _ _ h => h) (Or.inl ⟨by rfl, ?_⟩) ?_ ?_
           rotate_left
           ·
            intro w'
            go_simp
            with_reducible rfl
           rotate_left
           ·
            simp only [Act.put, setIfInBounds_toArray, set_cons_zero, set_cons_succ, i64_w, i32_w]
            rfl
           refine take_ (i := 25) (N := some 147) (v := ?_) (a' := ?_) #[true,true,true,true,true,true,true,true,true,true,true,true,true,true,true,true,true,true,true,true,true,true,true,true,true,true,false,true,false,false,false,false,false,false,false] rfl rfl (take_ofW HT_.out HW_.out (by kernel_rfl)) (fun _ _ _ h => h) (Or.inl ⟨by rfl, ?_⟩) hHeld ?_ ?_
           rotate_left
           ·
            rintro w' ⟨s0, s1, s2, s3, s4, s5, s6, s7⟩
            go_simp
            with_reducible rfl
           rotate_left
           ·
            simp only [Act.put, setIfInBounds_toArray, set_cons_zero, set_cons_succ, i64_w, i32_w]
            rfl
           refine take_ (i := 28) (N := some 150) (v := ?_) (a' := ?_) #[true,true,true,true,true,true,true,true,true,true,true,true,true,true,true,true,true,true,true,true,true,true,true,true,true,true,false,true,true,false,false,false,false,false,false] rfl rfl (take_ofW HT_.out HW_.out (by kernel_rfl)) (fun _ _ _ h => h) (Or.inl ⟨by rfl, ?_⟩) hHeld ?_ ?_
           rotate_left
           ·
            rintro w' ⟨s0, s1, s2, s3, s4, s5, s6, s7⟩
            go_simp
            with_reducible rfl
           rotate_left
           ·
            simp only [Act.put, setIfInBounds_toArray, set_cons_zero, set_cons_succ, i64_w, i32_w]
            rfl
           refine one_ (i := 26) (N := some 148) #[true,true,true,true,true,true,true,true,true,true,true,true,true,true,true,true,true,true,true,true,true,true,true,true,true,true,true,true,true,false,false,false,false,false,false] rfl rfl (one_of HT_.out (by kernel_rfl)) (by decide) (fun K hK => ?_)
           refine goes_ Try.func28 (by kernel_rfl) rfl #[.agg #[.int .i64 t268, .int .i64 t269, .slice Ao43 t270.length co43, .slice Ao44 t273.length co44, .slice Ao45 t276.length co45, .slice Ao46 t279.length co46, .slice Ao47 t282.length co47, .bool t285]] (by rfl) rfl rfl (by (try simp only [List.map_toArray, List.map_cons, List.map_nil]); first | done | rfl | (simp only [List.length_drop, List.length_take]; rfl)) ?_
           with_reducible refine (product_Stride.calls t268 t269 _ _ t270 _ _ t273 _ _ t276 _ _ t279 _ _ t282 t285 t300 _ ?side1 ?side2 ?side3 ?side4 ?side5 ?side6 ?side7 ?side8 ?side9 ?side10 A86.out).mono ?_
           (case side1 => repeat (first | exact (Kd.R_reads' HO_288002.out).2.2 | (with_reducible refine Kd.C_alloc ?_ _) | (with_reducible refine Kd.C_drewN ?_ _) | (with_reducible refine Kd.C_drew ?_)))
           (case side2 => exact (Kd.R_reads' HO_288002.out).2.1)
           (case side3 => repeat (first | exact (Kd.R_reads' HO_288003.out).2.2 | (with_reducible refine Kd.C_alloc ?_ _) | (with_reducible refine Kd.C_drewN ?_ _) | (with_reducible refine Kd.C_drew ?_)))
           (case side4 => exact (Kd.R_reads' HO_288003.out).2.1)
           (case side5 => repeat (first | exact (Kd.N_reads' HO_288004.out).2.2 | (with_reducible refine Kd.C_alloc ?_ _) | (with_reducible refine Kd.C_drewN ?_ _) | (with_reducible refine Kd.C_drew ?_)))
           (case side6 => exact (Kd.N_reads' HO_288004.out).2.1)
           (case side7 => repeat (first | exact (Kd.N_reads' HO_288005.out).2.2 | (with_reducible refine Kd.C_alloc ?_ _) | (with_reducible refine Kd.C_drewN ?_ _) | (with_reducible refine Kd.C_drew ?_)))
           (case side8 => exact (Kd.N_reads' HO_288005.out).2.1)
           (case side9 => repeat (first | exact (Kd.R_reads' HO_288006.out).2.2 | (with_reducible refine Kd.C_alloc ?_ _) | (with_reducible refine Kd.C_drewN ?_ _) | (with_reducible refine Kd.C_drew ?_)))
           (case side10 => exact (Kd.R_reads' HO_288006.out).2.1)
           rintro e w91 ⟨rfl, hb⟩
           refine ⟨_, rfl, ?_⟩
           have n0_ := Aside0.mk (Kd.N_below (kN_ HO_61.out) hb)
           have n1_ := Aside0.mk (Kd.R_below (kR_ HO_288002.out) hb)
           have n2_ := Aside0.mk (Kd.R_below (kR_ HO_288003.out) hb)
           have n3_ := Aside0.mk (Kd.N_below (kN_ HO_288004.out) hb)
           have n4_ := Aside0.mk (Kd.N_below (kN_ HO_288005.out) hb)
           have n5_ := Aside0.mk (Kd.R_below (kR_ HO_288006.out) hb)
           have n6_ := Aside0.mk (blk_below (g := gb287) (o := .cells #[.int .i64 t268, .int .i64 t269, .slice Ao43 t270.length co43, .slice Ao44 t273.length co44, .slice Ao45 t276.length co45, .slice Ao46 t279.length co46, .slice Ao47 t282.length co47, .bool t285] 31 (0, 0)) (bk_ BK287.out) hb)
           have n7_ := Aside0.mk (below_step (hb1_ HB.out GE287.out) hb)
           clear HO_61
           clear HO_288002
           clear HO_288003
           clear HO_288004
           clear HO_288005
           clear HO_288006
           clear BK287
           clear HB
           have HO_61 := n0_
           have HO_288002 := n1_
           have HO_288003 := n2_
           have HO_288004 := n3_
           have HO_288005 := n4_
           have HO_288006 := n5_
           have BK287 := n6_
           have HB := n7_
           clear n0_ n1_ n2_ n3_ n4_ n5_ n6_ n7_
           (try clear hb)
           (try clear hb2)
           (try clear hk)
           (try clear hi)
           refine hK.out _ _ ⟨(blk_cell BK287.out 0).trans rfl, (blk_cell BK287.out 1).trans rfl, (blk_cell BK287.out 2).trans rfl, (blk_cell BK287.out 3).trans rfl, (blk_cell BK287.out 4).trans rfl, (blk_cell BK287.out 5).trans rfl, (blk_cell BK287.out 6).trans rfl, (blk_cell BK287.out 7).trans rfl⟩ (fun hHeld => ?_)
           clear hK K
           refine norm_ (a' := ?_) ?_ ?_
           rotate_left
           ·
            show Act.put _ (some 148) _ = _
            simp only [Act.put, setIfInBounds_toArray, set_cons_zero, set_cons_succ, i64_w, i32_w]
            rfl
           refine pure_ (i := 29) (N := some 151) (v := ?_) (a' := ?_) #[true,true,true,true,true,true,true,true,true,true,true,true,true,true,true,true,true,true,true,true,true,true,true,true,true,true,true,true,true,true,false,false,false,false,false] rfl rfl (any_of HT_.out (by kernel_rfl)) (fun _ _ _ h => h) (Or.inl ⟨by rfl, ?_⟩) ?_ ?_
           rotate_left
           ·
            intro w'
            go_simp
            with_reducible rfl
           rotate_left
           ·
            simp only [Act.put, setIfInBounds_toArray, set_cons_zero, set_cons_succ, i64_w, i32_w]
            rfl
           refine pure_ (i := 30) (N := some 152) (v := ?_) (a' := ?_) #[true,true,true,true,true,true,true,true,true,true,true,true,true,true,true,true,true,true,true,true,true,true,true,true,true,true,true,true,true,true,true,false,false,false,false] rfl rfl (any_of HT_.out (by kernel_rfl)) (fun _ _ _ h => h) (Or.inl ⟨by rfl, ?_⟩) ?_ ?_
           rotate_left
           ·
            intro w'
            go_simp
            with_reducible rfl
           rotate_left
           ·
            simp only [Act.put, setIfInBounds_toArray, set_cons_zero, set_cons_succ, i64_w, i32_w]
            rfl
           refine pure_ (i := 31) (N := some 153) (v := ?_) (a' := ?_) #[true,true,true,true,true,true,true,true,true,true,true,true,true,true,true,true,true,true,true,true,true,true,true,true,true,true,true,true,true,true,true,true,false,false,false] rfl rfl (any_of HT_.out (by kernel_rfl)) (fun _ _ _ h => h) (Or.inl ⟨by rfl, ?_⟩) ?_ ?_
           rotate_left
           ·
            intro w'
            go_simp
            with_reducible rfl
           rotate_left
           ·
            simp only [Act.put, setIfInBounds_toArray, set_cons_zero, set_cons_succ, i64_w, i32_w]
            rfl
           refine one_ (i := 32) (N := some 154) #[true,true,true,true,true,true,true,true,true,true,true,true,true,true,true,true,true,true,true,true,true,true,true,true,true,true,true,true,true,true,true,true,true,false,false] rfl rfl (one_of HT_.out (by kernel_rfl)) (by decide) (fun K hK => ?_)
           refine goes_ Try.func19 (by kernel_rfl) rfl #[] (by rfl) rfl rfl (by (try simp only [List.map_toArray, List.map_cons, List.map_nil]); first | done | rfl | (simp only [List.length_drop, List.length_take]; rfl)) ?_
           with_reducible refine (Awake16.calls  t301 _ A88.out).mono ?_
           rintro e w92 ⟨rfl, hb⟩
           refine ⟨_, rfl, ?_⟩
           have n0_ := Aside0.mk (Kd.N_below (kN_ HO_61.out) hb)
           have n1_ := Aside0.mk (Kd.R_below (kR_ HO_288002.out) hb)
           have n2_ := Aside0.mk (Kd.R_below (kR_ HO_288003.out) hb)
           have n3_ := Aside0.mk (Kd.N_below (kN_ HO_288004.out) hb)
           have n4_ := Aside0.mk (Kd.N_below (kN_ HO_288005.out) hb)
           have n5_ := Aside0.mk (Kd.R_below (kR_ HO_288006.out) hb)
           have n6_ := Aside0.mk (blk_below (g := gb287) (o := .cells #[.int .i64 t268, .int .i64 t269, .slice Ao43 t270.length co43, .slice Ao44 t273.length co44, .slice Ao45 t276.length co45, .slice Ao46 t279.length co46, .slice Ao47 t282.length co47, .bool t285] 31 (0, 0)) (bk_ BK287.out) hb)
           have n7_ := Aside0.mk (below_step (hb1_ HB.out GE287.out) hb)
           clear HO_61
           clear HO_288002
           clear HO_288003
           clear HO_288004
           clear HO_288005
           clear HO_288006
           clear BK287
           clear HB
           have HO_61 := n0_
           have HO_288002 := n1_
           have HO_288003 := n2_
           have HO_288004 := n3_
           have HO_288005 := n4_
           have HO_288006 := n5_
           have BK287 := n6_
           have HB := n7_
           clear n0_ n1_ n2_ n3_ n4_ n5_ n6_ n7_
           (try clear hb)
           (try clear hb2)
           (try clear hk)
           (try clear hi)
           refine hK.out _ _ ⟨(blk_cell BK287.out 0).trans rfl, (blk_cell BK287.out 1).trans rfl, (blk_cell BK287.out 2).trans rfl, (blk_cell BK287.out 3).trans rfl, (blk_cell BK287.out 4).trans rfl, (blk_cell BK287.out 5).trans rfl, (blk_cell BK287.out 6).trans rfl, (blk_cell BK287.out 7).trans rfl⟩ (fun hHeld => ?_)
           clear hK K
           refine norm_ (a' := ?_) ?_ ?_
           rotate_left
           ·
            show Act.put _ (some 154) _ = _
            simp only [Act.put, setIfInBounds_toArray, set_cons_zero, set_cons_succ, i64_w, i32_w]
            rfl
           refine pure_ (i := 33) (N := some 155) (v := ?_) (a' := ?_) #[true,true,true,true,true,true,true,true,true,true,true,true,true,true,true,true,true,true,true,true,true,true,true,true,true,true,true,true,true,true,true,true,true,true,false] rfl rfl (any_of HT_.out (by kernel_rfl)) (fun _ _ _ h => h) (Or.inl ⟨by rfl, ?_⟩) ?_ ?_
           rotate_left
           ·
            intro w'
            go_simp
            with_reducible rfl
           rotate_left
           ·
            simp only [Act.put, setIfInBounds_toArray, set_cons_zero, set_cons_succ, i64_w, i32_w]
            rfl
           refine pure_ (i := 34) (N := some 2) (v := ?_) (a' := ?_) #[true,true,true,true,true,true,true,true,true,true,true,true,true,true,true,true,true,true,true,true,true,true,true,true,true,true,true,true,true,true,true,true,true,true,true] rfl rfl (any_of HT_.out (by kernel_rfl)) (fun _ _ _ h => h) (Or.inl ⟨by rfl, ?_⟩) ?_ ?_
           rotate_left
           ·
            intro w'
            go_simp
            with_reducible rfl
           rotate_left
           ·
            simp only [Act.put, setIfInBounds_toArray, set_cons_zero, set_cons_succ, i64_w, i32_w]
            rfl
           refine done_ (done_of HT_.out (by kernel_rfl)) ?_
           try go_wp2
           go_ret
           exact ⟨by first | rfl | (simp [errW_none, errW_some] <;> rfl) | (simp [*, errW_none, errW_some] <;> rfl), by repeat (first | (with_reducible first | exact HB.out | apply below_alloc | apply pw_below_drewN | apply below_drew1 | refine below_set ?_ GE287.out) | exact HB.out)⟩
     ·
      rw [if_neg c36] at H
      have c36b0 : (t286 == 0) = false := beq_eq_false_iff_ne.mpr c36
      have c36b1 : (t286 != 0) = true := bne_iff_ne.mpr c36
      by_cases c93 : t286 = 4
      rotate_left
      ·
       rw [if_neg c93] at H
       have c93b0 : (t286 == 4) = false := beq_eq_false_iff_ne.mpr c93
       have c93b1 : (t286 != 4) = true := bne_iff_ne.mpr c93
       exact absurd ((Option.some.inj H).trans hr_) (by decide)
      rw [if_pos c93] at H
      have c93b0 : (t286 == 4) = true := beq_iff_eq.mpr c93
      have c93b1 : (t286 != 4) = false := bne_eq_false_iff_eq.mpr c93
      clear c93
      replace H := Option.bind_eq_some_iff.mp H
      obtain ⟨t288, A940, H⟩ := H
      replace H : (some t288) = some r := H
      have A94 := Aside0.mk A940
      clear A940
      obtain rfl := Option.some.inj H
      obtain ⟨Ao95, co95, eo95⟩ := Kd.N_slice HO_4.out
      subst eo95
      go_wp2_with (first | ((with_reducible refine gate_callee (f := 24) rfl ?_); refine goesL_ (some 37) rfl rfl Try.func24 (by kernel_rfl) rfl #[.slice Ao95 x4_1.length co95] rfl (by (try simp only [List.map_toArray, List.map_cons, List.map_nil]); first | done | rfl | (simp only [List.length_drop, List.length_take]; rfl)) ?_; (with_reducible refine (product_Lay.calls k1 _ _ x4_1 t268 t269 t270 t273 t276 t279 t282 t285 t286 _ ?side1 ?side2 A35.out).mono ?_); (case side1 => repeat (first | exact (Kd.N_reads' HO_4.out).2.2 | (with_reducible refine Kd.C_alloc ?_ _) | (with_reducible refine Kd.C_drewN ?_ _) | (with_reducible refine Kd.C_drew ?_))); (case side2 => exact (Kd.N_reads' HO_4.out).2.1); rintro e w96 ⟨v271, v274, v277, v280, v283, rfl, ho0, ho1, ho2, ho3, ho4, hb⟩; refine ⟨_, rfl, ?_⟩; have n0_ := Aside0.mk (Kd.N_mono (Kd.N_told (Kd.N_told (Kd.N_told (Kd.N_told (Kd.N_told (Kd.N_old (kN_ HO_4.out) hb) (Kd.R_base ho0)) (Kd.R_base ho1)) (by first | exact Kd.N_base ho2 | exact Kd.R_base ho2)) (by first | exact Kd.N_base ho3 | exact Kd.R_base ho3)) (Kd.R_base ho4)) (fun _ h_ => h_.1)); have n1_ := Aside0.mk (Kd.R_lower ho0 (below_size (by repeat (first | (with_reducible first | exact HB.out | apply below_alloc | apply pw_below_drewN | apply below_drew1 | refine below_set ?_ (IsS84.ge HI241.out)) | exact HB.out)))); have n2_ := Aside0.mk (Kd.R_lower ho1 (below_size (by repeat (first | (with_reducible first | exact HB.out | apply below_alloc | apply pw_below_drewN | apply below_drew1 | refine below_set ?_ (IsS84.ge HI241.out)) | exact HB.out)))); have n3_ := Aside0.mk (Kd.N_lower (Kd.N_mono (ok' := fun k_ => some k_ ≠ (v271 : Value).ownBlock ∧ some k_ ≠ (v274 : Value).ownBlock ∧ some k_ ≠ (v280 : Value).ownBlock ∧ some k_ ≠ (v283 : Value).ownBlock ∧ some k_ ≠ (.slice Ao95 x4_1.length co95 : Value).ownBlock ∧ k_ ≠ g241) (Kd.R_N (Kd.R_bound (Kd.R_apart' (Kd.R_apart' (Kd.R_apart' (Kd.R_apart' ho2 (Kd.R_typed ho0) (by decide)) (Kd.R_typed ho1) (by decide)) (Kd.R_typed ho3) (by decide)) (Kd.R_typed ho4) (by decide)))) (fun k_ hk_ => ⟨hk_.1.1.1.1.2, hk_.1.1.1.2, hk_.1.1.2, hk_.1.2, (Kd.fresh' (Kd.N_lt (kN_ HO_4.out)) k_ hk_.2.1), (IsS84.fresh (by repeat (first | (with_reducible first | exact HI241.out | apply IsS84.alloc | apply IsS84.drewN | apply IsS84.drew | apply IsS84.set_1) | exact HI241.out)) k_ hk_.2.1)⟩)) (below_size (by repeat (first | (with_reducible first | exact HB.out | apply below_alloc | apply pw_below_drewN | apply below_drew1 | refine below_set ?_ (IsS84.ge HI241.out)) | exact HB.out)))); have n4_ := Aside0.mk (Kd.N_lower (Kd.N_mono (ok' := fun k_ => some k_ ≠ (v271 : Value).ownBlock ∧ some k_ ≠ (v274 : Value).ownBlock ∧ some k_ ≠ (v277 : Value).ownBlock ∧ some k_ ≠ (v283 : Value).ownBlock ∧ some k_ ≠ (.slice Ao95 x4_1.length co95 : Value).ownBlock ∧ k_ ≠ g241) (Kd.R_N (Kd.R_bound (Kd.R_apart' ho3 (Kd.R_typed ho0) (by decide)))) (fun k_ hk_ => ⟨hk_.1.2, hk_.1.1.1, hk_.1.1.2.1, hk_.1.1.2.2, (Kd.fresh' (Kd.N_lt (kN_ HO_4.out)) k_ hk_.2.1), (IsS84.fresh (by repeat (first | (with_reducible first | exact HI241.out | apply IsS84.alloc | apply IsS84.drewN | apply IsS84.drew | apply IsS84.set_1) | exact HI241.out)) k_ hk_.2.1)⟩)) (below_size (by repeat (first | (with_reducible first | exact HB.out | apply below_alloc | apply pw_below_drewN | apply below_drew1 | refine below_set ?_ (IsS84.ge HI241.out)) | exact HB.out)))); have n5_ := Aside0.mk (Kd.R_lower ho4 (below_size (by repeat (first | (with_reducible first | exact HB.out | apply below_alloc | apply pw_below_drewN | apply below_drew1 | refine below_set ?_ (IsS84.ge HI241.out)) | exact HB.out)))); have n6_ := Aside0.mk (IsS84.below (by repeat (first | (with_reducible first | exact HI241.out | apply IsS84.alloc | apply IsS84.drewN | apply IsS84.drew | apply IsS84.set_1) | exact HI241.out)) hb); have n7_ := Aside0.mk (below_step (by repeat (first | (with_reducible first | exact HB.out | apply below_alloc | apply pw_below_drewN | apply below_drew1 | refine below_set ?_ (IsS84.ge HI241.out)) | exact HB.out)) hb); clear HO_4 HI241 HB; have HO_4 := n0_; have HO272 := n1_; have HO275 := n2_; have HO278 := n3_; have HO281 := n4_; have HO284 := n5_; have HI241 := n6_; have HB := n7_; clear n0_ n1_ n2_ n3_ n4_ n5_ n6_ n7_; (try clear hb); (try clear hb2); (try clear hk); (try clear hi); (try clear ho0); (try clear ho1); (try clear ho2); (try clear ho3); (try clear ho4)) | ((with_reducible refine gate_dst (N := 7) rfl ?_); (try (refine gate_guard (by rfl) ?_; dsimp only)); refine box_event ?hg (N := 7) ?hd (cs := #[.int .i64 0, .int .i64 0, .slice none 0 0, .slice none 0 0, .slice none 0 0, .slice none 0 0, .slice none 0 0, .bool false]) (t := 31) ?hr ?_; (case hd => rfl); (case hg => rfl); (case hr => first | (go_simp; done) | (go_simp; rfl)); intro gb287 hg w97 hbox hb; have n0_ := Aside0.mk (Kd.N_below (Kd.N_elderB (kN_ HO_4.out) gb287 (Nat.le_of_eq hg.symm)) hb); have n1_ := Aside0.mk (Kd.R_below (kR_ HO272.out) hb); have n2_ := Aside0.mk (Kd.R_below (kR_ HO275.out) hb); have n3_ := Aside0.mk (Kd.N_below (Kd.N_elderB (kN_ HO278.out) gb287 (Nat.le_of_eq hg.symm)) hb); have n4_ := Aside0.mk (Kd.N_below (Kd.N_elderB (kN_ HO281.out) gb287 (Nat.le_of_eq hg.symm)) hb); have n5_ := Aside0.mk (Kd.R_below (kR_ HO284.out) hb); have n6_ := Aside0.mk (IsS84.below (by repeat (first | (with_reducible first | exact HI241.out | apply IsS84.alloc | apply IsS84.drewN | apply IsS84.drew | apply IsS84.set_1) | exact HI241.out)) hb); have n7_ := Aside0.mk (below_step (by repeat (first | (with_reducible first | exact HB.out | apply below_alloc | apply pw_below_drewN | apply below_drew1 | refine below_set ?_ (IsS84.ge HI241.out)) | exact HB.out)) hb); have n8_ := Aside0.mk (hbox); have n9_ := Aside0.mk ((by rw [hg]; exact (below_size (by repeat (first | (with_reducible first | exact HB.out | apply below_alloc | apply pw_below_drewN | apply below_drew1 | refine below_set ?_ (IsS84.ge HI241.out)) | exact HB.out))) : w.heap.size ≤ gb287)); have n10_ := Aside0.mk ((by rw [hg]; exact (below_size (by repeat (first | (with_reducible first | exact HB.out | apply below_alloc | apply pw_below_drewN | apply below_drew1 | refine below_set ?_ (IsS84.ge HI241.out)) | exact HB.out))) : w.heap.size ≤ gb287)); have n11_ := Aside0.mk ((by rw [hg]; exact Nat.ne_of_lt (IsS84.lt (show IsS84 w _ g241 t239 x242001_1 from by repeat (first | (with_reducible first | exact HI241.out | apply IsS84.alloc | apply IsS84.drewN | apply IsS84.drew | apply IsS84.set_1) | exact HI241.out))) : g241 ≠ gb287)); have n12_ := Aside0.mk ((by rw [hg]; exact Nat.ne_of_gt (IsS84.lt (show IsS84 w _ g241 t239 x242001_1 from by repeat (first | (with_reducible first | exact HI241.out | apply IsS84.alloc | apply IsS84.drewN | apply IsS84.drew | apply IsS84.set_1) | exact HI241.out))) : gb287 ≠ g241)); clear HO_4 HO272 HO275 HO278 HO281 HO284 HI241 HB; have HO_4 := n0_; have HO272 := n1_; have HO275 := n2_; have HO278 := n3_; have HO281 := n4_; have HO284 := n5_; have HI241 := n6_; have HB := n7_; have BK287 := n8_; have GW287 := n9_; have GE287 := n10_; have NB241_287 := n11_; have NB287_241 := n12_; clear n0_ n1_ n2_ n3_ n4_ n5_ n6_ n7_ n8_ n9_ n10_ n11_ n12_ hb hbox hg; have hnb98 := NB287_241.out; have hnc98 := NB241_287.out; have hcz99_0 : w97.cell? ⟨gb287, 0, none⟩ = some (.int .i64 0) := (blk_cell BK287.out 0).trans rfl; have hcz99_1 : w97.cell? ⟨gb287, 1, none⟩ = some (.int .i64 0) := (blk_cell BK287.out 1).trans rfl; have hcz99_2 : w97.cell? ⟨gb287, 2, none⟩ = some (.slice none 0 0) := (blk_cell BK287.out 2).trans rfl; have hcz99_3 : w97.cell? ⟨gb287, 3, none⟩ = some (.slice none 0 0) := (blk_cell BK287.out 3).trans rfl; have hcz99_4 : w97.cell? ⟨gb287, 4, none⟩ = some (.slice none 0 0) := (blk_cell BK287.out 4).trans rfl; have hcz99_5 : w97.cell? ⟨gb287, 5, none⟩ = some (.slice none 0 0) := (blk_cell BK287.out 5).trans rfl; have hcz99_6 : w97.cell? ⟨gb287, 6, none⟩ = some (.slice none 0 0) := (blk_cell BK287.out 6).trans rfl; have hcz99_7 : w97.cell? ⟨gb287, 7, none⟩ = some (.bool false) := (blk_cell BK287.out 7).trans rfl; have hfz99_0 := blk_frozen BK287.out 0; have hfz99_1 := blk_frozen BK287.out 1; have hfz99_2 := blk_frozen BK287.out 2; have hfz99_3 := blk_frozen BK287.out 3; have hfz99_4 := blk_frozen BK287.out 4; have hfz99_5 := blk_frozen BK287.out 5; have hfz99_6 := blk_frozen BK287.out 6; have hfz99_7 := blk_frozen BK287.out 7; obtain ⟨Ao100, co100, eo100⟩ := Kd.R_slice HO272.out; subst eo100; obtain ⟨Ao101, co101, eo101⟩ := Kd.R_slice HO275.out; subst eo101; obtain ⟨Ao102, co102, eo102⟩ := Kd.N_slice HO278.out; subst eo102; obtain ⟨Ao103, co103, eo103⟩ := Kd.N_slice HO281.out; subst eo103; obtain ⟨Ao104, co104, eo104⟩ := Kd.R_slice HO284.out; subst eo104) | (go_at_call 19; (with_reducible refine (Awake16.calls  t288 _ A94.out).mono ?_); rintro e w105 ⟨rfl, hb⟩; have n0_ := Aside0.mk (Kd.N_below (by (with_reducible repeat (first | apply Kd.N_alloc | apply Kd.N_drewN | apply Kd.N_drew)); exact (Kd.N_mono (Kd.N_far (p := ⟨gb287, 7, none⟩) (Kd.N_far (p := ⟨gb287, 6, none⟩) (Kd.N_far (p := ⟨gb287, 5, none⟩) (Kd.N_far (p := ⟨gb287, 4, none⟩) (Kd.N_far (p := ⟨gb287, 3, none⟩) (Kd.N_far (p := ⟨gb287, 2, none⟩) (Kd.N_far (p := ⟨gb287, 1, none⟩) (Kd.N_far (p := ⟨gb287, 0, none⟩) (Kd.N_mono HO_4.out (fun k_ hk => (⟨hk, hk.2⟩ : _ ∧ k_ ≠ gb287))) (fun _ hk => hk.2) (.int .i64 t268)) (fun _ hk => hk.2) (.int .i64 t269)) (fun _ hk => hk.2) (.slice Ao100 t270.length co100)) (fun _ hk => hk.2) (.slice Ao101 t273.length co101)) (fun _ hk => hk.2) (.slice Ao102 t276.length co102)) (fun _ hk => hk.2) (.slice Ao103 t279.length co103)) (fun _ hk => hk.2) (.slice Ao104 t282.length co104)) (fun _ hk => hk.2) (.bool t285)) (fun _ h_ => h_.1))) hb); have n1_ := Aside0.mk (Kd.R_below (by (with_reducible repeat (first | apply Kd.R_alloc | apply Kd.R_drewN | apply Kd.R_drew)); exact (Kd.R_mono (Kd.R_far (p := ⟨gb287, 7, none⟩) (Kd.R_far (p := ⟨gb287, 6, none⟩) (Kd.R_far (p := ⟨gb287, 5, none⟩) (Kd.R_far (p := ⟨gb287, 4, none⟩) (Kd.R_far (p := ⟨gb287, 3, none⟩) (Kd.R_far (p := ⟨gb287, 2, none⟩) (Kd.R_far (p := ⟨gb287, 1, none⟩) (Kd.R_far (p := ⟨gb287, 0, none⟩) (Kd.R_types HO272.out BK287.out (by decide)) (fun _ hk => hk.2) (.int .i64 t268)) (fun _ hk => hk.2) (.int .i64 t269)) (fun _ hk => hk.2) (.slice Ao100 t270.length co100)) (fun _ hk => hk.2) (.slice Ao101 t273.length co101)) (fun _ hk => hk.2) (.slice Ao102 t276.length co102)) (fun _ hk => hk.2) (.slice Ao103 t279.length co103)) (fun _ hk => hk.2) (.slice Ao104 t282.length co104)) (fun _ hk => hk.2) (.bool t285)) (fun _ h_ => h_.1))) hb); have n2_ := Aside0.mk (Kd.R_below (by (with_reducible repeat (first | apply Kd.R_alloc | apply Kd.R_drewN | apply Kd.R_drew)); exact (Kd.R_mono (Kd.R_far (p := ⟨gb287, 7, none⟩) (Kd.R_far (p := ⟨gb287, 6, none⟩) (Kd.R_far (p := ⟨gb287, 5, none⟩) (Kd.R_far (p := ⟨gb287, 4, none⟩) (Kd.R_far (p := ⟨gb287, 3, none⟩) (Kd.R_far (p := ⟨gb287, 2, none⟩) (Kd.R_far (p := ⟨gb287, 1, none⟩) (Kd.R_far (p := ⟨gb287, 0, none⟩) (Kd.R_types HO275.out BK287.out (by decide)) (fun _ hk => hk.2) (.int .i64 t268)) (fun _ hk => hk.2) (.int .i64 t269)) (fun _ hk => hk.2) (.slice Ao100 t270.length co100)) (fun _ hk => hk.2) (.slice Ao101 t273.length co101)) (fun _ hk => hk.2) (.slice Ao102 t276.length co102)) (fun _ hk => hk.2) (.slice Ao103 t279.length co103)) (fun _ hk => hk.2) (.slice Ao104 t282.length co104)) (fun _ hk => hk.2) (.bool t285)) (fun _ h_ => h_.1))) hb); have n3_ := Aside0.mk (Kd.N_below (by (with_reducible repeat (first | apply Kd.N_alloc | apply Kd.N_drewN | apply Kd.N_drew)); exact (Kd.N_mono (Kd.N_far (p := ⟨gb287, 7, none⟩) (Kd.N_far (p := ⟨gb287, 6, none⟩) (Kd.N_far (p := ⟨gb287, 5, none⟩) (Kd.N_far (p := ⟨gb287, 4, none⟩) (Kd.N_far (p := ⟨gb287, 3, none⟩) (Kd.N_far (p := ⟨gb287, 2, none⟩) (Kd.N_far (p := ⟨gb287, 1, none⟩) (Kd.N_far (p := ⟨gb287, 0, none⟩) (Kd.N_mono HO278.out (fun k_ hk => (⟨hk, hk.2⟩ : _ ∧ k_ ≠ gb287))) (fun _ hk => hk.2) (.int .i64 t268)) (fun _ hk => hk.2) (.int .i64 t269)) (fun _ hk => hk.2) (.slice Ao100 t270.length co100)) (fun _ hk => hk.2) (.slice Ao101 t273.length co101)) (fun _ hk => hk.2) (.slice Ao102 t276.length co102)) (fun _ hk => hk.2) (.slice Ao103 t279.length co103)) (fun _ hk => hk.2) (.slice Ao104 t282.length co104)) (fun _ hk => hk.2) (.bool t285)) (fun _ h_ => h_.1))) hb); have n4_ := Aside0.mk (Kd.N_below (by (with_reducible repeat (first | apply Kd.N_alloc | apply Kd.N_drewN | apply Kd.N_drew)); exact (Kd.N_mono (Kd.N_far (p := ⟨gb287, 7, none⟩) (Kd.N_far (p := ⟨gb287, 6, none⟩) (Kd.N_far (p := ⟨gb287, 5, none⟩) (Kd.N_far (p := ⟨gb287, 4, none⟩) (Kd.N_far (p := ⟨gb287, 3, none⟩) (Kd.N_far (p := ⟨gb287, 2, none⟩) (Kd.N_far (p := ⟨gb287, 1, none⟩) (Kd.N_far (p := ⟨gb287, 0, none⟩) (Kd.N_mono HO281.out (fun k_ hk => (⟨hk, hk.2⟩ : _ ∧ k_ ≠ gb287))) (fun _ hk => hk.2) (.int .i64 t268)) (fun _ hk => hk.2) (.int .i64 t269)) (fun _ hk => hk.2) (.slice Ao100 t270.length co100)) (fun _ hk => hk.2) (.slice Ao101 t273.length co101)) (fun _ hk => hk.2) (.slice Ao102 t276.length co102)) (fun _ hk => hk.2) (.slice Ao103 t279.length co103)) (fun _ hk => hk.2) (.slice Ao104 t282.length co104)) (fun _ hk => hk.2) (.bool t285)) (fun _ h_ => h_.1))) hb); have n5_ := Aside0.mk (Kd.R_below (by (with_reducible repeat (first | apply Kd.R_alloc | apply Kd.R_drewN | apply Kd.R_drew)); exact (Kd.R_mono (Kd.R_far (p := ⟨gb287, 7, none⟩) (Kd.R_far (p := ⟨gb287, 6, none⟩) (Kd.R_far (p := ⟨gb287, 5, none⟩) (Kd.R_far (p := ⟨gb287, 4, none⟩) (Kd.R_far (p := ⟨gb287, 3, none⟩) (Kd.R_far (p := ⟨gb287, 2, none⟩) (Kd.R_far (p := ⟨gb287, 1, none⟩) (Kd.R_far (p := ⟨gb287, 0, none⟩) (Kd.R_types HO284.out BK287.out (by decide)) (fun _ hk => hk.2) (.int .i64 t268)) (fun _ hk => hk.2) (.int .i64 t269)) (fun _ hk => hk.2) (.slice Ao100 t270.length co100)) (fun _ hk => hk.2) (.slice Ao101 t273.length co101)) (fun _ hk => hk.2) (.slice Ao102 t276.length co102)) (fun _ hk => hk.2) (.slice Ao103 t279.length co103)) (fun _ hk => hk.2) (.slice Ao104 t282.length co104)) (fun _ hk => hk.2) (.bool t285)) (fun _ h_ => h_.1))) hb); have n6_ := Aside0.mk (IsS84.below (show IsS84 w ((((((((w97.setCell ⟨gb287, 0, none⟩ (.int .i64 t268)).setCell ⟨gb287, 1, none⟩ (.int .i64 t269)).setCell ⟨gb287, 2, none⟩ (.slice Ao100 t270.length co100)).setCell ⟨gb287, 3, none⟩ (.slice Ao101 t273.length co101)).setCell ⟨gb287, 4, none⟩ (.slice Ao102 t276.length co102)).setCell ⟨gb287, 5, none⟩ (.slice Ao103 t279.length co103)).setCell ⟨gb287, 6, none⟩ (.slice Ao104 t282.length co104)).setCell ⟨gb287, 7, none⟩ (.bool t285)) g241 t239 x242001_1 from by repeat (first | (with_reducible first | exact HI241.out | apply IsS84.alloc | apply IsS84.drewN | apply IsS84.drew | apply IsS84.set_1 | refine IsS84.far ?_ NB241_287.out _) | exact HI241.out)) hb); have n7_ := Aside0.mk (blk_below (g := gb287) (o := .cells #[.int .i64 t268, .int .i64 t269, .slice Ao100 t270.length co100, .slice Ao101 t273.length co101, .slice Ao102 t276.length co102, .slice Ao103 t279.length co103, .slice Ao104 t282.length co104, .bool t285] 31 (0, 0)) (by (with_reducible repeat (first | refine blk_drewN ?_ _ | refine blk_drew ?_ | refine blk_alloc ?_ _)); refine blk_put (cs := #[.int .i64 t268, .int .i64 t269, .slice Ao100 t270.length co100, .slice Ao101 t273.length co101, .slice Ao102 t276.length co102, .slice Ao103 t279.length co103, .slice Ao104 t282.length co104, .bool false]) ?_ 7 _ rfl; (with_reducible repeat (first | refine blk_drewN ?_ _ | refine blk_drew ?_ | refine blk_alloc ?_ _)); refine blk_put (cs := #[.int .i64 t268, .int .i64 t269, .slice Ao100 t270.length co100, .slice Ao101 t273.length co101, .slice Ao102 t276.length co102, .slice Ao103 t279.length co103, .slice none 0 0, .bool false]) ?_ 6 _ rfl; (with_reducible repeat (first | refine blk_drewN ?_ _ | refine blk_drew ?_ | refine blk_alloc ?_ _)); refine blk_put (cs := #[.int .i64 t268, .int .i64 t269, .slice Ao100 t270.length co100, .slice Ao101 t273.length co101, .slice Ao102 t276.length co102, .slice none 0 0, .slice none 0 0, .bool false]) ?_ 5 _ rfl; (with_reducible repeat (first | refine blk_drewN ?_ _ | refine blk_drew ?_ | refine blk_alloc ?_ _)); refine blk_put (cs := #[.int .i64 t268, .int .i64 t269, .slice Ao100 t270.length co100, .slice Ao101 t273.length co101, .slice none 0 0, .slice none 0 0, .slice none 0 0, .bool false]) ?_ 4 _ rfl; (with_reducible repeat (first | refine blk_drewN ?_ _ | refine blk_drew ?_ | refine blk_alloc ?_ _)); refine blk_put (cs := #[.int .i64 t268, .int .i64 t269, .slice Ao100 t270.length co100, .slice none 0 0, .slice none 0 0, .slice none 0 0, .slice none 0 0, .bool false]) ?_ 3 _ rfl; (with_reducible repeat (first | refine blk_drewN ?_ _ | refine blk_drew ?_ | refine blk_alloc ?_ _)); refine blk_put (cs := #[.int .i64 t268, .int .i64 t269, .slice none 0 0, .slice none 0 0, .slice none 0 0, .slice none 0 0, .slice none 0 0, .bool false]) ?_ 2 _ rfl; (with_reducible repeat (first | refine blk_drewN ?_ _ | refine blk_drew ?_ | refine blk_alloc ?_ _)); refine blk_put (cs := #[.int .i64 t268, .int .i64 0, .slice none 0 0, .slice none 0 0, .slice none 0 0, .slice none 0 0, .slice none 0 0, .bool false]) ?_ 1 _ rfl; (with_reducible repeat (first | refine blk_drewN ?_ _ | refine blk_drew ?_ | refine blk_alloc ?_ _)); refine blk_put (cs := #[.int .i64 0, .int .i64 0, .slice none 0 0, .slice none 0 0, .slice none 0 0, .slice none 0 0, .slice none 0 0, .bool false]) ?_ 0 _ rfl; (with_reducible repeat (first | refine blk_drewN ?_ _ | refine blk_drew ?_ | refine blk_alloc ?_ _)); exact BK287.out) hb); have n8_ := Aside0.mk (below_step (by repeat (first | (with_reducible first | exact HB.out | apply below_alloc | apply pw_below_drewN | apply below_drew1 | refine below_set ?_ (IsS84.ge HI241.out) | refine below_set ?_ GE287.out) | exact HB.out)) hb); clear HO_4 HO272 HO275 HO278 HO281 HO284 HI241 BK287 HB; have HO_4 := n0_; have HO272 := n1_; have HO275 := n2_; have HO278 := n3_; have HO281 := n4_; have HO284 := n5_; have HI241 := n6_; have BK287 := n7_; have HB := n8_; clear n0_ n1_ n2_ n3_ n4_ n5_ n6_ n7_ n8_; (try clear hb); (try clear hb2); (try clear hk); (try clear hi)))
      go_ret
      exact ⟨by first | rfl | (simp [errW_none, errW_some] <;> rfl) | (simp [*, errW_none, errW_some] <;> rfl), by repeat (first | (with_reducible first | exact HB.out | apply below_alloc | apply pw_below_drewN | apply below_drew1 | refine below_set ?_ (IsS84.ge HI241.out) | refine below_set ?_ GE287.out) | exact HB.out)⟩
 ·
  replace c3 := Bool.eq_false_iff.mpr c3
  subst c3
  have H1 : ((Awake16.f).bind fun t238 => (some t238)) = some r := by rw [if_neg (show ¬ (false = true) by decide)] at H; exact H
  clear H
  have H := H1
  clear H1
  replace H := Option.bind_eq_some_iff.mp H
  obtain ⟨t238, A1060, H⟩ := H
  replace H : (some t238) = some r := H
  have A106 := Aside0.mk A1060
  clear A1060
  obtain rfl := Option.some.inj H
  go_enter Try.func4, Try.ntmps4
  go_wp2_with (first | ((with_reducible refine gate_callee (f := 18) rfl ?_); refine goesL_ (some 16) rfl rfl Try.func18 (by kernel_rfl) rfl #[.slice A0 l0.length c0] rfl (by (try simp only [List.map_toArray, List.map_cons, List.map_nil]); first | done | rfl | (simp only [List.length_drop, List.length_take]; rfl)) ?_; (with_reducible refine (made_Light.calls _ _ l0 false _ ?side1 ?side2 A2.out).mono ?_); (case side1 => repeat (first | exact HR0.out | (with_reducible refine Kd.C_alloc ?_ _) | (with_reducible refine Kd.C_drewN ?_ _) | (with_reducible refine Kd.C_drew ?_))); (case side2 => exact HC0.out); rintro e w' ⟨rfl, ⟨nd, rfl⟩⟩; refine ⟨_, rfl, ?_⟩) | ((with_reducible refine gate_callee (f := 19) rfl ?_); refine goesL_ (some 18) rfl rfl Try.func19 (by kernel_rfl) rfl #[] rfl (by (try simp only [List.map_toArray, List.map_cons, List.map_nil]); first | done | rfl | (simp only [List.length_drop, List.length_take]; rfl)) ?_; (with_reducible refine (Awake16.calls  t238 _ A106.out).mono ?_); rintro e w107 ⟨rfl, hb⟩; refine ⟨_, rfl, ?_⟩; have n0_ := Aside0.mk (below_step (hb0_ HB.out) hb); clear HB; have HB := n0_; clear n0_; (try clear hb); (try clear hb2); (try clear hk); (try clear hi)))
  go_ret
  exact ⟨by first | rfl | (simp [errW_none, errW_some] <;> rfl) | (simp [*, errW_none, errW_some] <;> rfl), by repeat (first | (with_reducible first | exact HB.out | apply below_alloc | apply pw_below_drewN | apply below_drew1) | exact HB.out)⟩

/-- THE ONE PURE STATEMENT of law16_ProductSpares: yours. -/
def law16_ProductSpares.Pure : Prop := ∀ (l0 : List Int), l0.length ≤ maxLen → l0.length * 8 ≤ 140737488351232 → (∀ x ∈ l0, (Lit.int .i64 x).wf = true) → ∃ k, law16_ProductSpares.f k l0 = some true
theorem law16_ProductSpares.walk (P : law16_ProductSpares.Pure) (a0 : Option Addr) (len0 cap0 : Nat) (z0 : List Int) (w : World) (w0 : (a0 = none ∧ len0 = 0 ∧ cap0 = 0 ∧ z0 = []) ∨ ∃ x, a0 = some x ∧ len0 ≤ cap0 ∧ cap0 ≤ maxLen ∧ z0.length = cap0 ∧ (∀ i, i < z0.length → w.cell? (x.add i) = some (.int .i64 (z0.getD i 0))) ∧ ∀ n ∈ z0, (Lit.int .i64 n).wf = true) (y0 : len0 * 8 ≤ 140737488351232) :
  Calls Try.prog 4 #[.slice a0 len0 cap0] w fun e w' => e = .returned (.bool true) ∧ Below w.heap.size w w' := by
 obtain ⟨l0, rfl, hr0, hm0, hw0, hc0⟩ := ReadsInt.ofRowC w0
 obtain ⟨k, h⟩ := P l0 hm0 y0 hw0
 refine (law16_ProductSpares.calls k _ _ l0 true w (Kd.C_of_reads (d := (0 : Int)) (h1 := fun _ => rfl) hr0) hc0 h rfl).mono ?_
 rintro e w' ⟨rfl, hd⟩
 exact ⟨rfl, hd⟩

end Go.Proofs.Ytpcephbhnbfcmaa.E
