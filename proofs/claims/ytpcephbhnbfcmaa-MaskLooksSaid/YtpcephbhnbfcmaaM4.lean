-- Written by this session's program fork.py: a Lean function for each Go function and its walk. Not trusted: Lean checks it.
import Derived.Test.YtpcephbhnbfcmaaM0
import Derived.Test.YtpcephbhnbfcmaaM1
import Derived.Test.YtpcephbhnbfcmaaM2
import Derived.Test.YtpcephbhnbfcmaaM3
namespace Go.Proofs.Ytpcephbhnbfcmaa.M
open Go.RowKit Go.Proofs.YtpcephbhnbfcmaaW.PrintWords Go.Proofs.YtpcephbhnbfcmaaW.PrintLast Go.Proofs.YtpcephbhnbfcmaaW.PrintMore
attribute [local go_sem] max2_int min2_int max_two min_two max_three min_three max_four min_four   -- for this text's walks alone
set_option linter.unusedVariables false
set_option linter.unusedSimpArgs false

open List (setIfInBounds_toArray set_cons_zero set_cons_succ)
/-! ### law15_MaskLooks: function 11 -/
mutual
def law15_MaskLooks.j0 : Nat → List Int → List Int → List Int → Int → Int → Bool → Int → Int → List Int → List Int → List (S101) → List (S79) → List Int → Bool → Option (Bool)
 | 0, _, _, _, _, _, _, _, _, _, _, _, _, _, _ => none
 | k + 1, x0, x1, x2, x3, x4, x40, x209000, x209001, x209002, x209003, x209004, x209005, x209006, x209007 => if x40 = true then ((law15_awake.f k).bind fun t209 => (some t209)) else (if ([] : List Int).length + x2.length < 17592186044416 then ((some (([] : List Int) ++ x2 : List Int)).bind fun y210 => (law15_MaskLooks.l0 k x0 x1 x2 x3 x4 y210 (y210.length : Int) 0 x209000 x209001 x209002 x209003 x209004 x209005 x209006 x209007)) else (none))
def law15_MaskLooks.l0 : Nat → List Int → List Int → List Int → Int → Int → List Int → Int → Int → Int → Int → List Int → List Int → List (S101) → List (S79) → List Int → Bool → Option (Bool)
 | 0, _, _, _, _, _, _, _, _, _, _, _, _, _, _, _, _ => none
 | k + 1, x0, x1, x2, x3, x4, x13, x45, x46, x209000, x209001, x209002, x209003, x209004, x209005, x209006, x209007 => if x46 < x45 then (if 0 ≤ x46 then (if x46 < (x13.length : Int) then (if (Int.tmod (rd x13 x46) 3) = 0 then (law15_MaskLooks.l0 k x0 x1 x2 x3 x4 x13 x45 (wrap64 (x46 + 1)) x209000 x209001 x209002 x209003 x209004 x209005 x209006 x209007) else (if (x0.length : Int) > 0 then (if (wrap64 (8 * (x0.length : Int))) = 0 then (none) else (law15_MaskLooks.l0 k x0 x1 x2 x3 x4 (x13.set (x46 : Int).toNat (Int.tmod (wrap64 ((Int.tmod (rd x13 x46) (wrap64 (8 * (x0.length : Int)))) + (wrap64 (8 * (x0.length : Int))))) (wrap64 (8 * (x0.length : Int))))) x45 (wrap64 (x46 + 1)) x209000 x209001 x209002 x209003 x209004 x209005 x209006 x209007)) else (law15_MaskLooks.l0 k x0 x1 x2 x3 x4 x13 x45 (wrap64 (x46 + 1)) x209000 x209001 x209002 x209003 x209004 x209005 x209006 x209007))) else (none)) else (none)) else ((mask_Bits.f k x0 (Int.tmod x3 40)).bind fun bt216 => ((ref15_Bits.f k x0 (Int.tmod x3 40)).bind fun bt220 => ((some (([x2, x13] : List (List Int)) : List (List Int))).bind fun y224 => (law15_MaskLooks.l1 k x0 x1 x4 (Int.tmod x3 400) bt216.1 bt216.2 bt220.1 bt220.2 y224 (y224.length : Int) 0 x209000 x209001 x209002 x209003 x209004 x209005 x209006 x209007))))
def law15_MaskLooks.l1 : Nat → List Int → List Int → Int → Int → List Int → Bool → List Int → Bool → List (List Int) → Int → Int → Int → Int → List Int → List Int → List (S101) → List (S79) → List Int → Bool → Option (Bool)
 | 0, _, _, _, _, _, _, _, _, _, _, _, _, _, _, _, _, _, _, _ => none
 | k + 1, x0, x1, x4, x15, x16, x17, x18, x19, x98, x99, x100, x209000, x209001, x209002, x209003, x209004, x209005, x209006, x209007 => if x100 < x99 then (if 0 ≤ x100 then (if x100 < (x98.length : Int) then ((mask_Clear.f k x0 (rd_L5 x98 x100)).bind fun t228 => ((ref15_Clear.f k x0 (rd_L5 x98 x100)).bind fun t231 => (if (strOfNums t228).toList = (strOfNums t231).toList then ((mask_Put.f k x0 (rd_L5 x98 x100) x4).bind fun t234 => ((ref15_Put.f k x0 (rd_L5 x98 x100) x4).bind fun t237 => (if (strOfNums t234).toList = (strOfNums t237).toList then ((mask_Get.f k x0 (rd_L5 x98 x100)).bind fun t240 => ((ref15_Get.f k x0 (rd_L5 x98 x100)).bind fun t241 => (if t240 = t241 then (law15_MaskLooks.l1 k x0 x1 x4 x15 x16 x17 x18 x19 x98 x99 (wrap64 (x100 + 1)) x209000 x209001 x209002 x209003 x209004 x209005 x209006 x209007) else (some false)))) else (some false)))) else (some false)))) else (none)) else (none)) else ((mask_Valid.f x209000 x209001 x209002 x209003 x209004 x209005 x209006 x209007).bind fun t242 => ((ref15_Valid.f x209000 x209001 x209002 x209003 x209004 x209005 x209006 x209007).bind fun t243 => (if (t242 == t243) = true then ((Extend.f x0 x15).bind fun t244 => ((ref15_Extend.f k x0 x15).bind fun t247 => (if (strOfNums t244).toList = (strOfNums t247).toList then ((mask_And.f k x0 x1).bind fun t250 => ((ref15_And.f k x0 x1).bind fun t253 => (if (strOfNums t250).toList = (strOfNums t253).toList then ((mask_Count.f k x0).bind fun t256 => ((ref15_Count.f k x0).bind fun t257 => (if t256 = t257 then (if (x17 == x19) = true then ((law15_ints.f k x16 x18).bind fun t258 => (if t258 = true then ((mask_Fits.f k x0 x1).bind fun t259 => ((ref15_Fits.f k x0 x1).bind fun t260 => (if (t259 == t260) = true then ((Extend.f x1 (x0.length : Int)).bind fun t261 => ((mask_Fits.f k x0 t261).bind fun t264 => ((ref15_Extend.f k x1 (x0.length : Int)).bind fun t265 => ((ref15_Fits.f k x0 t265).bind fun t268 => (if (t264 == t268) = true then ((law15_awake.f k).bind fun t269 => (some t269)) else (some false)))))) else (some false)))) else (some false))) else (some false)) else (some false)))) else (some false)))) else (some false)))) else (some false))))
end
def law15_MaskLooks.f (k : Nat) (l0 : List Int) (l1 : List Int) (l2 : List Int) (a3 : Int) (a4 : Int) (a5_0 : Int) (a5_1 : Int) (l5_2 : List Int) (l5_3 : List Int) (l5_4 : List (S101)) (l5_5 : List (S79)) (l5_6 : List Int) (a5_7 : Bool) : Option (Bool) := if (l0.length : Int) > 300 then (law15_MaskLooks.j0 k l0 l1 l2 a3 a4 true a5_0 a5_1 l5_2 l5_3 l5_4 l5_5 l5_6 a5_7) else (if (l1.length : Int) > 300 then (law15_MaskLooks.j0 k l0 l1 l2 a3 a4 true a5_0 a5_1 l5_2 l5_3 l5_4 l5_5 l5_6 a5_7) else (if (l2.length : Int) > 100 then (law15_MaskLooks.j0 k l0 l1 l2 a3 a4 true a5_0 a5_1 l5_2 l5_3 l5_4 l5_5 l5_6 a5_7) else (law15_MaskLooks.j0 k l0 l1 l2 a3 a4 (decide ((l5_2.length : Int) > 3000)) a5_0 a5_1 l5_2 l5_3 l5_4 l5_5 l5_6 a5_7)))
theorem law15_MaskLooks.mono_l : ∀ k, (∀ y0 y1 y2 y3 y4 y5 y6 y7 y8 y9 y10 y11 y12 y13, LeO (law15_MaskLooks.j0 k y0 y1 y2 y3 y4 y5 y6 y7 y8 y9 y10 y11 y12 y13) (law15_MaskLooks.j0 (k + 1) y0 y1 y2 y3 y4 y5 y6 y7 y8 y9 y10 y11 y12 y13)) ∧ (∀ y0 y1 y2 y3 y4 y5 y6 y7 y8 y9 y10 y11 y12 y13 y14 y15, LeO (law15_MaskLooks.l0 k y0 y1 y2 y3 y4 y5 y6 y7 y8 y9 y10 y11 y12 y13 y14 y15) (law15_MaskLooks.l0 (k + 1) y0 y1 y2 y3 y4 y5 y6 y7 y8 y9 y10 y11 y12 y13 y14 y15)) ∧ (∀ y0 y1 y2 y3 y4 y5 y6 y7 y8 y9 y10 y11 y12 y13 y14 y15 y16 y17 y18, LeO (law15_MaskLooks.l1 k y0 y1 y2 y3 y4 y5 y6 y7 y8 y9 y10 y11 y12 y13 y14 y15 y16 y17 y18) (law15_MaskLooks.l1 (k + 1) y0 y1 y2 y3 y4 y5 y6 y7 y8 y9 y10 y11 y12 y13 y14 y15 y16 y17 y18))
 | 0 => ⟨fun _ _ _ _ _ _ _ _ _ _ _ _ _ _ r h => by simp [law15_MaskLooks.j0] at h, fun _ _ _ _ _ _ _ _ _ _ _ _ _ _ _ _ r h => by simp [law15_MaskLooks.l0] at h, fun _ _ _ _ _ _ _ _ _ _ _ _ _ _ _ _ _ _ _ r h => by simp [law15_MaskLooks.l1] at h⟩
 | k + 1 => by
  obtain ⟨ih0, ih1, ih2⟩ := law15_MaskLooks.mono_l k; refine ⟨?_, ?_, ?_⟩
  ·
   intro y0 y1 y2 y3 y4 y5 y6 y7 y8 y9 y10 y11 y12 y13; unfold law15_MaskLooks.j0
   repeat' first
   | (with_reducible exact ih0 _ _ _ _ _ _ _ _ _ _ _ _ _ _)
   | (with_reducible exact ih1 _ _ _ _ _ _ _ _ _ _ _ _ _ _ _ _)
   | (with_reducible exact ih2 _ _ _ _ _ _ _ _ _ _ _ _ _ _ _ _ _ _ _)
   | (with_reducible exact law15_awake.mono _)
   | (with_reducible exact law15_ints.mono _ _ _)
   | (with_reducible exact mask_And.mono _ _ _)
   | (with_reducible exact mask_Bits.mono _ _ _)
   | (with_reducible exact mask_Clear.mono _ _ _)
   | (with_reducible exact mask_Count.mono _ _)
   | (with_reducible exact mask_Fits.mono _ _ _)
   | (with_reducible exact mask_Get.mono _ _ _)
   | (with_reducible exact mask_Put.mono _ _ _ _)
   | (with_reducible exact ref15_And.mono _ _ _)
   | (with_reducible exact ref15_Bits.mono _ _ _)
   | (with_reducible exact ref15_Clear.mono _ _ _)
   | (with_reducible exact ref15_Count.mono _ _)
   | (with_reducible exact ref15_Extend.mono _ _ _)
   | (with_reducible exact ref15_Fits.mono _ _ _)
   | (with_reducible exact ref15_Get.mono _ _ _)
   | (with_reducible exact ref15_Put.mono _ _ _ _)
   | (with_reducible exact LeO.refl _)
   | (with_reducible exact LeO.none _)
   | (with_reducible refine LeO.ite ?_ ?_)
   | (with_reducible refine LeO.bind ?_ (fun _ => ?_))
   | exact ih0 _ _ _ _ _ _ _ _ _ _ _ _ _ _
   | exact ih1 _ _ _ _ _ _ _ _ _ _ _ _ _ _ _ _
   | exact ih2 _ _ _ _ _ _ _ _ _ _ _ _ _ _ _ _ _ _ _
   | exact law15_awake.mono _
   | exact law15_ints.mono _ _ _
   | exact mask_And.mono _ _ _
   | exact mask_Bits.mono _ _ _
   | exact mask_Clear.mono _ _ _
   | exact mask_Count.mono _ _
   | exact mask_Fits.mono _ _ _
   | exact mask_Get.mono _ _ _
   | exact mask_Put.mono _ _ _ _
   | exact ref15_And.mono _ _ _
   | exact ref15_Bits.mono _ _ _
   | exact ref15_Clear.mono _ _ _
   | exact ref15_Count.mono _ _
   | exact ref15_Extend.mono _ _ _
   | exact ref15_Fits.mono _ _ _
   | exact ref15_Get.mono _ _ _
   | exact ref15_Put.mono _ _ _ _
   | exact LeO.none _
   | refine LeO.ite ?_ ?_
   | refine LeO.bind ?_ (fun _ => ?_)
  ·
   intro y0 y1 y2 y3 y4 y5 y6 y7 y8 y9 y10 y11 y12 y13 y14 y15; unfold law15_MaskLooks.l0
   repeat' first
   | (with_reducible exact ih0 _ _ _ _ _ _ _ _ _ _ _ _ _ _)
   | (with_reducible exact ih1 _ _ _ _ _ _ _ _ _ _ _ _ _ _ _ _)
   | (with_reducible exact ih2 _ _ _ _ _ _ _ _ _ _ _ _ _ _ _ _ _ _ _)
   | (with_reducible exact law15_awake.mono _)
   | (with_reducible exact law15_ints.mono _ _ _)
   | (with_reducible exact mask_And.mono _ _ _)
   | (with_reducible exact mask_Bits.mono _ _ _)
   | (with_reducible exact mask_Clear.mono _ _ _)
   | (with_reducible exact mask_Count.mono _ _)
   | (with_reducible exact mask_Fits.mono _ _ _)
   | (with_reducible exact mask_Get.mono _ _ _)
   | (with_reducible exact mask_Put.mono _ _ _ _)
   | (with_reducible exact ref15_And.mono _ _ _)
   | (with_reducible exact ref15_Bits.mono _ _ _)
   | (with_reducible exact ref15_Clear.mono _ _ _)
   | (with_reducible exact ref15_Count.mono _ _)
   | (with_reducible exact ref15_Extend.mono _ _ _)
   | (with_reducible exact ref15_Fits.mono _ _ _)
   | (with_reducible exact ref15_Get.mono _ _ _)
   | (with_reducible exact ref15_Put.mono _ _ _ _)
   | (with_reducible exact LeO.refl _)
   | (with_reducible exact LeO.none _)
   | (with_reducible refine LeO.ite ?_ ?_)
   | (with_reducible refine LeO.bind ?_ (fun _ => ?_))
   | exact ih0 _ _ _ _ _ _ _ _ _ _ _ _ _ _
   | exact ih1 _ _ _ _ _ _ _ _ _ _ _ _ _ _ _ _
   | exact ih2 _ _ _ _ _ _ _ _ _ _ _ _ _ _ _ _ _ _ _
   | exact law15_awake.mono _
   | exact law15_ints.mono _ _ _
   | exact mask_And.mono _ _ _
   | exact mask_Bits.mono _ _ _
   | exact mask_Clear.mono _ _ _
   | exact mask_Count.mono _ _
   | exact mask_Fits.mono _ _ _
   | exact mask_Get.mono _ _ _
   | exact mask_Put.mono _ _ _ _
   | exact ref15_And.mono _ _ _
   | exact ref15_Bits.mono _ _ _
   | exact ref15_Clear.mono _ _ _
   | exact ref15_Count.mono _ _
   | exact ref15_Extend.mono _ _ _
   | exact ref15_Fits.mono _ _ _
   | exact ref15_Get.mono _ _ _
   | exact ref15_Put.mono _ _ _ _
   | exact LeO.none _
   | refine LeO.ite ?_ ?_
   | refine LeO.bind ?_ (fun _ => ?_)
  ·
   intro y0 y1 y2 y3 y4 y5 y6 y7 y8 y9 y10 y11 y12 y13 y14 y15 y16 y17 y18; unfold law15_MaskLooks.l1
   repeat' first
   | (with_reducible exact ih0 _ _ _ _ _ _ _ _ _ _ _ _ _ _)
   | (with_reducible exact ih1 _ _ _ _ _ _ _ _ _ _ _ _ _ _ _ _)
   | (with_reducible exact ih2 _ _ _ _ _ _ _ _ _ _ _ _ _ _ _ _ _ _ _)
   | (with_reducible exact law15_awake.mono _)
   | (with_reducible exact law15_ints.mono _ _ _)
   | (with_reducible exact mask_And.mono _ _ _)
   | (with_reducible exact mask_Bits.mono _ _ _)
   | (with_reducible exact mask_Clear.mono _ _ _)
   | (with_reducible exact mask_Count.mono _ _)
   | (with_reducible exact mask_Fits.mono _ _ _)
   | (with_reducible exact mask_Get.mono _ _ _)
   | (with_reducible exact mask_Put.mono _ _ _ _)
   | (with_reducible exact ref15_And.mono _ _ _)
   | (with_reducible exact ref15_Bits.mono _ _ _)
   | (with_reducible exact ref15_Clear.mono _ _ _)
   | (with_reducible exact ref15_Count.mono _ _)
   | (with_reducible exact ref15_Extend.mono _ _ _)
   | (with_reducible exact ref15_Fits.mono _ _ _)
   | (with_reducible exact ref15_Get.mono _ _ _)
   | (with_reducible exact ref15_Put.mono _ _ _ _)
   | (with_reducible exact LeO.refl _)
   | (with_reducible exact LeO.none _)
   | (with_reducible refine LeO.ite ?_ ?_)
   | (with_reducible refine LeO.bind ?_ (fun _ => ?_))
   | exact ih0 _ _ _ _ _ _ _ _ _ _ _ _ _ _
   | exact ih1 _ _ _ _ _ _ _ _ _ _ _ _ _ _ _ _
   | exact ih2 _ _ _ _ _ _ _ _ _ _ _ _ _ _ _ _ _ _ _
   | exact law15_awake.mono _
   | exact law15_ints.mono _ _ _
   | exact mask_And.mono _ _ _
   | exact mask_Bits.mono _ _ _
   | exact mask_Clear.mono _ _ _
   | exact mask_Count.mono _ _
   | exact mask_Fits.mono _ _ _
   | exact mask_Get.mono _ _ _
   | exact mask_Put.mono _ _ _ _
   | exact ref15_And.mono _ _ _
   | exact ref15_Bits.mono _ _ _
   | exact ref15_Clear.mono _ _ _
   | exact ref15_Count.mono _ _
   | exact ref15_Extend.mono _ _ _
   | exact ref15_Fits.mono _ _ _
   | exact ref15_Get.mono _ _ _
   | exact ref15_Put.mono _ _ _ _
   | exact LeO.none _
   | refine LeO.ite ?_ ?_
   | refine LeO.bind ?_ (fun _ => ?_)
theorem law15_MaskLooks.mono : ∀ a0 a1 a2 a3 a4 a5 a6 a7 a8 a9 a10 a11 a12 k, LeO (law15_MaskLooks.f k a0 a1 a2 a3 a4 a5 a6 a7 a8 a9 a10 a11 a12) (law15_MaskLooks.f (k + 1) a0 a1 a2 a3 a4 a5 a6 a7 a8 a9 a10 a11 a12) := by
 intro a0 a1 a2 a3 a4 a5 a6 a7 a8 a9 a10 a11 a12 k; obtain ⟨ih0, ih1, ih2⟩ := law15_MaskLooks.mono_l k; unfold law15_MaskLooks.f
 repeat' first
   | (with_reducible exact ih0 _ _ _ _ _ _ _ _ _ _ _ _ _ _)
   | (with_reducible exact ih1 _ _ _ _ _ _ _ _ _ _ _ _ _ _ _ _)
   | (with_reducible exact ih2 _ _ _ _ _ _ _ _ _ _ _ _ _ _ _ _ _ _ _)
   | (with_reducible exact law15_awake.mono _)
   | (with_reducible exact law15_ints.mono _ _ _)
   | (with_reducible exact mask_And.mono _ _ _)
   | (with_reducible exact mask_Bits.mono _ _ _)
   | (with_reducible exact mask_Clear.mono _ _ _)
   | (with_reducible exact mask_Count.mono _ _)
   | (with_reducible exact mask_Fits.mono _ _ _)
   | (with_reducible exact mask_Get.mono _ _ _)
   | (with_reducible exact mask_Put.mono _ _ _ _)
   | (with_reducible exact ref15_And.mono _ _ _)
   | (with_reducible exact ref15_Bits.mono _ _ _)
   | (with_reducible exact ref15_Clear.mono _ _ _)
   | (with_reducible exact ref15_Count.mono _ _)
   | (with_reducible exact ref15_Extend.mono _ _ _)
   | (with_reducible exact ref15_Fits.mono _ _ _)
   | (with_reducible exact ref15_Get.mono _ _ _)
   | (with_reducible exact ref15_Put.mono _ _ _ _)
   | (with_reducible exact LeO.refl _)
   | (with_reducible exact LeO.none _)
   | (with_reducible refine LeO.ite ?_ ?_)
   | (with_reducible refine LeO.bind ?_ (fun _ => ?_))
   | exact ih0 _ _ _ _ _ _ _ _ _ _ _ _ _ _
   | exact ih1 _ _ _ _ _ _ _ _ _ _ _ _ _ _ _ _
   | exact ih2 _ _ _ _ _ _ _ _ _ _ _ _ _ _ _ _ _ _ _
   | exact law15_awake.mono _
   | exact law15_ints.mono _ _ _
   | exact mask_And.mono _ _ _
   | exact mask_Bits.mono _ _ _
   | exact mask_Clear.mono _ _ _
   | exact mask_Count.mono _ _
   | exact mask_Fits.mono _ _ _
   | exact mask_Get.mono _ _ _
   | exact mask_Put.mono _ _ _ _
   | exact ref15_And.mono _ _ _
   | exact ref15_Bits.mono _ _ _
   | exact ref15_Clear.mono _ _ _
   | exact ref15_Count.mono _ _
   | exact ref15_Extend.mono _ _ _
   | exact ref15_Fits.mono _ _ _
   | exact ref15_Get.mono _ _ _
   | exact ref15_Put.mono _ _ _ _
   | exact LeO.none _
   | refine LeO.ite ?_ ?_
   | refine LeO.bind ?_ (fun _ => ?_)
def law15_MaskLooks.T16 : Bool × List (List Nat × List Nat) := (true, [([], []), ([], []), ([0, 1], [0, 1]), ([2], [2]), ([], []), ([], []), ([4, 5, 2], [4, 5]), ([6], [6]), ([3, 7], [3, 7]), ([8, 6], [8]), ([9], [9]), ([9], [9]), ([9], [9]), ([10, 11, 12, 9, 9], [9, 10, 11, 12]), ([13, 9], [9, 13]), ([9], [9]), ([9], [9]), ([9], [9]), ([15, 16, 17, 13, 9], [9, 15, 16, 17]), ([18, 9], [9, 18]), ([14, 19, 9], [9, 14, 19]), ([9, 20], [9, 20]), ([21, 18], [21]), ([22], [22]), ([22], [22]), ([23, 24, 22, 22], [22, 23, 24]), ([22], [22]), ([22], [22]), ([26, 27, 25, 22], [22, 26, 27]), ([25, 28, 22], [22, 25, 28]), ([22, 29], [22, 29])])
def law15_MaskLooks.B16 : List Nat := [0, 0, 3, 7, 0, 0, 55, 119, 255, 511, 1023, 1023, 1023, 8191, 16383, 1023, 1023, 1023, 245759, 507903, 1048575, 2097151, 4194303, 8388607, 8388607, 33554431, 8388607, 8388607, 268435455, 536870911, 1073741823]
theorem law15_MaskLooks.tab16 : rtab .any (opsOf Try.f11 16) = law15_MaskLooks.T16 := by kernel_rfl
theorem law15_MaskLooks.bits16 : waitsOk law15_MaskLooks.T16.2 law15_MaskLooks.B16 = true := by kernel_rfl
def law15_MaskLooks.T19 : Bool × List (List Nat × List Nat) := (true, [([], []), ([0], [0]), ([], []), ([2, 1], [2]), ([1, 3], [1, 3]), ([4, 3], [4]), ([5], [5]), ([5], [5]), ([6, 7, 5, 5], [5, 6, 7]), ([8, 5], [5, 8]), ([5], [5]), ([5], [5]), ([10, 11, 8, 5], [5, 10, 11]), ([12, 5], [5, 12]), ([9, 13, 5], [5, 9, 13]), ([5, 14], [5, 14]), ([15, 12], [15]), ([16], [16]), ([16], [16]), ([17, 18, 16, 16], [16, 17, 18]), ([19, 16], [16, 19]), ([16], [16]), ([16], [16]), ([21, 22, 19, 16], [16, 21, 22]), ([23, 16], [16, 23]), ([20, 24, 16], [16, 20, 24]), ([16, 25], [16, 25]), ([26, 23], [26]), ([27], [27]), ([28, 27, 27], [27, 28]), ([27], [27]), ([30, 29, 27], [27, 30]), ([29, 31, 27], [27, 29, 31]), ([27, 32], [27, 32]), ([33, 31], [33]), ([34], [34]), ([34], [34]), ([35, 36, 34], [34, 35, 36]), ([34, 37], [34, 37]), ([38, 34], [38]), ([39], [39]), ([39], [39]), ([40, 41, 39, 39], [39, 40, 41]), ([39, 42], [39, 42]), ([43, 42], [43]), ([44], [44]), ([44], [44]), ([45, 46, 44, 44], [44, 45, 46]), ([44], [44]), ([44], [44]), ([48, 49, 47, 44], [44, 48, 49]), ([47, 50, 44], [44, 47, 50]), ([44, 51], [44, 51]), ([52, 50], [52]), ([53], [53]), ([53], [53]), ([53], [53]), ([56, 53], [53, 56]), ([55, 57, 53, 53], [53, 55, 57]), ([54, 58, 58, 53], [53, 54, 58]), ([53], [53]), ([53], [53]), ([53], [53]), ([62, 53], [53, 62]), ([61, 63, 59, 53], [53, 61, 63]), ([60, 64, 64, 53], [53, 60, 64]), ([59, 65, 53], [53, 59, 65]), ([53, 66], [53, 66]), ([67, 65], [67]), ([68, 68], [68]), ([68, 69], [68, 69]), ([70, 69, 0, 1, 2, 3, 4, 5, 6, 7, 8, 9, 10, 11, 12, 13, 14, 15, 16, 17, 18, 19, 20, 21, 22, 23, 24, 25, 26, 27, 28, 29, 30, 31, 32, 33, 34, 35, 36, 37, 38, 39, 40, 41, 42, 43, 44, 45, 46, 47, 48, 49, 50, 51, 52, 53, 54, 55, 56, 57, 58, 59, 60, 61, 62, 63, 64, 65, 66, 67, 68, 69, 70], [70])])
def law15_MaskLooks.B19 : List Nat := [0, 1, 0, 7, 15, 31, 63, 63, 255, 511, 63, 63, 3583, 7679, 16383, 32767, 65535, 131071, 131071, 524287, 1048575, 131071, 131071, 7340031, 15728639, 33554431, 67108863, 134217727, 268435455, 536870911, 268435455, 2147483647, 4294967295, 8589934591, 17179869183, 34359738367, 34359738367, 137438953471, 274877906943, 549755813887, 1099511627775, 1099511627775, 4398046511103, 8796093022207, 17592186044415, 35184372088831, 35184372088831, 140737488355327, 35184372088831, 35184372088831, 1125899906842623, 2251799813685247, 4503599627370495, 9007199254740991, 18014398509481983, 18014398509481983, 18014398509481983, 90071992547409919, 270215977642229759, 576460752303423487, 18014398509481983, 18014398509481983, 18014398509481983, 4629700416936869887, 17293822569102704639, 36893488147419103231, 73786976294838206463, 147573952589676412927, 295147905179352825855, 590295810358705651711, 1180591620717411303423, 2361183241434822606847]
theorem law15_MaskLooks.tab19 : rtab .any (opsOf Try.f11 19) = law15_MaskLooks.T19 := by kernel_rfl
theorem law15_MaskLooks.bits19 : waitsOk law15_MaskLooks.T19.2 law15_MaskLooks.B19 = true := by kernel_rfl
set_option maxHeartbeats 8000000 in
set_option maxRecDepth 100000 in
theorem law15_MaskLooks.calls (k : Nat) (A0 : Option Addr) (c0 : Nat) (l0 : List Int) (A1 : Option Addr) (c1 : Nat) (l1 : List Int) (P2_ : Nat → Prop) (A2 : Option Addr) (c2 : Nat) (l2 : List Int) (a3 : Int) (a4 : Int) (a5_0 : Int) (a5_1 : Int) (A5_2 : Option Addr) (c5_2 : Nat) (l5_2 : List Int) (A5_3 : Option Addr) (c5_3 : Nat) (l5_3 : List Int) (A5_4 : Option Addr) (c5_4 : Nat) (l5_4 : List (S101)) (A5_5 : Option Addr) (c5_5 : Nat) (l5_5 : List (S79)) (A5_6 : Option Addr) (c5_6 : Nat) (l5_6 : List Int) (a5_7 : Bool) (r : Bool) (w : World) (hr0 : Kd.C (Kd.int .u8) w A0 l0.length l0) (hc0 : l0.length ≤ c0) (hr1 : Kd.C (Kd.int .u8) w A1 l1.length l1) (hc1 : l1.length ≤ c1) (hs2 : Kd.V (Kd.int .i64) 3 w w.heap.size (fun k_ => P2_ k_) (.slice A2 l2.length c2) l2) (hr5_2 : Kd.C (Kd.int .u8) w A5_2 l5_2.length l5_2) (hc5_2 : l5_2.length ≤ c5_2) (hr5_3 : Kd.C (Kd.int .i64) w A5_3 l5_3.length l5_3) (hc5_3 : l5_3.length ≤ c5_3) (hr5_4 : Kd.C k101 w A5_4 l5_4.length l5_4) (hc5_4 : l5_4.length ≤ c5_4) (hr5_5 : Kd.C k79 w A5_5 l5_5.length l5_5) (hc5_5 : l5_5.length ≤ c5_5) (hr5_6 : Kd.C (Kd.int .i64) w A5_6 l5_6.length l5_6) (hc5_6 : l5_6.length ≤ c5_6) (h : law15_MaskLooks.f k l0 l1 l2 a3 a4 a5_0 a5_1 l5_2 l5_3 l5_4 l5_5 l5_6 a5_7 = some r) (hr_ : r = true) :
  Calls Try.prog 11 #[.slice A0 l0.length c0, .slice A1 l1.length c1, .slice A2 l2.length c2, .int .i64 a3, .int .i64 a4, .agg #[.int .i64 a5_0, .int .i64 a5_1, .slice A5_2 l5_2.length c5_2, .slice A5_3 l5_3.length c5_3, .slice A5_4 l5_4.length c5_4, .slice A5_5 l5_5.length c5_5, .slice A5_6 l5_6.length c5_6, .bool a5_7]] w fun e w' => e = .returned (.bool r) ∧ Below w.heap.size w w' := by
 have hu31 := Try.underlying31; have HR0 := Aside0.mk hr0; have HC0 := Aside0.mk hc0; clear hr0 hc0; have HR1 := Aside0.mk hr1; have HC1 := Aside0.mk hc1; clear hr1 hc1; have HO2 := Aside0.mk (show Kd.V (Kd.int .i64) 3 w w.heap.size (fun k_ => (P2_ k_ ∨ w.heap.size ≤ k_)) (.slice A2 l2.length c2) l2 from Kd.V_mono hs2 (fun k_ hk => .inl hk)); have HR5_2 := Aside0.mk hr5_2; have HC5_2 := Aside0.mk hc5_2; clear hr5_2 hc5_2; have HR5_3 := Aside0.mk hr5_3; have HC5_3 := Aside0.mk hc5_3; clear hr5_3 hc5_3; have HR5_4 := Aside0.mk hr5_4; have HC5_4 := Aside0.mk hc5_4; clear hr5_4 hc5_4; have HR5_5 := Aside0.mk hr5_5; have HC5_5 := Aside0.mk hc5_5; clear hr5_5 hc5_5; have HR5_6 := Aside0.mk hr5_6; have HC5_6 := Aside0.mk hc5_6; clear hr5_6 hc5_6; have HB := Aside0.mk (Below.refl w.heap.size w); have H : (if (l0.length : Int) > 300 then (law15_MaskLooks.j0 k l0 l1 l2 a3 a4 true a5_0 a5_1 l5_2 l5_3 l5_4 l5_5 l5_6 a5_7) else (if (l1.length : Int) > 300 then (law15_MaskLooks.j0 k l0 l1 l2 a3 a4 true a5_0 a5_1 l5_2 l5_3 l5_4 l5_5 l5_6 a5_7) else (if (l2.length : Int) > 100 then (law15_MaskLooks.j0 k l0 l1 l2 a3 a4 true a5_0 a5_1 l5_2 l5_3 l5_4 l5_5 l5_6 a5_7) else (law15_MaskLooks.j0 k l0 l1 l2 a3 a4 (decide ((l5_2.length : Int) > 3000)) a5_0 a5_1 l5_2 l5_3 l5_4 l5_5 l5_6 a5_7)))) = some r := h; clear h; have HC7 := Aside0.mk H; clear H; go_enter Try.func11, Try.ntmps11
 go_upto_region 1 with (first | ((with_reducible refine gate_dst (N := 11) rfl ?_); (try (refine gate_guard (by rfl) ?_; dsimp only)); refine box_event ?hg (N := 11) ?hd (cs := #[.int .i64 a5_0, .int .i64 a5_1, .slice A5_2 l5_2.length c5_2, .slice A5_3 l5_3.length c5_3, .slice A5_4 l5_4.length c5_4, .slice A5_5 l5_5.length c5_5, .slice A5_6 l5_6.length c5_6, .bool a5_7]) (t := 31) ?hr ?_; (case hd => rfl); (case hg => rfl); (case hr => first | (go_simp; done) | (go_simp; rfl)); intro gb208 hg w8 hbox hb; have n0_ := Aside0.mk (Kd.V_below (Kd.V_elderB (kV_ HO2.out) gb208 (Nat.le_of_eq hg.symm)) hb); have n1_ := Aside0.mk (below_step (hb0_ HB.out) hb); have n2_ := Aside0.mk (hbox); have n3_ := Aside0.mk ((by rw [hg]; exact (below_size (hb0_ HB.out)) : w.heap.size ≤ gb208)); have n4_ := Aside0.mk ((by rw [hg]; exact (below_size (hb0_ HB.out)) : w.heap.size ≤ gb208)); clear HO2 HB; revert n0_ n1_ n2_ n3_ n4_; intro HO2 HB BK208 GW208 GE208; clear hb hbox hg))
 (try simp only [Act.put, setIfInBounds_toArray, set_cons_zero, set_cons_succ])
 go_cut [40] (fun v40 wc => ∃ (kq : Nat) (x40_6 : Bool), v40 = .bool x40_6 ∧ Aside0 (law15_MaskLooks.j0 kq l0 l1 l2 a3 a4 x40_6 a5_0 a5_1 l5_2 l5_3 l5_4 l5_5 l5_6 a5_7 = some r) ∧ Aside0 (kq ≤ k) ∧ Aside0 (Kd.V (Kd.int .i64) 3 wc w.heap.size (fun k_ => (P2_ k_ ∨ w.heap.size ≤ k_) ∧ k_ ≠ gb208) (.slice A2 l2.length c2) l2) ∧ Aside0 (wc.heap[gb208]? = some (.cells #[.int .i64 a5_0, .int .i64 a5_1, (.slice A5_2 l5_2.length c5_2), (.slice A5_3 l5_3.length c5_3), (.slice A5_4 l5_4.length c5_4), (.slice A5_5 l5_5.length c5_5), (.slice A5_6 l5_6.length c5_6), .bool a5_7] 31 (0, 0))) ∧ Aside0 (Below w.heap.size w wc))
 case first =>
  have H := HC7.out; clear HC7; by_cases c9 : (l0.length : Int) > 300
  ·
   rw [if_pos c9] at H; have c9b0 : decide (300 < (l0.length : Int)) = true := decide_eq_true c9; have c9b1 : decide (300 < l0.length) = true := decide_eq_true (by omega); clear c9; (first | rw [c9b0] | (simp only [i64_w, i32_w]; rw [c9b0]) | skip)
   have H' := Aside0.mk H; clear H; go_wp2
   go_meet
   case rel => exact ⟨_, (true), rf_, H', ⟨om_⟩, ⟨by (with_reducible repeat (first | apply Kd.V_alloc | apply Kd.V_drewN | apply Kd.V_drew)); exact HO2.out⟩, ⟨(bk_ BK208.out)⟩, ⟨(hb1_ HB.out GE208.out)⟩⟩
  ·
   rw [if_neg c9] at H; have c9b0 : decide (300 < (l0.length : Int)) = false := decide_eq_false c9; have c9b1 : decide (300 < l0.length) = false := decide_eq_false (by omega); clear c9; (first | rw [c9b0] | (simp only [i64_w, i32_w]; rw [c9b0]) | skip)
   by_cases c10 : (l1.length : Int) > 300
   ·
    rw [if_pos c10] at H; have c10b0 : decide (300 < (l1.length : Int)) = true := decide_eq_true c10; have c10b1 : decide (300 < l1.length) = true := decide_eq_true (by omega); clear c10; have H' := Aside0.mk H; clear H; go_wp2
    go_meet
    case rel => exact ⟨_, (true), rf_, H', ⟨om_⟩, ⟨by (with_reducible repeat (first | apply Kd.V_alloc | apply Kd.V_drewN | apply Kd.V_drew)); exact HO2.out⟩, ⟨(bk_ BK208.out)⟩, ⟨(hb1_ HB.out GE208.out)⟩⟩
   ·
    rw [if_neg c10] at H; have c10b0 : decide (300 < (l1.length : Int)) = false := decide_eq_false c10; have c10b1 : decide (300 < l1.length) = false := decide_eq_false (by omega); clear c10; by_cases c11 : (l2.length : Int) > 100
    ·
     rw [if_pos c11] at H; have c11b0 : decide (100 < (l2.length : Int)) = true := decide_eq_true c11; have c11b1 : decide (100 < l2.length) = true := decide_eq_true (by omega); clear c11; have H' := Aside0.mk H; clear H; go_wp2
     go_meet
     case rel => exact ⟨_, (true), rf_, H', ⟨om_⟩, ⟨by (with_reducible repeat (first | apply Kd.V_alloc | apply Kd.V_drewN | apply Kd.V_drew)); exact HO2.out⟩, ⟨(bk_ BK208.out)⟩, ⟨(hb1_ HB.out GE208.out)⟩⟩
    ·
     rw [if_neg c11] at H; have c11b0 : decide (100 < (l2.length : Int)) = false := decide_eq_false c11; have c11b1 : decide (100 < l2.length) = false := decide_eq_false (by omega); clear c11; have H' := Aside0.mk H; clear H; obtain ⟨hcz12_0, hcz12_1, hcz12_2, hcz12_3, hcz12_4, hcz12_5, hcz12_6, hcz12_7, hfz12_0, hfz12_1, hfz12_2, hfz12_3, hfz12_4, hfz12_5, hfz12_6, hfz12_7⟩ := bx8_ BK208.out; go_wp2
     go_meet
     case rel => exact ⟨_, (decide ((l5_2.length : Int) > 3000)), rf_, H', ⟨om_⟩, ⟨by (with_reducible repeat (first | apply Kd.V_alloc | apply Kd.V_drewN | apply Kd.V_drew)); exact HO2.out⟩, ⟨(bk_ BK208.out)⟩, ⟨(hb1_ HB.out GE208.out)⟩⟩
 case rest =>
  clear HC7; try clear c1
  try clear c2
  try clear p2
  try clear c5
  try clear c9
  try clear c9b0
  try clear c9b1
  try clear c10
  try clear c10b0
  try clear c10b1
  try clear c11
  try clear c11b0
  try clear c11b1
  try clear hcz12_0
  try clear hcz12_1
  try clear hcz12_2
  try clear hcz12_3
  try clear hcz12_4
  try clear hcz12_5
  try clear hcz12_6
  try clear hcz12_7
  try clear hfz12_0
  try clear hfz12_1
  try clear hfz12_2
  try clear hfz12_3
  try clear hfz12_4
  try clear hfz12_5
  try clear hfz12_6
  try clear hfz12_7
  obtain ⟨kq, x40_6, rfl, HA, HJ6, HO_2, BK208, HB⟩ := hcut; cases kq with
  | zero => exact absurd HA.out (by simp [law15_MaskLooks.j0])
  | succ kj6 =>
   have H := HA.out; clear HA; simp only [law15_MaskLooks.j0] at H; by_cases c13 : x40_6 = true
   ·
    subst c13; have H1 : ((law15_awake.f kj6).bind fun t209 => (some t209)) = some r := by rw [if_pos rfl] at H; exact H
    clear H; have H := H1; clear H1; replace H := Option.bind_eq_some_iff.mp H; obtain ⟨t209, A140, H⟩ := H; (try dsimp only at H); have A14 := Aside0.mk A140; clear A140; obtain rfl := Option.some.inj H; go_wp2_with (first | ((with_reducible refine gate_callee (f := 43) rfl ?_); refine goesL_ (some 41) rfl rfl Try.func43 (by kernel_rfl) rfl #[] rfl lm_ ?_; (with_reducible refine (law15_awake.calls kj6  t209 _ A14.out).mono ?_); rintro e w15 ⟨rfl, hb⟩; refine ⟨_, rfl, ?_⟩; have n0_ := Aside0.mk (Kd.V_below (kV_ HO_2.out) hb); have n1_ := Aside0.mk (bb_ BK208.out hb); have n2_ := Aside0.mk (below_step (hb1_ HB.out GE208.out) hb); clear HO_2 BK208 HB; revert n0_ n1_ n2_; intro HO_2 BK208 HB; (try clear hb); (try clear hb2); (try clear hk); (try clear hi)))
    go_ret
    exact ⟨by first | rfl | (simp [errW_none, errW_some] <;> rfl) | (simp [*, errW_none, errW_some] <;> rfl), (hb1_ HB.out GE208.out)⟩
   ·
    replace c13 := Bool.eq_false_iff.mpr c13; subst c13; have H1 : (if ([] : List Int).length + l2.length < 17592186044416 then ((some (([] : List Int) ++ l2 : List Int)).bind fun y210 => (law15_MaskLooks.l0 kj6 l0 l1 l2 a3 a4 y210 (y210.length : Int) 0 a5_0 a5_1 l5_2 l5_3 l5_4 l5_5 l5_6 a5_7)) else (none)) = some r := by rw [if_neg (show ¬ (false = true) by decide)] at H; exact H
    clear H; have H := H1; clear H1; by_cases c16 : ([] : List Int).length + l2.length < 17592186044416
    ·
     rw [if_pos c16] at H; have LMc16 := Aside0.mk c16; clear c16; obtain ⟨y210, hy210⟩ : ∃ y_ : List Int, y_ = (([] : List Int) ++ l2) := ⟨_, rfl⟩; replace H : (law15_MaskLooks.l0 kj6 l0 l1 l2 a3 a4 y210 (y210.length : Int) 0 a5_0 a5_1 l5_2 l5_3 l5_4 l5_5 l5_6 a5_7) = some r := by first | (rw [hy210]; with_reducible exact H) | (have H2_ := (Option.bind_some _ _).symm.trans H; rw [hy210]; with_reducible exact H2_) | (have H2_ := (Option.bind_some _ _).symm.trans H; with_reducible exact H2_) | with_reducible exact H | (rw [hy210]; exact H) | exact H
     have Ny210 := Aside0.mk hy210; clear hy210; have H' := Aside0.mk H; clear H; go_wp2_with (first | ((with_reducible refine gate_builtin (b := .append) (xs := #[.const (.slice none 0 0), .tmp 42]) rfl ?_); (try (refine gate_guard (by rfl) ?_; dsimp only)); at_builtin; refine Kd.R_append_rows (Kd.int .i64) (w0 := w) w.heap.size rfl (.const (.slice none 0 0)) (.tmp 42) 23 3 (.int .i64 0) 8 rfl Try.underlying23 info3 rfl (by decide) (by omega) (.slice none 0 0) ([] : List Int) l2 _ _ _ (fun k_ => (w.heap.size ≤ k_)) (fun _ => False) rfl rfl ?aO ?aR (fun _ _ h => h) (fun _ h => h.elim) ?aF ?aB ?aS ?aL ?_; (case aR => repeat (first | exact (Kd.V_reads' HO_2.out).2.2 | (with_reducible refine Kd.C_alloc ?_ _) | (with_reducible refine Kd.C_drewN ?_ _) | (with_reducible refine Kd.C_drew ?_))); (case aB => exact (hb1_ HB.out GE208.out)); (case aF => exact (fun k_ hk => (Nat.le_trans (below_size (hb1_ HB.out GE208.out)) hk))); (case aO => exact ((Kd.R_nil _ _ _ _ (fun k_ => (w.heap.size ≤ k_))))); (case aS => exact (below_size (hb1_ HB.out GE208.out))); (case aL => have := LMc16.out; omega); intro v211 w17 ho hb hg hat; rw [← Ny210.out] at ho; have n0_ := Aside0.mk (Kd.V_afterv (Kd.V_apart_nil (kV_ HO_2.out)) hg hat); have n1_ := Aside0.mk (blk_grown (g := gb208) (o := .cells #[.int .i64 a5_0, .int .i64 a5_1, .slice A5_2 l5_2.length c5_2, .slice A5_3 l5_3.length c5_3, .slice A5_4 l5_4.length c5_4, .slice A5_5 l5_5.length c5_5, .slice A5_6 l5_6.length c5_6, .bool a5_7] 31 (0, 0)) (bk_ BK208.out) hg (by simp [Value.ownBlock])); have n2_ := Aside0.mk (hb); have n3_ := Aside0.mk (ho); clear HO_2 BK208 HB; revert n0_ n1_ n2_ n3_; intro HO_2 BK208 HB HO212; clear ho hb hg hat; obtain ⟨Ao18, co18, eo18⟩ := Kd.R_slice HO212.out; subst eo18))
     go_loopg [46] kj6 (fun kq v46 w' => ∃ (x13_2 : List Int) (x46_2 : Int), v46 = .int .i64 x46_2 ∧ Aside0 (law15_MaskLooks.l0 kq l0 l1 l2 a3 a4 x13_2 (y210.length : Int) x46_2 a5_0 a5_1 l5_2 l5_3 l5_4 l5_5 l5_6 a5_7 = some r) ∧ Aside0 (kq ≤ kj6) ∧ Aside0 (Kd.V (Kd.int .i64) 3 w' w.heap.size (fun k_ => (P2_ k_ ∨ w.heap.size ≤ k_) ∧ some k_ ≠ ((.slice Ao18 y210.length co18) : Value).ownBlock ∧ k_ ≠ gb208) (.slice A2 l2.length c2) l2) ∧ Aside0 (Kd.R (Kd.int .i64) 3 w' w.heap.size (fun k_ => (w.heap.size ≤ k_)) (.slice Ao18 y210.length co18) x13_2) ∧ Aside0 (w'.heap[gb208]? = some (.cells #[.int .i64 a5_0, .int .i64 a5_1, (.slice A5_2 l5_2.length c5_2), (.slice A5_3 l5_3.length c5_3), (.slice A5_4 l5_4.length c5_4), (.slice A5_5 l5_5.length c5_5), (.slice A5_6 l5_6.length c5_6), .bool a5_7] 31 (0, 0))) ∧ Aside0 (Below w.heap.size w w'))
     case atStart => exact ⟨(y210), (0), rf_, H', ⟨Nat.le_refl _⟩, ⟨by (with_reducible repeat (first | apply Kd.V_alloc | apply Kd.V_drewN | apply Kd.V_drew)); exact Kd.V_mono HO_2.out (fun _ hk => ⟨hk.1.1, ⟨hk.2, hk.1.2⟩⟩)⟩, ⟨by (with_reducible repeat (first | apply Kd.R_alloc | apply Kd.R_drewN | apply Kd.R_drew)); exact HO212.out⟩, ⟨(bk_ BK208.out)⟩, ⟨(hb1_ HB.out GE208.out)⟩⟩
     case round =>
      clear H'; try clear c1
      try clear c2
      try clear p2
      try clear c4
      try clear c5
      try clear c9
      try clear c9b0
      try clear c9b1
      try clear c10
      try clear c10b0
      try clear c10b1
      try clear c11
      try clear c11b0
      try clear c11b1
      try clear c13
      try clear c16
      try clear hcz12_0
      try clear hcz12_1
      try clear hcz12_2
      try clear hcz12_3
      try clear hcz12_4
      try clear hcz12_5
      try clear hcz12_6
      try clear hcz12_7
      try clear hfz12_0
      try clear hfz12_1
      try clear hfz12_2
      try clear hfz12_3
      try clear hfz12_4
      try clear hfz12_5
      try clear hfz12_6
      try clear hfz12_7
      try clear p2
      obtain ⟨x13_2, x46_2, rfl, HA, HK2, HO_2, HO_13, BK208, HB⟩ := hrel; have hl13_2 := (Kd.R_reads' HO_13.out).1; rw [hl13_2] at HO_13; (try simp only [hl13_2])
      (try simp only [hl13_2] at BK208)
      (try simp only [hl13_2] at HO_2)
      cases gk with
      | zero => exact absurd HA.out (by simp [law15_MaskLooks.l0])
      | succ k2 =>
       have H := HA.out; clear HA; simp only [law15_MaskLooks.l0] at H; by_cases c19 : x46_2 < (y210.length : Int)
       ·
        rw [if_pos c19] at H; have c19b0 : decide (x46_2 < (y210.length : Int)) = true := decide_eq_true c19; (try (have c19r0 := c19b0; simp only [hl13_2] at c19r0))
        clear c19; by_cases c20 : 0 ≤ x46_2
        rotate_left
        ·
         rw [if_neg c20] at H; exact absurd H (by simp)
        rw [if_pos c20] at H; have c20b0 : decide (0 ≤ x46_2) = true := decide_eq_true c20; clear c20; by_cases c21 : x46_2 < (x13_2.length : Int)
        rotate_left
        ·
         rw [if_neg c21] at H; exact absurd H (by simp)
        rw [if_pos c21] at H; have c21b0 : decide (x46_2 < (x13_2.length : Int)) = true := decide_eq_true c21; (try (have c21r0 := c21b0; simp only [hl13_2] at c21r0))
        clear c21; by_cases c22 : (Int.tmod (rd x13_2 x46_2) 3) = 0
        ·
         rw [if_pos c22] at H; have c22b0 : ((Int.tmod (rd x13_2 x46_2) 3) == 0) = true := beq_iff_eq.mpr c22; have c22b1 : ((Int.tmod (rd x13_2 x46_2) 3) != 0) = false := bne_eq_false_iff_eq.mpr c22; clear c22; have H' := Aside0.mk H; clear H; have p213 : 0 ≤ (x46_2 : Int) := od_; have q213 : x46_2 < (x13_2.length : Int) := od_; obtain ⟨ad213, e213, hx213_0⟩ := Kd.at_int (Kd.R_reads' HO_13.out).2.2 x46_2 p213 q213; cases e213; replace p213 := eq_true p213; replace q213 := eq_true q213; go_wp2
         (try simp only [← hl13_2])
         go_roundg k2
         case measure => have := HJ6.out; have := HK2.out; omega
         case rel => exact ⟨(x13_2), (wrap64 (x46_2 + 1)), rf_, H', ⟨by have := HJ6.out; have := HK2.out; omega⟩, ⟨by (try simp only [hl13_2]); (with_reducible repeat (first | apply Kd.V_alloc | apply Kd.V_drewN | apply Kd.V_drew)); exact HO_2.out⟩, ⟨by (try simp only [hl13_2]); (with_reducible repeat (first | apply Kd.R_alloc | apply Kd.R_drewN | apply Kd.R_drew)); exact HO_13.out⟩, ⟨by (try simp only [hl13_2]); (with_reducible repeat (first | refine blk_drewN ?_ _ | refine blk_drew ?_ | refine blk_alloc ?_ _)); exact BK208.out⟩, ⟨(hb1_ HB.out GE208.out)⟩⟩
        ·
         rw [if_neg c22] at H; have c22b0 : ((Int.tmod (rd x13_2 x46_2) 3) == 0) = false := beq_eq_false_iff_ne.mpr c22; have c22b1 : ((Int.tmod (rd x13_2 x46_2) 3) != 0) = true := bne_iff_ne.mpr c22; by_cases c23 : (l0.length : Int) > 0
         ·
          rw [if_pos c23] at H; have c23b0 : decide (0 < (l0.length : Int)) = true := decide_eq_true c23; (try (have c23r0 := c23b0; simp only [hl13_2] at c23r0))
          have c23b1 : decide (0 < l0.length) = true := decide_eq_true (by omega); (try (have c23r1 := c23b1; simp only [hl13_2] at c23r1))
          clear c23; by_cases c24 : (wrap64 (8 * (l0.length : Int))) = 0
          ·
           rw [if_pos c24] at H; exact absurd H (by simp)
          rw [if_neg c24] at H; have c24b0 : ((wrap64 (8 * (l0.length : Int))) == 0) = false := beq_eq_false_iff_ne.mpr c24; (try (have c24r0 := c24b0; simp only [hl13_2] at c24r0))
          have c24b1 : ((wrap64 (8 * (l0.length : Int))) != 0) = true := bne_iff_ne.mpr c24; (try (have c24r1 := c24b1; simp only [hl13_2] at c24r1))
          obtain ⟨y215, hy215⟩ : ∃ y_ : List Int, y_ = (x13_2.set (x46_2 : Int).toNat (Int.tmod (wrap64 ((Int.tmod (rd x13_2 x46_2) (wrap64 (8 * (l0.length : Int)))) + (wrap64 (8 * (l0.length : Int))))) (wrap64 (8 * (l0.length : Int))))) := ⟨_, rfl⟩; replace H : (law15_MaskLooks.l0 k2 l0 l1 l2 a3 a4 y215 (y210.length : Int) (wrap64 (x46_2 + 1)) a5_0 a5_1 l5_2 l5_3 l5_4 l5_5 l5_6 a5_7) = some r := by first | (rw [hy215]; with_reducible exact H) | (have H2_ := (Option.bind_some _ _).symm.trans H; rw [hy215]; with_reducible exact H2_) | (have H2_ := (Option.bind_some _ _).symm.trans H; with_reducible exact H2_) | with_reducible exact H | (rw [hy215]; exact H) | exact H
          have Ny215 := Aside0.mk hy215; clear hy215; have H' := Aside0.mk H; clear H; have p213 : 0 ≤ (x46_2 : Int) := od_; have q213 : x46_2 < (x13_2.length : Int) := od_; obtain ⟨ad213, e213, hx213_0⟩ := Kd.at_int (Kd.R_reads' HO_13.out).2.2 x46_2 p213 q213; cases e213; replace p213 := eq_true p213; replace q213 := eq_true q213; have p214 : 0 ≤ (x46_2 : Int) := od_; have q214 : x46_2 < (x13_2.length : Int) := od_; obtain ⟨ad214, e214, hx214_0⟩ := Kd.at_int (Kd.R_reads' HO_13.out).2.2 x46_2 p214 q214; obtain rfl : ad213 = ad214 := (by injection e214); replace p214 := eq_true p214; replace q214 := eq_true q214; have p25 : 0 ≤ (x46_2 : Int) := od_; have q25 : (x46_2 : Int) < ((x13_2.length : Int) : Int) := od_; obtain ⟨go25, co25, eo25, gb25, gl25, cl25, HG25⟩ := Kd.R_form HO_13.out (by omega); (first | cases eo25 | (injection eo25 with ea_ en_ ec_; (first | subst ea_ | (injection ea_ with ea_; subst ea_)); subst ec_; clear en_))
          have GB25 := Aside0.mk gb25; have GG25 := Aside0.mk HG25; clear gb25 gl25 HG25; (first | simp only [add_plain] at hx213_0 | skip)
          (first | simp only [add_plain] at hx214_0 | skip)
          obtain ⟨hx25_0, hf25_0⟩ := Kd.R_celln 0 HO_13.out (x46_2 : Int) p25 q25; replace p25 := eq_true p25; replace q25 := eq_true q25; have HP26 := Kd.R_putg HO_13.out (x46_2 : Int) (Int.tmod (wrap64 ((Int.tmod (rd x13_2 x46_2) (wrap64 (8 * (l0.length : Int)))) + (wrap64 (8 * (l0.length : Int))))) (wrap64 (8 * (l0.length : Int)))); go_wp2_with (first | ((with_reducible refine gate_store (t := 3) (p := 78) rfl ?_); refine store_event (t := 3) (p := 78) (v := ?vo_w27) (w1 := (wr.setCell ⟨go25, (x46_2 : Int).toNat, none⟩ (.int .i64 (Int.tmod (wrap64 ((Int.tmod (rd x13_2 x46_2) (wrap64 (8 * (l0.length : Int)))) + (wrap64 (8 * (l0.length : Int))))) (wrap64 (8 * (l0.length : Int))))))) ?hg ?ho ?hn ?hr ?_; (case ho => rfl); (case hg => rfl); (case hn => rfl); (case hr => first | (go_simp; done) | (go_simp; rfl)); intro w27 hw; have hg : wr.grownBy w27 (some go25) := (by rw [hw]; exact HP26.2); have hp_ : Kd.R (Kd.int .i64) 3 w27 w.heap.size (fun k_ => (w.heap.size ≤ k_)) (.slice (some ⟨go25, 0, none⟩) x13_2.length co18) y215 := (by rw [hw, Ny215.out]; exact HP26.1); clear HP26; have n0_ := Aside0.mk (Kd.V_afterv (v := (.slice (some ⟨go25, 0, none⟩) x13_2.length co18)) (v1 := (.slice (some ⟨go25, 0, none⟩) x13_2.length co18)) (ok := (fun k_ => (P2_ k_ ∨ w.heap.size ≤ k_) ∧ k_ ≠ gb208)) (by (with_reducible repeat (first | apply Kd.V_alloc | apply Kd.V_drewN | apply Kd.V_drew)); exact Kd.V_mono HO_2.out (fun _ hk => ⟨⟨hk.1, hk.2.2⟩, hk.2.1⟩)) hg (.inl rfl)); have n1_ := Aside0.mk (hp_); have n2_ := Aside0.mk (blk_grown (g := gb208) (o := .cells #[.int .i64 a5_0, .int .i64 a5_1, .slice A5_2 l5_2.length c5_2, .slice A5_3 l5_3.length c5_3, .slice A5_4 l5_4.length c5_4, .slice A5_5 l5_5.length c5_5, .slice A5_6 l5_6.length c5_6, .bool a5_7] 31 (0, 0)) (bk_ BK208.out) hg (Kd.R_ne HO_13.out BK208.out (by decide))); have n3_ := Aside0.mk ((by rw [hw]; exact below_set (HB.out) GB25.out : Below w.heap.size w w27)); clear HO_2 HO_13 BK208 HB; revert n0_ n1_ n2_ n3_; intro HO_2 HO_13 BK208 HB; clear hg hw hp_))
          (try simp only [← hl13_2])
          go_roundg k2
          case measure => have := HJ6.out; have := HK2.out; omega
          case rel => exact ⟨(y215), (wrap64 (x46_2 + 1)), rf_, H', ⟨by have := HJ6.out; have := HK2.out; omega⟩, ⟨by (try simp only [hl13_2]); (with_reducible repeat (first | apply Kd.V_alloc | apply Kd.V_drewN | apply Kd.V_drew)); exact Kd.V_mono HO_2.out (fun _ hk => ⟨hk.1.1, ⟨hk.2, hk.1.2⟩⟩)⟩, ⟨by (try simp only [hl13_2]); (with_reducible repeat (first | apply Kd.R_alloc | apply Kd.R_drewN | apply Kd.R_drew)); exact HO_13.out⟩, ⟨by (try simp only [hl13_2]); (with_reducible repeat (first | refine blk_drewN ?_ _ | refine blk_drew ?_ | refine blk_alloc ?_ _)); exact BK208.out⟩, ⟨(hb1_ HB.out GE208.out)⟩⟩
         ·
          rw [if_neg c23] at H; have c23b0 : decide (0 < (l0.length : Int)) = false := decide_eq_false c23; (try (have c23r0 := c23b0; simp only [hl13_2] at c23r0))
          have c23b1 : decide (0 < l0.length) = false := decide_eq_false (by omega); (try (have c23r1 := c23b1; simp only [hl13_2] at c23r1))
          clear c23; have H' := Aside0.mk H; clear H; have p213 : 0 ≤ (x46_2 : Int) := od_; have q213 : x46_2 < (x13_2.length : Int) := od_; obtain ⟨ad213, e213, hx213_0⟩ := Kd.at_int (Kd.R_reads' HO_13.out).2.2 x46_2 p213 q213; cases e213; replace p213 := eq_true p213; replace q213 := eq_true q213; go_wp2
          (try simp only [← hl13_2])
          go_roundg k2
          case measure => have := HJ6.out; have := HK2.out; omega
          case rel => exact ⟨(x13_2), (wrap64 (x46_2 + 1)), rf_, H', ⟨by have := HJ6.out; have := HK2.out; omega⟩, ⟨by (try simp only [hl13_2]); (with_reducible repeat (first | apply Kd.V_alloc | apply Kd.V_drewN | apply Kd.V_drew)); exact HO_2.out⟩, ⟨by (try simp only [hl13_2]); (with_reducible repeat (first | apply Kd.R_alloc | apply Kd.R_drewN | apply Kd.R_drew)); exact HO_13.out⟩, ⟨by (try simp only [hl13_2]); (with_reducible repeat (first | refine blk_drewN ?_ _ | refine blk_drew ?_ | refine blk_alloc ?_ _)); exact BK208.out⟩, ⟨(hb1_ HB.out GE208.out)⟩⟩
       ·
        rw [if_neg c19] at H; have c19b0 : decide (x46_2 < (y210.length : Int)) = false := decide_eq_false c19; (try (have c19r0 := c19b0; simp only [hl13_2] at c19r0))
        clear c19; replace H := Option.bind_eq_some_iff.mp H; obtain ⟨⟨t216, t217⟩, A280, H⟩ := H; try dsimp only at H
        have A28 := Aside0.mk A280; clear A280; replace H := Option.bind_eq_some_iff.mp H; obtain ⟨⟨t220, t221⟩, A290, H⟩ := H; try dsimp only at H
        have A29 := Aside0.mk A290; clear A290; obtain ⟨y224, hy224⟩ : ∃ y_ : List (List Int), y_ = (([l2, x13_2] : List (List Int))) := ⟨_, rfl⟩; replace H : (law15_MaskLooks.l1 k2 l0 l1 a4 (Int.tmod a3 400) t216 t217 t220 t221 y224 (y224.length : Int) 0 a5_0 a5_1 l5_2 l5_3 l5_4 l5_5 l5_6 a5_7) = some r := by first | (rw [hy224]; with_reducible exact H) | (have H2_ := (Option.bind_some _ _).symm.trans H; rw [hy224]; with_reducible exact H2_) | (have H2_ := (Option.bind_some _ _).symm.trans H; with_reducible exact H2_) | with_reducible exact H | (rw [hy224]; exact H) | exact H
        have Ny224 := Aside0.mk hy224; clear hy224; have H' := Aside0.mk H; clear H; go_wp2_with (first | ((with_reducible refine gate_callee (f := 44) rfl ?_); refine goesL_ (some 86) rfl rfl Try.func44 (by kernel_rfl) rfl #[.slice A0 l0.length c0, .int .i64 (Int.tmod a3 40)] rfl lm_ ?_; (with_reducible refine (mask_Bits.calls k2 _ _ l0 (Int.tmod a3 40) t216 t217 _ ?side1 ?side2 A28.out).mono ?_); (case side1 => exact kD_ (Kd.C_below HR0.out HB.out)); (case side2 => exact HC0.out); rintro e w30 ⟨v218, rfl, ho0, hb⟩; refine ⟨_, rfl, ?_⟩; have n0_ := Aside0.mk (Kd.V_elder' (kV_ HO_2.out) (Kd.R_base ho0) hb); have n1_ := Aside0.mk (Kd.R_elder' (kR_ HO_13.out) (Kd.R_base ho0) hb); have n2_ := Aside0.mk (Kd.R_lower (Kd.R_new' (Kd.R_newM (M := fun k_ => (w.heap.size ≤ k_)) ho0 (below_size (hb1_ HB.out GE208.out)) (fun k_ h_ => h_)) (Kd.R_lt (kR_ HO_13.out))) (below_size (hb1_ HB.out GE208.out))); have n3_ := Aside0.mk (bb_ BK208.out hb); have n4_ := Aside0.mk (below_step (hb1_ HB.out GE208.out) hb); clear HO_2 HO_13 BK208 HB; revert n0_ n1_ n2_ n3_ n4_; intro HO_2 HO_13 HO219 BK208 HB; (try clear hb); (try clear hb2); (try clear hk); (try clear hi); (try clear ho0)) | ((with_reducible refine gate_callee (f := 52) rfl ?_); refine goesL_ (some 93) rfl rfl Try.func52 (by kernel_rfl) rfl #[.slice A0 l0.length c0, .int .i64 (Int.tmod a3 40)] rfl lm_ ?_; (with_reducible refine (ref15_Bits.calls k2 _ _ l0 (Int.tmod a3 40) t220 t221 _ ?side1 ?side2 A29.out).mono ?_); (case side1 => exact kD_ (Kd.C_below HR0.out HB.out)); (case side2 => exact HC0.out); rintro e w31 ⟨v222, rfl, ho0, hb⟩; refine ⟨_, rfl, ?_⟩; have n0_ := Aside0.mk (Kd.V_elder' (kV_ HO_2.out) (Kd.R_base ho0) hb); have n1_ := Aside0.mk (Kd.R_elder' (kR_ HO_13.out) (Kd.R_base ho0) hb); have n2_ := Aside0.mk (Kd.R_elder' (kR_ HO219.out) (Kd.R_base ho0) hb); have n3_ := Aside0.mk (Kd.R_lower (Kd.R_new' (Kd.R_new' (Kd.R_newM (M := fun k_ => (w.heap.size ≤ k_)) ho0 (below_size (hb1_ HB.out GE208.out)) (fun k_ h_ => h_)) (Kd.R_lt (kR_ HO_13.out))) (Kd.R_lt (kR_ HO219.out))) (below_size (hb1_ HB.out GE208.out))); have n4_ := Aside0.mk (bb_ BK208.out hb); have n5_ := Aside0.mk (below_step (hb1_ HB.out GE208.out) hb); clear HO_2 HO_13 HO219 BK208 HB; revert n0_ n1_ n2_ n3_ n4_ n5_; intro HO_2 HO_13 HO219 HO223 BK208 HB; (try clear hb); (try clear hb2); (try clear hk); (try clear hi); (try clear ho0)) | ((with_reducible refine gate_dst (N := 98) rfl ?_); (try (refine gate_guard (by rfl) ?_; dsimp only)); refine Kd.N_lit (Kd.slice 3 (Kd.int .i64)) _ 23 ?hg (N' := 98) ?hd (xs := ([l2, x13_2] : List (List Int))) (inner := [.slice A2 l2.length c2, .slice Ao18 x13_2.length co18]) (ok := (fun k_ => (P2_ k_ ∨ w.heap.size ≤ k_) ∧ some k_ ≠ (v218 : Value).ownBlock ∧ some k_ ≠ (v222 : Value).ownBlock ∧ k_ ≠ gb208)) (okp := (fun k_ => (P2_ k_ ∨ w.heap.size ≤ k_) ∧ some k_ ≠ (v218 : Value).ownBlock ∧ some k_ ≠ (v222 : Value).ownBlock ∧ k_ ≠ gb208)) ?hr ?hp (fun _ hk => hk) ((show ∀ k_, w31.heap.size ≤ k_ → (fun k_ => (P2_ k_ ∨ w.heap.size ≤ k_) ∧ some k_ ≠ (v218 : Value).ownBlock ∧ some k_ ≠ (v222 : Value).ownBlock ∧ k_ ≠ gb208) k_ from fun k_ hk => ⟨(.inr (Nat.le_trans (below_size (hb1_ HB.out GE208.out)) hk)), Kd.fresh' (Kd.R_lt (kR_ HO219.out)) k_ hk, Kd.fresh' (Kd.R_lt (kR_ HO223.out)) k_ hk, fB_ BK208.out k_ hk⟩) _ (Nat.le_refl _)) (Below.refl _ _) (Nat.le_refl _) (by simp) ?_; (case hd => rfl); (case hg => rfl); (case hr => first | (go_simp; done) | (go_simp; rfl)); (case hp => exact (Reps.one (show Kd.FK (Kd.slice 3 (Kd.int .i64)) _ _ l2 [.slice A2 l2.length c2] from (Kd.FK_slice_mk (Kd.V_reads' (Kd.V_mono (ok' := (fun k_ => (P2_ k_ ∨ w.heap.size ≤ k_) ∧ some k_ ≠ (v218 : Value).ownBlock ∧ some k_ ≠ (v222 : Value).ownBlock ∧ k_ ≠ gb208)) (HO_2.out) (fun k_ hk => ⟨hk.1.1.1, ⟨hk.1.2, ⟨hk.2, hk.1.1.2.2⟩⟩⟩))).2.1 (Kd.V_F (Kd.V_mono (ok' := (fun k_ => (P2_ k_ ∨ w.heap.size ≤ k_) ∧ some k_ ≠ (v218 : Value).ownBlock ∧ some k_ ≠ (v222 : Value).ownBlock ∧ k_ ≠ gb208)) (HO_2.out) (fun k_ hk => ⟨hk.1.1.1, ⟨hk.1.2, ⟨hk.2, hk.1.1.2.2⟩⟩⟩))))) (Reps.one (show Kd.FK (Kd.slice 3 (Kd.int .i64)) _ _ x13_2 [.slice Ao18 x13_2.length co18] from (Kd.FK_slice_mk (Kd.R_reads' (Kd.R_mono (ok' := (fun k_ => (P2_ k_ ∨ w.heap.size ≤ k_) ∧ some k_ ≠ (v218 : Value).ownBlock ∧ some k_ ≠ (v222 : Value).ownBlock ∧ k_ ≠ gb208)) (Kd.R_types (HO_13.out) BK208.out (by decide)) (fun k_ hk => ⟨(.inr (hk.1.1.1)), ⟨hk.1.1.2, ⟨hk.1.2, hk.2⟩⟩⟩))).2.1 (Kd.R_F (Kd.R_mono (ok' := (fun k_ => (P2_ k_ ∨ w.heap.size ≤ k_) ∧ some k_ ≠ (v218 : Value).ownBlock ∧ some k_ ≠ (v222 : Value).ownBlock ∧ k_ ≠ gb208)) (Kd.R_types (HO_13.out) BK208.out (by decide)) (fun k_ hk => ⟨(.inr (hk.1.1.1)), ⟨hk.1.1.2, ⟨hk.1.2, hk.2⟩⟩⟩))))) (Reps.none _ _)))); intro v225 w32 ho33 hb hg_ hnew_; clear hg_ hnew_; (first | rw [← Ny224.out] at ho33 | (simp only [Int.reduceToNat] at ho33; rw [← Ny224.out] at ho33)); have n0_ := Aside0.mk (Kd.V_elder' (kV_ HO_2.out) (Kd.N_base ho33) hb); have n1_ := Aside0.mk (Kd.R_below (kR_ HO219.out) hb); have n2_ := Aside0.mk (Kd.R_below (kR_ HO223.out) hb); have n3_ := Aside0.mk (Kd.N_lower ho33 (below_size (hb1_ HB.out GE208.out))); have n4_ := Aside0.mk (bb_ BK208.out hb); have n5_ := Aside0.mk (below_step (hb1_ HB.out GE208.out) hb); clear HO_2 HO219 HO223 BK208 HB HO_13; revert n0_ n1_ n2_ n3_ n4_ n5_; intro HO_2 HO219 HO223 HO226 BK208 HB; clear hb ho33; obtain ⟨Ao34, co34, eo34⟩ := Kd.N_slice HO226.out; subst eo34))
        go_loopg [100] k2 (fun kq v100 w' => ∃ (x100_3 : Int), v100 = .int .i64 x100_3 ∧ Aside0 (law15_MaskLooks.l1 kq l0 l1 a4 (Int.tmod a3 400) t216 t217 t220 t221 y224 (y224.length : Int) x100_3 a5_0 a5_1 l5_2 l5_3 l5_4 l5_5 l5_6 a5_7 = some r) ∧ Aside0 (kq ≤ k2) ∧ Aside0 (Kd.R (Kd.int .i64) 3 w' w.heap.size (fun k_ => (w.heap.size ≤ k_) ∧ some k_ ≠ (v222 : Value).ownBlock) v218 t216) ∧ Aside0 (Kd.R (Kd.int .i64) 3 w' w.heap.size (fun k_ => (w.heap.size ≤ k_) ∧ some k_ ≠ (v218 : Value).ownBlock) v222 t220) ∧ Aside0 (Kd.N (Kd.slice 3 (Kd.int .i64)) 23 w' w.heap.size (fun k_ => (P2_ k_ ∨ w.heap.size ≤ k_) ∧ some k_ ≠ (v218 : Value).ownBlock ∧ some k_ ≠ (v222 : Value).ownBlock ∧ k_ ≠ gb208) (.slice Ao34 y224.length co34) y224) ∧ Aside0 (w'.heap[gb208]? = some (.cells #[.int .i64 a5_0, .int .i64 a5_1, (.slice A5_2 l5_2.length c5_2), (.slice A5_3 l5_3.length c5_3), (.slice A5_4 l5_4.length c5_4), (.slice A5_5 l5_5.length c5_5), (.slice A5_6 l5_6.length c5_6), .bool a5_7] 31 (0, 0))) ∧ Aside0 (Below w.heap.size w w'))
        case atStart => exact ⟨(0), rf_, H', ⟨Nat.le_refl _⟩, ⟨by (try simp only [hl13_2]); (with_reducible repeat (first | apply Kd.R_alloc | apply Kd.R_drewN | apply Kd.R_drew)); exact Kd.R_mono HO219.out (fun _ hk => ⟨hk.1.1.1, hk.2⟩)⟩, ⟨by (try simp only [hl13_2]); (with_reducible repeat (first | apply Kd.R_alloc | apply Kd.R_drewN | apply Kd.R_drew)); exact Kd.R_mono HO223.out (fun _ hk => ⟨hk.1.1.1, hk.2⟩)⟩, ⟨by (try simp only [hl13_2]); (with_reducible repeat (first | apply Kd.N_alloc | apply Kd.N_drewN | apply Kd.N_drew)); exact HO226.out⟩, ⟨by (try simp only [hl13_2]); (with_reducible repeat (first | refine blk_drewN ?_ _ | refine blk_drew ?_ | refine blk_alloc ?_ _)); exact BK208.out⟩, ⟨(hb1_ HB.out GE208.out)⟩⟩
        case round =>
         clear H'; try clear c1
         try clear c2
         try clear p2
         try clear q2
         try clear hx2
         try clear c4
         try clear c5
         try clear p6
         try clear c9
         try clear c9b0
         try clear c9b1
         try clear c10
         try clear c10b0
         try clear c10b1
         try clear c11
         try clear c11b0
         try clear c11b1
         try clear c13
         try clear c16
         try clear c19
         try clear c19b0
         try clear c20
         try clear c20b0
         try clear c21
         try clear c21b0
         try clear p21
         try clear q21
         try clear hx21
         try clear c22
         try clear c22b0
         try clear c22b1
         try clear c23
         try clear c23b0
         try clear c23b1
         try clear c24
         try clear c24b0
         try clear c24b1
         try clear p25
         try clear q25
         try clear hx25
         try clear hf25
         try clear hcz12_0
         try clear hcz12_1
         try clear hcz12_2
         try clear hcz12_3
         try clear hcz12_4
         try clear hcz12_5
         try clear hcz12_6
         try clear hcz12_7
         try clear hfz12_0
         try clear hfz12_1
         try clear hfz12_2
         try clear hfz12_3
         try clear hfz12_4
         try clear hfz12_5
         try clear hfz12_6
         try clear hfz12_7
         try clear hx213_0
         try clear hx214_0
         try clear hx25_0
         try clear p2
         try clear p213
         try clear p214
         try clear p25
         try clear q213
         try clear q214
         try clear q25
         obtain ⟨x100_3, rfl, HA, HK3, HO_16, HO_18, HO_98, BK208, HB⟩ := hrel; cases gk with
         | zero => exact absurd HA.out (by simp [law15_MaskLooks.l1])
         | succ k3 =>
          have H := HA.out; clear HA; simp only [law15_MaskLooks.l1] at H; by_cases c35 : x100_3 < (y224.length : Int)
          ·
           rw [if_pos c35] at H; have c35b0 : decide (x100_3 < (y224.length : Int)) = true := decide_eq_true c35; (try (have c35r0 := c35b0; simp only [hl13_2] at c35r0))
           clear c35; by_cases c36 : 0 ≤ x100_3
           rotate_left
           ·
            rw [if_neg c36] at H; exact absurd H (by simp)
           rw [if_pos c36] at H; have c36b0 : decide (0 ≤ x100_3) = true := decide_eq_true c36; clear c36; by_cases c37 : x100_3 < (y224.length : Int)
           rotate_left
           ·
            rw [if_neg c37] at H; exact absurd H (by simp)
           rw [if_pos c37] at H; have c37b0 : decide (x100_3 < (y224.length : Int)) = true := decide_eq_true c37; (try (have c37r0 := c37b0; simp only [hl13_2] at c37r0))
           clear c37; replace H := Option.bind_eq_some_iff.mp H; obtain ⟨t228, A380, H⟩ := H; try dsimp only at H
           have A38 := Aside0.mk A380; clear A380; replace H := Option.bind_eq_some_iff.mp H; obtain ⟨t231, A390, H⟩ := H; try dsimp only at H
           have A39 := Aside0.mk A390; clear A390; by_cases c40 : (strOfNums t228).toList = (strOfNums t231).toList
           rotate_left
           ·
            rw [if_neg c40] at H; have c40b0 : ((strOfNums t228).toList == (strOfNums t231).toList) = false := beq_eq_false_iff_ne.mpr c40; have c40b1 : ((strOfNums t228).toList != (strOfNums t231).toList) = true := bne_iff_ne.mpr c40; exact absurd ((Option.some.inj H).trans hr_) (by decide)
           rw [if_pos c40] at H; have c40b0 : ((strOfNums t228).toList == (strOfNums t231).toList) = true := beq_iff_eq.mpr c40; have c40b1 : ((strOfNums t228).toList != (strOfNums t231).toList) = false := bne_eq_false_iff_eq.mpr c40; clear c40; replace H := Option.bind_eq_some_iff.mp H; obtain ⟨t234, A410, H⟩ := H; try dsimp only at H
           have A41 := Aside0.mk A410; clear A410; replace H := Option.bind_eq_some_iff.mp H; obtain ⟨t237, A420, H⟩ := H; try dsimp only at H
           have A42 := Aside0.mk A420; clear A420; by_cases c43 : (strOfNums t234).toList = (strOfNums t237).toList
           rotate_left
           ·
            rw [if_neg c43] at H; have c43b0 : ((strOfNums t234).toList == (strOfNums t237).toList) = false := beq_eq_false_iff_ne.mpr c43; have c43b1 : ((strOfNums t234).toList != (strOfNums t237).toList) = true := bne_iff_ne.mpr c43; exact absurd ((Option.some.inj H).trans hr_) (by decide)
           rw [if_pos c43] at H; have c43b0 : ((strOfNums t234).toList == (strOfNums t237).toList) = true := beq_iff_eq.mpr c43; have c43b1 : ((strOfNums t234).toList != (strOfNums t237).toList) = false := bne_eq_false_iff_eq.mpr c43; clear c43; replace H := Option.bind_eq_some_iff.mp H; obtain ⟨t240, A440, H⟩ := H; try dsimp only at H
           have A44 := Aside0.mk A440; clear A440; replace H := Option.bind_eq_some_iff.mp H; obtain ⟨t241, A450, H⟩ := H; try dsimp only at H
           have A45 := Aside0.mk A450; clear A450; by_cases c46 : t240 = t241
           rotate_left
           ·
            rw [if_neg c46] at H; have c46b0 : (t240 == t241) = false := beq_eq_false_iff_ne.mpr c46; have c46b1 : (t240 != t241) = true := bne_iff_ne.mpr c46; exact absurd ((Option.some.inj H).trans hr_) (by decide)
           rw [if_pos c46] at H; have c46b0 : (t240 == t241) = true := beq_iff_eq.mpr c46; have c46b1 : (t240 != t241) = false := bne_eq_false_iff_eq.mpr c46; clear c46; have H' := Aside0.mk H; clear H; have p227 : 0 ≤ (x100_3 : Int) := od_; have q227 : x100_3 < (y224.length : Int) := od_; obtain ⟨ad227, A227_0, c227_0, e227, hx227_0, hl227_0, hi227_0⟩ := at_L5 (Kd.N_reads' HO_98.out).2.2 x100_3 p227 q227; cases e227; obtain ⟨ce227, hce227, hMe227, hcc227⟩ := Kd.N_get HO_98.out [] x100_3 p227 (by first | exact q227 | exact od_ | (have e_ := (Kd.N_reads' HO_98.out).1; omega)); obtain ⟨ua227_0, uc227_0, rfl, ul227_0, ge227_0⟩ := Kd.FK_slice_open hMe227; have hv227_0 := hcc227 0 _ rfl; rw [Nat.add_zero, show ((Kd.slice 3 (Kd.int .i64))).sz = 1 from rfl, Nat.mul_one] at hv227_0; replace hv227_0 := Option.some.inj (hv227_0.symm.trans hx227_0); injection hv227_0 with hva_ hvn_ hvc_; rw [hva_] at ge227_0; rw [hvc_] at ul227_0; have HL227_0 := Aside0.mk (show Kd.V (Kd.int .i64) 3 _ w.heap.size _ _ (rd_L5 y224 x100_3) from Kd.V_mk ul227_0 ge227_0); clear hva_ hvn_ hvc_ ge227_0 ul227_0; clear hcc227 hce227; have HR227_0 := Aside0.mk hi227_0; have HC227_0 := Aside0.mk hl227_0; clear hi227_0 hl227_0; replace p227 := eq_true p227; replace q227 := eq_true q227; try go_wp2
           have n0_ := Aside0.mk (Kd.R_drew HO_16.out); have n1_ := Aside0.mk (Kd.R_drew HO_18.out); have n2_ := Aside0.mk (Kd.N_drew HO_98.out); have n3_ := Aside0.mk (Kd.V_drew HL227_0.out); have n4_ := Aside0.mk (blk_drew BK208.out); have n5_ := Aside0.mk (Kd.C_drew HR227_0.out); have n6_ := Aside0.mk (below_drew1 HB.out); clear HO_16; clear HO_18; clear HO_98; clear HL227_0; clear BK208; clear HR227_0; clear HB; revert n0_ n1_ n2_ n3_ n4_ n5_ n6_; intro HO_16 HO_18 HO_98 HL227_0 BK208 HR227_0 HB; refine start_ (n := 31) (S := fun w' => True) (ds := []) (mk_ 0 31) (by kernel_rfl) rfl rfl trivial (fun hHeld => ?_); refine with_tabW law15_MaskLooks.tab16 law15_MaskLooks.bits16 (fun HT_ HW_ => ?_); generalize wr.drew = w47 at HO_16 HO_18 HO_98 HL227_0 BK208 HR227_0 HB hHeld ⊢; refine pu_ 0 (some 104) (mk_ 1 31) HT_ ?_; refine pu_ 1 (some 105) (mk_ 2 31) HT_ ?_; refine pu_ 4 (some 108) (bm_ 31 19) HT_ ?_; refine pu_ 5 (some 109) (bm_ 31 51) HT_ ?_; refine one_ (i := 2) (N := some 106) (bm_ 31 55) rfl rfl (one_of HT_.out (by kernel_rfl)) (by decide) (fun K hK => ?_); refine goes_ Try.func49 (by kernel_rfl) rfl #[.slice A0 l0.length c0, .slice A227_0 (rd_L5 y224 x100_3).length c227_0] (by rfl) rfl rfl lm_ ?_; with_reducible refine (mask_Clear.calls k3 _ _ l0 _ _ (rd_L5 y224 x100_3) t228 _ ?side1 ?side2 ?side3 ?side4 A38.out).mono ?_
           (case side1 => exact kD_ (Kd.C_below HR0.out HB.out))
           (case side2 => exact HC0.out)
           (case side3 => exact kD_ HR227_0.out)
           (case side4 => exact HC227_0.out)
           rintro e w48 ⟨v229, rfl, ho0, hb⟩; refine ⟨_, rfl, ?_⟩; have n0_ := Aside0.mk (Kd.R_below (kR_ HO_16.out) hb); have n1_ := Aside0.mk (Kd.R_below (kR_ HO_18.out) hb); have n2_ := Aside0.mk (Kd.N_elder' (kN_ HO_98.out) (Kd.R_base ho0) hb); have n3_ := Aside0.mk (Kd.V_elder' (kV_ HL227_0.out) (Kd.R_base ho0) hb); have n4_ := Aside0.mk (Kd.R_lower (Kd.R_newM (M := fun k_ => (w.heap.size ≤ k_)) ho0 (below_size (hb1_ HB.out GE208.out)) (fun k_ h_ => h_)) (below_size (hb1_ HB.out GE208.out))); have n5_ := Aside0.mk (bb_ BK208.out hb); have n6_ := Aside0.mk (Kd.C_below (kC_ HR227_0.out) hb); have n7_ := Aside0.mk (below_step (hb1_ HB.out GE208.out) hb); clear HO_16; clear HO_18; clear HO_98; clear HL227_0; clear BK208; clear HR227_0; clear HB; revert n0_ n1_ n2_ n3_ n4_ n5_ n6_ n7_; intro HO_16 HO_18 HO_98 HL227_0 HO230 BK208 HR227_0 HB; (try clear hb)
           (try clear hb2)
           (try clear hk)
           (try clear hi)
           (try clear ho0)
           refine hK.out _ _ trivial (fun hHeld => ?_); clear hK K; refine norm_ (a' := ?_) ?_ ?_; rotate_left
           ·
            show Act.put _ (some 106) _ = _
            simp only [Act.put, setIfInBounds_toArray, set_cons_zero, set_cons_succ, i64_w, i32_w]; rfl
           refine join_ (σ := Value × Value × Value) 11 (mk_ 20 31) (fun s_ => [(107, .string (strOfNums t228)), (110, s_.1), (111, .string (strOfNums t231)), (117, s_.2.1), (118, .string (strOfNums t234)), (122, s_.2.2), (123, .string (strOfNums t237)), (112, .bool false), (113, .bool false), (114, .slice A0 l0.length c0), (115, .slice A227_0 (rd_L5 y224 x100_3).length c227_0), (116, .int .i64 a4), (119, .slice A0 l0.length c0), (120, .slice A227_0 (rd_L5 y224 x100_3).length c227_0), (121, .int .i64 a4)]) (fun s_ w' => (Kd.V (Kd.int .i64) 3 w' w.heap.size (fun k_ => (P2_ k_ ∨ w.heap.size ≤ k_) ∧ some k_ ≠ (v229 : Value).ownBlock ∧ some k_ ≠ (s_.1 : Value).ownBlock ∧ some k_ ≠ (s_.2.1 : Value).ownBlock ∧ some k_ ≠ (s_.2.2 : Value).ownBlock ∧ some k_ ≠ (v218 : Value).ownBlock ∧ some k_ ≠ (v222 : Value).ownBlock ∧ some k_ ≠ (.slice (some ad227) y224.length co34 : Value).ownBlock ∧ k_ ≠ gb208) (.slice A227_0 (rd_L5 y224 x100_3).length c227_0) (rd_L5 y224 x100_3)) ∧ (Kd.R (Kd.int .u8) 5 w' w.heap.size (fun k_ => (w.heap.size ≤ k_) ∧ some k_ ≠ (s_.1 : Value).ownBlock ∧ some k_ ≠ (s_.2.1 : Value).ownBlock ∧ some k_ ≠ (s_.2.2 : Value).ownBlock) v229 t228) ∧ (Kd.R (Kd.int .u8) 5 w' w.heap.size (fun k_ => (w.heap.size ≤ k_) ∧ some k_ ≠ (v229 : Value).ownBlock ∧ some k_ ≠ (s_.2.1 : Value).ownBlock ∧ some k_ ≠ (s_.2.2 : Value).ownBlock) s_.1 t231) ∧ (Kd.R (Kd.int .u8) 5 w' w.heap.size (fun k_ => (w.heap.size ≤ k_) ∧ some k_ ≠ (v229 : Value).ownBlock ∧ some k_ ≠ (s_.1 : Value).ownBlock ∧ some k_ ≠ (s_.2.2 : Value).ownBlock) s_.2.1 t234) ∧ (Kd.R (Kd.int .u8) 5 w' w.heap.size (fun k_ => (w.heap.size ≤ k_) ∧ some k_ ≠ (v229 : Value).ownBlock ∧ some k_ ≠ (s_.1 : Value).ownBlock ∧ some k_ ≠ (s_.2.1 : Value).ownBlock) s_.2.2 t237) ∧ (Kd.R (Kd.int .i64) 3 w' w.heap.size (fun k_ => (w.heap.size ≤ k_) ∧ some k_ ≠ (v222 : Value).ownBlock) v218 t216) ∧ (Kd.R (Kd.int .i64) 3 w' w.heap.size (fun k_ => (w.heap.size ≤ k_) ∧ some k_ ≠ (v218 : Value).ownBlock) v222 t220) ∧ (Kd.N (Kd.slice 3 (Kd.int .i64)) 23 w' w.heap.size (fun k_ => (P2_ k_ ∨ w.heap.size ≤ k_) ∧ some k_ ≠ (v229 : Value).ownBlock ∧ some k_ ≠ (s_.1 : Value).ownBlock ∧ some k_ ≠ (s_.2.1 : Value).ownBlock ∧ some k_ ≠ (s_.2.2 : Value).ownBlock ∧ some k_ ≠ (v218 : Value).ownBlock ∧ some k_ ≠ (v222 : Value).ownBlock ∧ k_ ≠ gb208) (.slice (some ad227) y224.length co34) y224) ∧ (w'.heap[gb208]? = some (.cells #[.int .i64 a5_0, .int .i64 a5_1, .slice A5_2 l5_2.length c5_2, .slice A5_3 l5_3.length c5_3, .slice A5_4 l5_4.length c5_4, .slice A5_5 l5_5.length c5_5, .slice A5_6 l5_6.length c5_6, .bool a5_7] 31 (0, 0))) ∧ (Below w.heap.size w w')) ?_ ?_; rotate_left
           ·
            intro hJ3_6_7_13_14_18_19; refine join_ (σ := Value × Value × Value) 12 (mk_ 19 31) (fun s_ => [(107, .string (strOfNums t228)), (110, s_.1), (111, .string (strOfNums t231)), (117, s_.2.1), (118, .string (strOfNums t234)), (122, s_.2.2), (112, .bool false), (113, .bool false), (114, .slice A0 l0.length c0), (115, .slice A227_0 (rd_L5 y224 x100_3).length c227_0), (116, .int .i64 a4), (119, .slice A0 l0.length c0), (120, .slice A227_0 (rd_L5 y224 x100_3).length c227_0), (121, .int .i64 a4)]) (fun s_ w' => (Kd.V (Kd.int .i64) 3 w' w.heap.size (fun k_ => (P2_ k_ ∨ w.heap.size ≤ k_) ∧ some k_ ≠ (v229 : Value).ownBlock ∧ some k_ ≠ (s_.1 : Value).ownBlock ∧ some k_ ≠ (s_.2.1 : Value).ownBlock ∧ some k_ ≠ (s_.2.2 : Value).ownBlock ∧ some k_ ≠ (v218 : Value).ownBlock ∧ some k_ ≠ (v222 : Value).ownBlock ∧ some k_ ≠ (.slice (some ad227) y224.length co34 : Value).ownBlock ∧ k_ ≠ gb208) (.slice A227_0 (rd_L5 y224 x100_3).length c227_0) (rd_L5 y224 x100_3)) ∧ (Kd.R (Kd.int .u8) 5 w' w.heap.size (fun k_ => (w.heap.size ≤ k_) ∧ some k_ ≠ (s_.1 : Value).ownBlock ∧ some k_ ≠ (s_.2.1 : Value).ownBlock ∧ some k_ ≠ (s_.2.2 : Value).ownBlock) v229 t228) ∧ (Kd.R (Kd.int .u8) 5 w' w.heap.size (fun k_ => (w.heap.size ≤ k_) ∧ some k_ ≠ (v229 : Value).ownBlock ∧ some k_ ≠ (s_.2.1 : Value).ownBlock ∧ some k_ ≠ (s_.2.2 : Value).ownBlock) s_.1 t231) ∧ (Kd.R (Kd.int .u8) 5 w' w.heap.size (fun k_ => (w.heap.size ≤ k_) ∧ some k_ ≠ (v229 : Value).ownBlock ∧ some k_ ≠ (s_.1 : Value).ownBlock ∧ some k_ ≠ (s_.2.2 : Value).ownBlock) s_.2.1 t234) ∧ (Kd.R (Kd.int .u8) 5 w' w.heap.size (fun k_ => (w.heap.size ≤ k_) ∧ some k_ ≠ (v229 : Value).ownBlock ∧ some k_ ≠ (s_.1 : Value).ownBlock ∧ some k_ ≠ (s_.2.1 : Value).ownBlock) s_.2.2 t237) ∧ (Kd.R (Kd.int .i64) 3 w' w.heap.size (fun k_ => (w.heap.size ≤ k_) ∧ some k_ ≠ (v222 : Value).ownBlock) v218 t216) ∧ (Kd.R (Kd.int .i64) 3 w' w.heap.size (fun k_ => (w.heap.size ≤ k_) ∧ some k_ ≠ (v218 : Value).ownBlock) v222 t220) ∧ (Kd.N (Kd.slice 3 (Kd.int .i64)) 23 w' w.heap.size (fun k_ => (P2_ k_ ∨ w.heap.size ≤ k_) ∧ some k_ ≠ (v229 : Value).ownBlock ∧ some k_ ≠ (s_.1 : Value).ownBlock ∧ some k_ ≠ (s_.2.1 : Value).ownBlock ∧ some k_ ≠ (s_.2.2 : Value).ownBlock ∧ some k_ ≠ (v218 : Value).ownBlock ∧ some k_ ≠ (v222 : Value).ownBlock ∧ k_ ≠ gb208) (.slice (some ad227) y224.length co34) y224) ∧ (w'.heap[gb208]? = some (.cells #[.int .i64 a5_0, .int .i64 a5_1, .slice A5_2 l5_2.length c5_2, .slice A5_3 l5_3.length c5_3, .slice A5_4 l5_4.length c5_4, .slice A5_5 l5_5.length c5_5, .slice A5_6 l5_6.length c5_6, .bool a5_7] 31 (0, 0))) ∧ (Below w.heap.size w w')) ?_ ?_; rotate_left
            ·
             intro hJ3_6_7_13_14_18; refine join_ (σ := Value × Value × Value) 12 (bm_ 31 1032191) (fun s_ => [(107, .string (strOfNums t228)), (110, s_.1), (111, .string (strOfNums t231)), (117, s_.2.1), (122, s_.2.2), (123, .string (strOfNums t237)), (112, .bool false), (113, .bool false), (114, .slice A0 l0.length c0), (115, .slice A227_0 (rd_L5 y224 x100_3).length c227_0), (116, .int .i64 a4), (119, .slice A0 l0.length c0), (120, .slice A227_0 (rd_L5 y224 x100_3).length c227_0), (121, .int .i64 a4)]) (fun s_ w' => (Kd.V (Kd.int .i64) 3 w' w.heap.size (fun k_ => (P2_ k_ ∨ w.heap.size ≤ k_) ∧ some k_ ≠ (v229 : Value).ownBlock ∧ some k_ ≠ (s_.1 : Value).ownBlock ∧ some k_ ≠ (s_.2.1 : Value).ownBlock ∧ some k_ ≠ (s_.2.2 : Value).ownBlock ∧ some k_ ≠ (v218 : Value).ownBlock ∧ some k_ ≠ (v222 : Value).ownBlock ∧ some k_ ≠ (.slice (some ad227) y224.length co34 : Value).ownBlock ∧ k_ ≠ gb208) (.slice A227_0 (rd_L5 y224 x100_3).length c227_0) (rd_L5 y224 x100_3)) ∧ (Kd.R (Kd.int .u8) 5 w' w.heap.size (fun k_ => (w.heap.size ≤ k_) ∧ some k_ ≠ (s_.1 : Value).ownBlock ∧ some k_ ≠ (s_.2.1 : Value).ownBlock ∧ some k_ ≠ (s_.2.2 : Value).ownBlock) v229 t228) ∧ (Kd.R (Kd.int .u8) 5 w' w.heap.size (fun k_ => (w.heap.size ≤ k_) ∧ some k_ ≠ (v229 : Value).ownBlock ∧ some k_ ≠ (s_.2.1 : Value).ownBlock ∧ some k_ ≠ (s_.2.2 : Value).ownBlock) s_.1 t231) ∧ (Kd.R (Kd.int .u8) 5 w' w.heap.size (fun k_ => (w.heap.size ≤ k_) ∧ some k_ ≠ (v229 : Value).ownBlock ∧ some k_ ≠ (s_.1 : Value).ownBlock ∧ some k_ ≠ (s_.2.2 : Value).ownBlock) s_.2.1 t234) ∧ (Kd.R (Kd.int .u8) 5 w' w.heap.size (fun k_ => (w.heap.size ≤ k_) ∧ some k_ ≠ (v229 : Value).ownBlock ∧ some k_ ≠ (s_.1 : Value).ownBlock ∧ some k_ ≠ (s_.2.1 : Value).ownBlock) s_.2.2 t237) ∧ (Kd.R (Kd.int .i64) 3 w' w.heap.size (fun k_ => (w.heap.size ≤ k_) ∧ some k_ ≠ (v222 : Value).ownBlock) v218 t216) ∧ (Kd.R (Kd.int .i64) 3 w' w.heap.size (fun k_ => (w.heap.size ≤ k_) ∧ some k_ ≠ (v218 : Value).ownBlock) v222 t220) ∧ (Kd.N (Kd.slice 3 (Kd.int .i64)) 23 w' w.heap.size (fun k_ => (P2_ k_ ∨ w.heap.size ≤ k_) ∧ some k_ ≠ (v229 : Value).ownBlock ∧ some k_ ≠ (s_.1 : Value).ownBlock ∧ some k_ ≠ (s_.2.1 : Value).ownBlock ∧ some k_ ≠ (s_.2.2 : Value).ownBlock ∧ some k_ ≠ (v218 : Value).ownBlock ∧ some k_ ≠ (v222 : Value).ownBlock ∧ k_ ≠ gb208) (.slice (some ad227) y224.length co34) y224) ∧ (w'.heap[gb208]? = some (.cells #[.int .i64 a5_0, .int .i64 a5_1, .slice A5_2 l5_2.length c5_2, .slice A5_3 l5_3.length c5_3, .slice A5_4 l5_4.length c5_4, .slice A5_5 l5_5.length c5_5, .slice A5_6 l5_6.length c5_6, .bool a5_7] 31 (0, 0))) ∧ (Below w.heap.size w w')) ?_ ?_; rotate_left
             ·
              intro hJ3_6_7_13_18_19; refine join_ (σ := Value × Value) 13 (mk_ 18 31) (fun s_ => [(107, .string (strOfNums t228)), (110, s_.1), (111, .string (strOfNums t231)), (117, s_.2), (118, .string (strOfNums t234)), (112, .bool false), (113, .bool false), (114, .slice A0 l0.length c0), (115, .slice A227_0 (rd_L5 y224 x100_3).length c227_0), (116, .int .i64 a4), (119, .slice A0 l0.length c0), (120, .slice A227_0 (rd_L5 y224 x100_3).length c227_0), (121, .int .i64 a4)]) (fun s_ w' => (Kd.V (Kd.int .i64) 3 w' w.heap.size (fun k_ => (P2_ k_ ∨ w.heap.size ≤ k_) ∧ some k_ ≠ (v229 : Value).ownBlock ∧ some k_ ≠ (s_.1 : Value).ownBlock ∧ some k_ ≠ (s_.2 : Value).ownBlock ∧ some k_ ≠ (v218 : Value).ownBlock ∧ some k_ ≠ (v222 : Value).ownBlock ∧ some k_ ≠ (.slice (some ad227) y224.length co34 : Value).ownBlock ∧ k_ ≠ gb208) (.slice A227_0 (rd_L5 y224 x100_3).length c227_0) (rd_L5 y224 x100_3)) ∧ (Kd.R (Kd.int .u8) 5 w' w.heap.size (fun k_ => (w.heap.size ≤ k_) ∧ some k_ ≠ (s_.1 : Value).ownBlock ∧ some k_ ≠ (s_.2 : Value).ownBlock) v229 t228) ∧ (Kd.R (Kd.int .u8) 5 w' w.heap.size (fun k_ => (w.heap.size ≤ k_) ∧ some k_ ≠ (v229 : Value).ownBlock ∧ some k_ ≠ (s_.2 : Value).ownBlock) s_.1 t231) ∧ (Kd.R (Kd.int .u8) 5 w' w.heap.size (fun k_ => (w.heap.size ≤ k_) ∧ some k_ ≠ (v229 : Value).ownBlock ∧ some k_ ≠ (s_.1 : Value).ownBlock) s_.2 t234) ∧ (Kd.R (Kd.int .i64) 3 w' w.heap.size (fun k_ => (w.heap.size ≤ k_) ∧ some k_ ≠ (v222 : Value).ownBlock) v218 t216) ∧ (Kd.R (Kd.int .i64) 3 w' w.heap.size (fun k_ => (w.heap.size ≤ k_) ∧ some k_ ≠ (v218 : Value).ownBlock) v222 t220) ∧ (Kd.N (Kd.slice 3 (Kd.int .i64)) 23 w' w.heap.size (fun k_ => (P2_ k_ ∨ w.heap.size ≤ k_) ∧ some k_ ≠ (v229 : Value).ownBlock ∧ some k_ ≠ (s_.1 : Value).ownBlock ∧ some k_ ≠ (s_.2 : Value).ownBlock ∧ some k_ ≠ (v218 : Value).ownBlock ∧ some k_ ≠ (v222 : Value).ownBlock ∧ k_ ≠ gb208) (.slice (some ad227) y224.length co34) y224) ∧ (w'.heap[gb208]? = some (.cells #[.int .i64 a5_0, .int .i64 a5_1, .slice A5_2 l5_2.length c5_2, .slice A5_3 l5_3.length c5_3, .slice A5_4 l5_4.length c5_4, .slice A5_5 l5_5.length c5_5, .slice A5_6 l5_6.length c5_6, .bool a5_7] 31 (0, 0))) ∧ (Below w.heap.size w w')) ?_ ?_; rotate_left
              ·
               intro hJ3_6_7_13_14; refine join_ (σ := Value × Value × Value) 13 (bm_ 31 507903) (fun s_ => [(107, .string (strOfNums t228)), (110, s_.1), (111, .string (strOfNums t231)), (117, s_.2.1), (122, s_.2.2), (112, .bool false), (113, .bool false), (114, .slice A0 l0.length c0), (115, .slice A227_0 (rd_L5 y224 x100_3).length c227_0), (116, .int .i64 a4), (119, .slice A0 l0.length c0), (120, .slice A227_0 (rd_L5 y224 x100_3).length c227_0), (121, .int .i64 a4)]) (fun s_ w' => (Kd.V (Kd.int .i64) 3 w' w.heap.size (fun k_ => (P2_ k_ ∨ w.heap.size ≤ k_) ∧ some k_ ≠ (v229 : Value).ownBlock ∧ some k_ ≠ (s_.1 : Value).ownBlock ∧ some k_ ≠ (s_.2.1 : Value).ownBlock ∧ some k_ ≠ (s_.2.2 : Value).ownBlock ∧ some k_ ≠ (v218 : Value).ownBlock ∧ some k_ ≠ (v222 : Value).ownBlock ∧ some k_ ≠ (.slice (some ad227) y224.length co34 : Value).ownBlock ∧ k_ ≠ gb208) (.slice A227_0 (rd_L5 y224 x100_3).length c227_0) (rd_L5 y224 x100_3)) ∧ (Kd.R (Kd.int .u8) 5 w' w.heap.size (fun k_ => (w.heap.size ≤ k_) ∧ some k_ ≠ (s_.1 : Value).ownBlock ∧ some k_ ≠ (s_.2.1 : Value).ownBlock ∧ some k_ ≠ (s_.2.2 : Value).ownBlock) v229 t228) ∧ (Kd.R (Kd.int .u8) 5 w' w.heap.size (fun k_ => (w.heap.size ≤ k_) ∧ some k_ ≠ (v229 : Value).ownBlock ∧ some k_ ≠ (s_.2.1 : Value).ownBlock ∧ some k_ ≠ (s_.2.2 : Value).ownBlock) s_.1 t231) ∧ (Kd.R (Kd.int .u8) 5 w' w.heap.size (fun k_ => (w.heap.size ≤ k_) ∧ some k_ ≠ (v229 : Value).ownBlock ∧ some k_ ≠ (s_.1 : Value).ownBlock ∧ some k_ ≠ (s_.2.2 : Value).ownBlock) s_.2.1 t234) ∧ (Kd.R (Kd.int .u8) 5 w' w.heap.size (fun k_ => (w.heap.size ≤ k_) ∧ some k_ ≠ (v229 : Value).ownBlock ∧ some k_ ≠ (s_.1 : Value).ownBlock ∧ some k_ ≠ (s_.2.1 : Value).ownBlock) s_.2.2 t237) ∧ (Kd.R (Kd.int .i64) 3 w' w.heap.size (fun k_ => (w.heap.size ≤ k_) ∧ some k_ ≠ (v222 : Value).ownBlock) v218 t216) ∧ (Kd.R (Kd.int .i64) 3 w' w.heap.size (fun k_ => (w.heap.size ≤ k_) ∧ some k_ ≠ (v218 : Value).ownBlock) v222 t220) ∧ (Kd.N (Kd.slice 3 (Kd.int .i64)) 23 w' w.heap.size (fun k_ => (P2_ k_ ∨ w.heap.size ≤ k_) ∧ some k_ ≠ (v229 : Value).ownBlock ∧ some k_ ≠ (s_.1 : Value).ownBlock ∧ some k_ ≠ (s_.2.1 : Value).ownBlock ∧ some k_ ≠ (s_.2.2 : Value).ownBlock ∧ some k_ ≠ (v218 : Value).ownBlock ∧ some k_ ≠ (v222 : Value).ownBlock ∧ k_ ≠ gb208) (.slice (some ad227) y224.length co34) y224) ∧ (w'.heap[gb208]? = some (.cells #[.int .i64 a5_0, .int .i64 a5_1, .slice A5_2 l5_2.length c5_2, .slice A5_3 l5_3.length c5_3, .slice A5_4 l5_4.length c5_4, .slice A5_5 l5_5.length c5_5, .slice A5_6 l5_6.length c5_6, .bool a5_7] 31 (0, 0))) ∧ (Below w.heap.size w w')) ?_ ?_; rotate_left
               ·
                intro hJ3_6_7_13_18; refine join_ (σ := Value × Value) 14 (bm_ 31 245759) (fun s_ => [(107, .string (strOfNums t228)), (110, s_.1), (111, .string (strOfNums t231)), (117, s_.2), (112, .bool false), (113, .bool false), (114, .slice A0 l0.length c0), (115, .slice A227_0 (rd_L5 y224 x100_3).length c227_0), (116, .int .i64 a4), (119, .slice A0 l0.length c0), (120, .slice A227_0 (rd_L5 y224 x100_3).length c227_0), (121, .int .i64 a4)]) (fun s_ w' => (Kd.V (Kd.int .i64) 3 w' w.heap.size (fun k_ => (P2_ k_ ∨ w.heap.size ≤ k_) ∧ some k_ ≠ (v229 : Value).ownBlock ∧ some k_ ≠ (s_.1 : Value).ownBlock ∧ some k_ ≠ (s_.2 : Value).ownBlock ∧ some k_ ≠ (v218 : Value).ownBlock ∧ some k_ ≠ (v222 : Value).ownBlock ∧ some k_ ≠ (.slice (some ad227) y224.length co34 : Value).ownBlock ∧ k_ ≠ gb208) (.slice A227_0 (rd_L5 y224 x100_3).length c227_0) (rd_L5 y224 x100_3)) ∧ (Kd.R (Kd.int .u8) 5 w' w.heap.size (fun k_ => (w.heap.size ≤ k_) ∧ some k_ ≠ (s_.1 : Value).ownBlock ∧ some k_ ≠ (s_.2 : Value).ownBlock) v229 t228) ∧ (Kd.R (Kd.int .u8) 5 w' w.heap.size (fun k_ => (w.heap.size ≤ k_) ∧ some k_ ≠ (v229 : Value).ownBlock ∧ some k_ ≠ (s_.2 : Value).ownBlock) s_.1 t231) ∧ (Kd.R (Kd.int .u8) 5 w' w.heap.size (fun k_ => (w.heap.size ≤ k_) ∧ some k_ ≠ (v229 : Value).ownBlock ∧ some k_ ≠ (s_.1 : Value).ownBlock) s_.2 t234) ∧ (Kd.R (Kd.int .i64) 3 w' w.heap.size (fun k_ => (w.heap.size ≤ k_) ∧ some k_ ≠ (v222 : Value).ownBlock) v218 t216) ∧ (Kd.R (Kd.int .i64) 3 w' w.heap.size (fun k_ => (w.heap.size ≤ k_) ∧ some k_ ≠ (v218 : Value).ownBlock) v222 t220) ∧ (Kd.N (Kd.slice 3 (Kd.int .i64)) 23 w' w.heap.size (fun k_ => (P2_ k_ ∨ w.heap.size ≤ k_) ∧ some k_ ≠ (v229 : Value).ownBlock ∧ some k_ ≠ (s_.1 : Value).ownBlock ∧ some k_ ≠ (s_.2 : Value).ownBlock ∧ some k_ ≠ (v218 : Value).ownBlock ∧ some k_ ≠ (v222 : Value).ownBlock ∧ k_ ≠ gb208) (.slice (some ad227) y224.length co34) y224) ∧ (w'.heap[gb208]? = some (.cells #[.int .i64 a5_0, .int .i64 a5_1, .slice A5_2 l5_2.length c5_2, .slice A5_3 l5_3.length c5_3, .slice A5_4 l5_4.length c5_4, .slice A5_5 l5_5.length c5_5, .slice A5_6 l5_6.length c5_6, .bool a5_7] 31 (0, 0))) ∧ (Below w.heap.size w w')) ?_ ?_; rotate_left
                ·
                 intro hJ3_6_7_13; refine join_ (σ := Value) 15 (bm_ 31 237567) (fun s_ => [(107, .string (strOfNums t228)), (110, s_), (111, .string (strOfNums t231)), (112, .bool false), (113, .bool false), (114, .slice A0 l0.length c0), (115, .slice A227_0 (rd_L5 y224 x100_3).length c227_0), (116, .int .i64 a4), (119, .slice A0 l0.length c0), (120, .slice A227_0 (rd_L5 y224 x100_3).length c227_0), (121, .int .i64 a4)]) (fun s_ w' => (Kd.V (Kd.int .i64) 3 w' w.heap.size (fun k_ => (P2_ k_ ∨ w.heap.size ≤ k_) ∧ some k_ ≠ (v229 : Value).ownBlock ∧ some k_ ≠ (s_ : Value).ownBlock ∧ some k_ ≠ (v218 : Value).ownBlock ∧ some k_ ≠ (v222 : Value).ownBlock ∧ some k_ ≠ (.slice (some ad227) y224.length co34 : Value).ownBlock ∧ k_ ≠ gb208) (.slice A227_0 (rd_L5 y224 x100_3).length c227_0) (rd_L5 y224 x100_3)) ∧ (Kd.R (Kd.int .u8) 5 w' w.heap.size (fun k_ => (w.heap.size ≤ k_) ∧ some k_ ≠ (s_ : Value).ownBlock) v229 t228) ∧ (Kd.R (Kd.int .u8) 5 w' w.heap.size (fun k_ => (w.heap.size ≤ k_) ∧ some k_ ≠ (v229 : Value).ownBlock) s_ t231) ∧ (Kd.R (Kd.int .i64) 3 w' w.heap.size (fun k_ => (w.heap.size ≤ k_) ∧ some k_ ≠ (v222 : Value).ownBlock) v218 t216) ∧ (Kd.R (Kd.int .i64) 3 w' w.heap.size (fun k_ => (w.heap.size ≤ k_) ∧ some k_ ≠ (v218 : Value).ownBlock) v222 t220) ∧ (Kd.N (Kd.slice 3 (Kd.int .i64)) 23 w' w.heap.size (fun k_ => (P2_ k_ ∨ w.heap.size ≤ k_) ∧ some k_ ≠ (v229 : Value).ownBlock ∧ some k_ ≠ (s_ : Value).ownBlock ∧ some k_ ≠ (v218 : Value).ownBlock ∧ some k_ ≠ (v222 : Value).ownBlock ∧ k_ ≠ gb208) (.slice (some ad227) y224.length co34) y224) ∧ (w'.heap[gb208]? = some (.cells #[.int .i64 a5_0, .int .i64 a5_1, .slice A5_2 l5_2.length c5_2, .slice A5_3 l5_3.length c5_3, .slice A5_4 l5_4.length c5_4, .slice A5_5 l5_5.length c5_5, .slice A5_6 l5_6.length c5_6, .bool a5_7] 31 (0, 0))) ∧ (Below w.heap.size w w')) ?_ ?_; rotate_left
                 ·
                  intro hJ3_6_7; refine join_ (σ := Value) 24 (mk_ 7 31) (fun s_ => [(107, .string (strOfNums t228)), (110, s_)]) (fun s_ w' => (Kd.V (Kd.int .i64) 3 w' w.heap.size (fun k_ => (P2_ k_ ∨ w.heap.size ≤ k_) ∧ some k_ ≠ (v229 : Value).ownBlock ∧ some k_ ≠ (s_ : Value).ownBlock ∧ some k_ ≠ (v218 : Value).ownBlock ∧ some k_ ≠ (v222 : Value).ownBlock ∧ some k_ ≠ (.slice (some ad227) y224.length co34 : Value).ownBlock ∧ k_ ≠ gb208) (.slice A227_0 (rd_L5 y224 x100_3).length c227_0) (rd_L5 y224 x100_3)) ∧ (Kd.R (Kd.int .u8) 5 w' w.heap.size (fun k_ => (w.heap.size ≤ k_) ∧ some k_ ≠ (s_ : Value).ownBlock) v229 t228) ∧ (Kd.R (Kd.int .u8) 5 w' w.heap.size (fun k_ => (w.heap.size ≤ k_) ∧ some k_ ≠ (v229 : Value).ownBlock) s_ t231) ∧ (Kd.R (Kd.int .i64) 3 w' w.heap.size (fun k_ => (w.heap.size ≤ k_) ∧ some k_ ≠ (v222 : Value).ownBlock) v218 t216) ∧ (Kd.R (Kd.int .i64) 3 w' w.heap.size (fun k_ => (w.heap.size ≤ k_) ∧ some k_ ≠ (v218 : Value).ownBlock) v222 t220) ∧ (Kd.N (Kd.slice 3 (Kd.int .i64)) 23 w' w.heap.size (fun k_ => (P2_ k_ ∨ w.heap.size ≤ k_) ∧ some k_ ≠ (v229 : Value).ownBlock ∧ some k_ ≠ (s_ : Value).ownBlock ∧ some k_ ≠ (v218 : Value).ownBlock ∧ some k_ ≠ (v222 : Value).ownBlock ∧ k_ ≠ gb208) (.slice (some ad227) y224.length co34) y224) ∧ (w'.heap[gb208]? = some (.cells #[.int .i64 a5_0, .int .i64 a5_1, .slice A5_2 l5_2.length c5_2, .slice A5_3 l5_3.length c5_3, .slice A5_4 l5_4.length c5_4, .slice A5_5 l5_5.length c5_5, .slice A5_6 l5_6.length c5_6, .bool a5_7] 31 (0, 0))) ∧ (Below w.heap.size w w')) ?_ ?_; rotate_left
                  ·
                   intro hJ3_6; refine join_ (σ := Value) 24 (bm_ 31 247) (fun s_ => [(110, s_), (111, .string (strOfNums t231))]) (fun s_ w' => (Kd.V (Kd.int .i64) 3 w' w.heap.size (fun k_ => (P2_ k_ ∨ w.heap.size ≤ k_) ∧ some k_ ≠ (v229 : Value).ownBlock ∧ some k_ ≠ (s_ : Value).ownBlock ∧ some k_ ≠ (v218 : Value).ownBlock ∧ some k_ ≠ (v222 : Value).ownBlock ∧ some k_ ≠ (.slice (some ad227) y224.length co34 : Value).ownBlock ∧ k_ ≠ gb208) (.slice A227_0 (rd_L5 y224 x100_3).length c227_0) (rd_L5 y224 x100_3)) ∧ (Kd.R (Kd.int .u8) 5 w' w.heap.size (fun k_ => (w.heap.size ≤ k_) ∧ some k_ ≠ (s_ : Value).ownBlock) v229 t228) ∧ (Kd.R (Kd.int .u8) 5 w' w.heap.size (fun k_ => (w.heap.size ≤ k_) ∧ some k_ ≠ (v229 : Value).ownBlock) s_ t231) ∧ (Kd.R (Kd.int .i64) 3 w' w.heap.size (fun k_ => (w.heap.size ≤ k_) ∧ some k_ ≠ (v222 : Value).ownBlock) v218 t216) ∧ (Kd.R (Kd.int .i64) 3 w' w.heap.size (fun k_ => (w.heap.size ≤ k_) ∧ some k_ ≠ (v218 : Value).ownBlock) v222 t220) ∧ (Kd.N (Kd.slice 3 (Kd.int .i64)) 23 w' w.heap.size (fun k_ => (P2_ k_ ∨ w.heap.size ≤ k_) ∧ some k_ ≠ (v229 : Value).ownBlock ∧ some k_ ≠ (s_ : Value).ownBlock ∧ some k_ ≠ (v218 : Value).ownBlock ∧ some k_ ≠ (v222 : Value).ownBlock ∧ k_ ≠ gb208) (.slice (some ad227) y224.length co34) y224) ∧ (w'.heap[gb208]? = some (.cells #[.int .i64 a5_0, .int .i64 a5_1, .slice A5_2 l5_2.length c5_2, .slice A5_3 l5_3.length c5_3, .slice A5_4 l5_4.length c5_4, .slice A5_5 l5_5.length c5_5, .slice A5_6 l5_6.length c5_6, .bool a5_7] 31 (0, 0))) ∧ (Below w.heap.size w w')) ?_ ?_; rotate_left
                   ·
                    intro hJ6_7; refine join_ (σ := Unit) 25 (mk_ 6 31) (fun s_ => [(107, .string (strOfNums t228))]) (fun s_ w' => (Kd.V (Kd.int .i64) 3 w' w.heap.size (fun k_ => (P2_ k_ ∨ w.heap.size ≤ k_) ∧ some k_ ≠ (v229 : Value).ownBlock ∧ some k_ ≠ (v218 : Value).ownBlock ∧ some k_ ≠ (v222 : Value).ownBlock ∧ some k_ ≠ (.slice (some ad227) y224.length co34 : Value).ownBlock ∧ k_ ≠ gb208) (.slice A227_0 (rd_L5 y224 x100_3).length c227_0) (rd_L5 y224 x100_3)) ∧ (Kd.R (Kd.int .u8) 5 w' w.heap.size (fun k_ => (w.heap.size ≤ k_)) v229 t228) ∧ (Kd.R (Kd.int .i64) 3 w' w.heap.size (fun k_ => (w.heap.size ≤ k_) ∧ some k_ ≠ (v222 : Value).ownBlock) v218 t216) ∧ (Kd.R (Kd.int .i64) 3 w' w.heap.size (fun k_ => (w.heap.size ≤ k_) ∧ some k_ ≠ (v218 : Value).ownBlock) v222 t220) ∧ (Kd.N (Kd.slice 3 (Kd.int .i64)) 23 w' w.heap.size (fun k_ => (P2_ k_ ∨ w.heap.size ≤ k_) ∧ some k_ ≠ (v229 : Value).ownBlock ∧ some k_ ≠ (v218 : Value).ownBlock ∧ some k_ ≠ (v222 : Value).ownBlock ∧ k_ ≠ gb208) (.slice (some ad227) y224.length co34) y224) ∧ (w'.heap[gb208]? = some (.cells #[.int .i64 a5_0, .int .i64 a5_1, .slice A5_2 l5_2.length c5_2, .slice A5_3 l5_3.length c5_3, .slice A5_4 l5_4.length c5_4, .slice A5_5 l5_5.length c5_5, .slice A5_6 l5_6.length c5_6, .bool a5_7] 31 (0, 0))) ∧ (Below w.heap.size w w')) ?_ ?_; rotate_left
                    ·
                     intro hJ3; refine join_ (σ := Value) 25 (bm_ 31 119) (fun s_ => [(110, s_)]) (fun s_ w' => (Kd.V (Kd.int .i64) 3 w' w.heap.size (fun k_ => (P2_ k_ ∨ w.heap.size ≤ k_) ∧ some k_ ≠ (v229 : Value).ownBlock ∧ some k_ ≠ (s_ : Value).ownBlock ∧ some k_ ≠ (v218 : Value).ownBlock ∧ some k_ ≠ (v222 : Value).ownBlock ∧ some k_ ≠ (.slice (some ad227) y224.length co34 : Value).ownBlock ∧ k_ ≠ gb208) (.slice A227_0 (rd_L5 y224 x100_3).length c227_0) (rd_L5 y224 x100_3)) ∧ (Kd.R (Kd.int .u8) 5 w' w.heap.size (fun k_ => (w.heap.size ≤ k_) ∧ some k_ ≠ (s_ : Value).ownBlock) v229 t228) ∧ (Kd.R (Kd.int .u8) 5 w' w.heap.size (fun k_ => (w.heap.size ≤ k_) ∧ some k_ ≠ (v229 : Value).ownBlock) s_ t231) ∧ (Kd.R (Kd.int .i64) 3 w' w.heap.size (fun k_ => (w.heap.size ≤ k_) ∧ some k_ ≠ (v222 : Value).ownBlock) v218 t216) ∧ (Kd.R (Kd.int .i64) 3 w' w.heap.size (fun k_ => (w.heap.size ≤ k_) ∧ some k_ ≠ (v218 : Value).ownBlock) v222 t220) ∧ (Kd.N (Kd.slice 3 (Kd.int .i64)) 23 w' w.heap.size (fun k_ => (P2_ k_ ∨ w.heap.size ≤ k_) ∧ some k_ ≠ (v229 : Value).ownBlock ∧ some k_ ≠ (s_ : Value).ownBlock ∧ some k_ ≠ (v218 : Value).ownBlock ∧ some k_ ≠ (v222 : Value).ownBlock ∧ k_ ≠ gb208) (.slice (some ad227) y224.length co34) y224) ∧ (w'.heap[gb208]? = some (.cells #[.int .i64 a5_0, .int .i64 a5_1, .slice A5_2 l5_2.length c5_2, .slice A5_3 l5_3.length c5_3, .slice A5_4 l5_4.length c5_4, .slice A5_5 l5_5.length c5_5, .slice A5_6 l5_6.length c5_6, .bool a5_7] 31 (0, 0))) ∧ (Below w.heap.size w w')) ?_ ?_; rotate_left
                     ·
                      intro hJ6; refine two_ (i := 3) (j := 6) (Ni := some 107) (Nj := some 110) (mk_ 6 31) (bm_ 31 119) rfl rfl rfl rfl (two_of HT_.out (by kernel_rfl)) (by decide) (by decide) (fun K hK => ?_) (fun K hK => ?_)
                      ·
                       skip
                       have hcv49 := own_string (P := Try.prog) Try.underlying27 Try.underlying5 Try.underlying9 (Kd.own_of_R HO230.out); refine value_ (w1 := ?_) (v := ?_) (by rfl) rfl ?_ ?_; rotate_left 2
                       ·
                        go_simp
                        constructor
                        ·
                         rfl
                        ·
                         rfl
                       clear hcv49; refine hK.out _ _ trivial (fun hHeld => ?_); clear hK K; refine norm_ (a' := ?_) ?_ ?_; rotate_left
                       ·
                        show Act.put _ (some 107) _ = _
                        simp only [Act.put, setIfInBounds_toArray, set_cons_zero, set_cons_succ, i64_w, i32_w]; rfl
                       exact norm_ (by first | (simp only [putAll, Act.put, setIfInBounds_toArray, set_cons_zero, set_cons_succ]; done) | (simp only [putAll, Act.put, setIfInBounds_toArray, set_cons_zero, set_cons_succ]; rfl)) (hJ3 () _ ⟨(by (with_reducible repeat (first | apply Kd.V_alloc | apply Kd.V_drewN | apply Kd.V_drew)); exact Kd.V_mono HL227_0.out (fun _ hk => ⟨hk.1.1.1, ⟨hk.2, ⟨hk.1.1.2.1, ⟨hk.1.1.2.2.1, ⟨hk.1.2, hk.1.1.2.2.2⟩⟩⟩⟩⟩)), (by (with_reducible repeat (first | apply Kd.R_alloc | apply Kd.R_drewN | apply Kd.R_drew)); exact Kd.R_mono HO230.out (fun _ hk => hk.1)), (kR_ HO_16.out), (kR_ HO_18.out), (by (with_reducible repeat (first | apply Kd.N_alloc | apply Kd.N_drewN | apply Kd.N_drew)); exact Kd.N_mono HO_98.out (fun _ hk => ⟨hk.1.1, ⟨hk.2, ⟨hk.1.2.1, ⟨hk.1.2.2.1, hk.1.2.2.2⟩⟩⟩⟩)), (bk_ BK208.out), (hb1_ HB.out GE208.out)⟩)
                      ·
                       skip
                       refine goes_ Try.func53 (by kernel_rfl) rfl #[.slice A0 l0.length c0, .slice A227_0 (rd_L5 y224 x100_3).length c227_0] (by rfl) rfl rfl lm_ ?_; with_reducible refine (ref15_Clear.calls k3 _ _ l0 _ _ (rd_L5 y224 x100_3) t231 _ ?side1 ?side2 ?side3 ?side4 A39.out).mono ?_
                       (case side1 => exact kD_ (Kd.C_below HR0.out HB.out))
                       (case side2 => exact HC0.out)
                       (case side3 => exact kD_ HR227_0.out)
                       (case side4 => exact HC227_0.out)
                       rintro e w49 ⟨v232, rfl, ho0, hb⟩; refine ⟨_, rfl, ?_⟩; have n0_ := Aside0.mk (Kd.R_below (kR_ HO_16.out) hb); have n1_ := Aside0.mk (Kd.R_below (kR_ HO_18.out) hb); have n2_ := Aside0.mk (Kd.N_elder' (kN_ HO_98.out) (Kd.R_base ho0) hb); have n3_ := Aside0.mk (Kd.V_elder' (kV_ HL227_0.out) (Kd.R_base ho0) hb); have n4_ := Aside0.mk (Kd.R_elder' (kR_ HO230.out) (Kd.R_base ho0) hb); have n5_ := Aside0.mk (Kd.R_lower (Kd.R_new' (Kd.R_newM (M := fun k_ => (w.heap.size ≤ k_)) ho0 (below_size (hb1_ HB.out GE208.out)) (fun k_ h_ => h_)) (Kd.R_lt (kR_ HO230.out))) (below_size (hb1_ HB.out GE208.out))); have n6_ := Aside0.mk (bb_ BK208.out hb); have n7_ := Aside0.mk (Kd.C_below (kC_ HR227_0.out) hb); have n8_ := Aside0.mk (below_step (hb1_ HB.out GE208.out) hb); clear HO_16; clear HO_18; clear HO_98; clear HL227_0; clear HO230; clear BK208; clear HR227_0; clear HB; revert n0_ n1_ n2_ n3_ n4_ n5_ n6_ n7_ n8_; intro HO_16 HO_18 HO_98 HL227_0 HO230 HO233 BK208 HR227_0 HB; (try clear hb)
                       (try clear hb2)
                       (try clear hk)
                       (try clear hi)
                       (try clear ho0)
                       refine hK.out _ _ trivial (fun hHeld => ?_); clear hK K; refine norm_ (a' := ?_) ?_ ?_; rotate_left
                       ·
                        show Act.put _ (some 110) _ = _
                        simp only [Act.put, setIfInBounds_toArray, set_cons_zero, set_cons_succ, i64_w, i32_w]; rfl
                       exact norm_ (by first | (simp only [putAll, Act.put, setIfInBounds_toArray, set_cons_zero, set_cons_succ]; done) | (simp only [putAll, Act.put, setIfInBounds_toArray, set_cons_zero, set_cons_succ]; rfl)) (hJ6 (v232) _ ⟨(by (with_reducible repeat (first | apply Kd.V_alloc | apply Kd.V_drewN | apply Kd.V_drew)); exact Kd.V_mono HL227_0.out (fun _ hk => ⟨hk.1.1.1.1, ⟨hk.1.2, ⟨hk.2, ⟨hk.1.1.1.2.1, ⟨hk.1.1.1.2.2.1, ⟨hk.1.1.2, hk.1.1.1.2.2.2⟩⟩⟩⟩⟩⟩)), (by (with_reducible repeat (first | apply Kd.R_alloc | apply Kd.R_drewN | apply Kd.R_drew)); exact Kd.R_mono HO230.out (fun _ hk => ⟨hk.1.1, hk.2⟩)), (by (with_reducible repeat (first | apply Kd.R_alloc | apply Kd.R_drewN | apply Kd.R_drew)); exact Kd.R_mono HO233.out (fun _ hk => ⟨hk.1.1, hk.2⟩)), (kR_ HO_16.out), (kR_ HO_18.out), (by (with_reducible repeat (first | apply Kd.N_alloc | apply Kd.N_drewN | apply Kd.N_drew)); exact Kd.N_mono HO_98.out (fun _ hk => ⟨hk.1.1.1, ⟨hk.1.2, ⟨hk.2, ⟨hk.1.1.2.1, ⟨hk.1.1.2.2.1, hk.1.1.2.2.2⟩⟩⟩⟩⟩)), (bk_ BK208.out), (hb1_ HB.out GE208.out)⟩)
                     ·
                      skip
                      rintro v232 w50 ⟨h0_, h1_, h2_, h3_, h4_, h5_, h6_, h7_⟩; have n0_ : Aside0 (Kd.V (Kd.int .i64) 3 w50 w.heap.size (fun k_ => (P2_ k_ ∨ w.heap.size ≤ k_) ∧ some k_ ≠ (v229 : Value).ownBlock ∧ some k_ ≠ (v232 : Value).ownBlock ∧ some k_ ≠ (v218 : Value).ownBlock ∧ some k_ ≠ (v222 : Value).ownBlock ∧ some k_ ≠ (.slice (some ad227) y224.length co34 : Value).ownBlock ∧ k_ ≠ gb208) (.slice A227_0 (rd_L5 y224 x100_3).length c227_0) (rd_L5 y224 x100_3)) := ⟨h0_⟩; have n1_ : Aside0 (Kd.R (Kd.int .u8) 5 w50 w.heap.size (fun k_ => (w.heap.size ≤ k_) ∧ some k_ ≠ (v232 : Value).ownBlock) v229 t228) := ⟨h1_⟩; have n2_ : Aside0 (Kd.R (Kd.int .u8) 5 w50 w.heap.size (fun k_ => (w.heap.size ≤ k_) ∧ some k_ ≠ (v229 : Value).ownBlock) v232 t231) := ⟨h2_⟩; have n3_ : Aside0 (Kd.R (Kd.int .i64) 3 w50 w.heap.size (fun k_ => (w.heap.size ≤ k_) ∧ some k_ ≠ (v222 : Value).ownBlock) v218 t216) := ⟨h3_⟩; have n4_ : Aside0 (Kd.R (Kd.int .i64) 3 w50 w.heap.size (fun k_ => (w.heap.size ≤ k_) ∧ some k_ ≠ (v218 : Value).ownBlock) v222 t220) := ⟨h4_⟩; have n5_ : Aside0 (Kd.N (Kd.slice 3 (Kd.int .i64)) 23 w50 w.heap.size (fun k_ => (P2_ k_ ∨ w.heap.size ≤ k_) ∧ some k_ ≠ (v229 : Value).ownBlock ∧ some k_ ≠ (v232 : Value).ownBlock ∧ some k_ ≠ (v218 : Value).ownBlock ∧ some k_ ≠ (v222 : Value).ownBlock ∧ k_ ≠ gb208) (.slice (some ad227) y224.length co34) y224) := ⟨h5_⟩; have n6_ : Aside0 (w50.heap[gb208]? = some (.cells #[.int .i64 a5_0, .int .i64 a5_1, .slice A5_2 l5_2.length c5_2, .slice A5_3 l5_3.length c5_3, .slice A5_4 l5_4.length c5_4, .slice A5_5 l5_5.length c5_5, .slice A5_6 l5_6.length c5_6, .bool a5_7] 31 (0, 0))) := ⟨h6_⟩; have n7_ : Aside0 (Below w.heap.size w w50) := ⟨h7_⟩; clear HO_16; clear HO_18; clear HO_98; clear HL227_0; clear BK208; clear HR227_0; clear HB; clear h0_ h1_ h2_ h3_ h4_ h5_ h6_ h7_; revert n0_ n1_ n2_ n3_ n4_ n5_ n6_ n7_; intro HL227_0 HO230 HO233 HO_16 HO_18 HO_98 BK208 HB; have hHeld := trivial; refine norm_ (a' := ?_) ?_ ?_; rotate_left
                      ·
                       simp only [putAll, Act.put, setIfInBounds_toArray, set_cons_zero, set_cons_succ]; rfl
                      refine two_ (i := 3) (j := 7) (Ni := some 107) (Nj := some 111) (mk_ 7 31) (bm_ 31 247) rfl rfl rfl rfl (two_of HT_.out (by kernel_rfl)) (by decide) (by decide) (fun K hK => ?_) (fun K hK => ?_)
                      ·
                       skip
                       have hcv51 := own_string (P := Try.prog) Try.underlying27 Try.underlying5 Try.underlying9 (Kd.own_of_R HO230.out); refine value_ (w1 := ?_) (v := ?_) (by rfl) rfl ?_ ?_; rotate_left 2
                       ·
                        go_simp
                        constructor
                        ·
                         rfl
                        ·
                         rfl
                       clear hcv51; refine hK.out _ _ trivial (fun hHeld => ?_); clear hK K; refine norm_ (a' := ?_) ?_ ?_; rotate_left
                       ·
                        show Act.put _ (some 107) _ = _
                        simp only [Act.put, setIfInBounds_toArray, set_cons_zero, set_cons_succ, i64_w, i32_w]; rfl
                       exact norm_ (by first | (simp only [putAll, Act.put, setIfInBounds_toArray, set_cons_zero, set_cons_succ]; done) | (simp only [putAll, Act.put, setIfInBounds_toArray, set_cons_zero, set_cons_succ]; rfl)) (hJ3_6 (v232) _ ⟨(kV_ HL227_0.out), (kR_ HO230.out), (kR_ HO233.out), (kR_ HO_16.out), (kR_ HO_18.out), (kN_ HO_98.out), (bk_ BK208.out), (hb1_ HB.out GE208.out)⟩)
                      ·
                       skip
                       have hcv51 := own_string (P := Try.prog) Try.underlying27 Try.underlying5 Try.underlying9 (Kd.own_of_R HO233.out); refine value_ (w1 := ?_) (v := ?_) (by rfl) rfl ?_ ?_; rotate_left 2
                       ·
                        go_simp
                        constructor
                        ·
                         rfl
                        ·
                         rfl
                       clear hcv51; refine hK.out _ _ trivial (fun hHeld => ?_); clear hK K; refine norm_ (a' := ?_) ?_ ?_; rotate_left
                       ·
                        show Act.put _ (some 111) _ = _
                        simp only [Act.put, setIfInBounds_toArray, set_cons_zero, set_cons_succ, i64_w, i32_w]; rfl
                       exact norm_ (by first | (simp only [putAll, Act.put, setIfInBounds_toArray, set_cons_zero, set_cons_succ]; done) | (simp only [putAll, Act.put, setIfInBounds_toArray, set_cons_zero, set_cons_succ]; rfl)) (hJ6_7 (v232) _ ⟨(kV_ HL227_0.out), (kR_ HO230.out), (kR_ HO233.out), (kR_ HO_16.out), (kR_ HO_18.out), (kN_ HO_98.out), (bk_ BK208.out), (hb1_ HB.out GE208.out)⟩)
                    ·
                     skip
                     rintro _ w50 ⟨h0_, h1_, h2_, h3_, h4_, h5_, h6_⟩; have n0_ : Aside0 (Kd.V (Kd.int .i64) 3 w50 w.heap.size (fun k_ => (P2_ k_ ∨ w.heap.size ≤ k_) ∧ some k_ ≠ (v229 : Value).ownBlock ∧ some k_ ≠ (v218 : Value).ownBlock ∧ some k_ ≠ (v222 : Value).ownBlock ∧ some k_ ≠ (.slice (some ad227) y224.length co34 : Value).ownBlock ∧ k_ ≠ gb208) (.slice A227_0 (rd_L5 y224 x100_3).length c227_0) (rd_L5 y224 x100_3)) := ⟨h0_⟩; have n1_ : Aside0 (Kd.R (Kd.int .u8) 5 w50 w.heap.size (fun k_ => (w.heap.size ≤ k_)) v229 t228) := ⟨h1_⟩; have n2_ : Aside0 (Kd.R (Kd.int .i64) 3 w50 w.heap.size (fun k_ => (w.heap.size ≤ k_) ∧ some k_ ≠ (v222 : Value).ownBlock) v218 t216) := ⟨h2_⟩; have n3_ : Aside0 (Kd.R (Kd.int .i64) 3 w50 w.heap.size (fun k_ => (w.heap.size ≤ k_) ∧ some k_ ≠ (v218 : Value).ownBlock) v222 t220) := ⟨h3_⟩; have n4_ : Aside0 (Kd.N (Kd.slice 3 (Kd.int .i64)) 23 w50 w.heap.size (fun k_ => (P2_ k_ ∨ w.heap.size ≤ k_) ∧ some k_ ≠ (v229 : Value).ownBlock ∧ some k_ ≠ (v218 : Value).ownBlock ∧ some k_ ≠ (v222 : Value).ownBlock ∧ k_ ≠ gb208) (.slice (some ad227) y224.length co34) y224) := ⟨h4_⟩; have n5_ : Aside0 (w50.heap[gb208]? = some (.cells #[.int .i64 a5_0, .int .i64 a5_1, .slice A5_2 l5_2.length c5_2, .slice A5_3 l5_3.length c5_3, .slice A5_4 l5_4.length c5_4, .slice A5_5 l5_5.length c5_5, .slice A5_6 l5_6.length c5_6, .bool a5_7] 31 (0, 0))) := ⟨h5_⟩; have n6_ : Aside0 (Below w.heap.size w w50) := ⟨h6_⟩; clear HO_16; clear HO_18; clear HO_98; clear HL227_0; clear BK208; clear HR227_0; clear HB; clear h0_ h1_ h2_ h3_ h4_ h5_ h6_; revert n0_ n1_ n2_ n3_ n4_ n5_ n6_; intro HL227_0 HO230 HO_16 HO_18 HO_98 BK208 HB; have hHeld := trivial; refine norm_ (a' := ?_) ?_ ?_; rotate_left
                     ·
                      simp only [putAll, Act.put, setIfInBounds_toArray, set_cons_zero, set_cons_succ]; rfl
                     refine one_ (i := 6) (N := some 110) (mk_ 7 31) rfl rfl (one_of HT_.out (by kernel_rfl)) (by decide) (fun K hK => ?_); refine goes_ Try.func53 (by kernel_rfl) rfl #[.slice A0 l0.length c0, .slice A227_0 (rd_L5 y224 x100_3).length c227_0] (by rfl) rfl rfl lm_ ?_; with_reducible refine (ref15_Clear.calls k3 _ _ l0 _ _ (rd_L5 y224 x100_3) t231 _ ?side1 ?side2 ?side3 ?side4 A39.out).mono ?_
                     (case side1 => exact kD_ (Kd.C_below HR0.out HB.out))
                     (case side2 => exact HC0.out)
                     (case side3 => exact kD_ ((Kd.V_reads' (kV_ HL227_0.out)).2.2))
                     (case side4 => exact HC227_0.out)
                     rintro e w51 ⟨v232, rfl, ho0, hb⟩; refine ⟨_, rfl, ?_⟩; have n0_ := Aside0.mk (Kd.R_below (kR_ HO_16.out) hb); have n1_ := Aside0.mk (Kd.R_below (kR_ HO_18.out) hb); have n2_ := Aside0.mk (Kd.N_elder' (kN_ HO_98.out) (Kd.R_base ho0) hb); have n3_ := Aside0.mk (Kd.V_elder' (kV_ HL227_0.out) (Kd.R_base ho0) hb); have n4_ := Aside0.mk (Kd.R_elder' (kR_ HO230.out) (Kd.R_base ho0) hb); have n5_ := Aside0.mk (Kd.R_lower (Kd.R_new' (Kd.R_newM (M := fun k_ => (w.heap.size ≤ k_)) ho0 (below_size (hb1_ HB.out GE208.out)) (fun k_ h_ => h_)) (Kd.R_lt (kR_ HO230.out))) (below_size (hb1_ HB.out GE208.out))); have n6_ := Aside0.mk (bb_ BK208.out hb); have n7_ := Aside0.mk (below_step (hb1_ HB.out GE208.out) hb); clear HO_16; clear HO_18; clear HO_98; clear HL227_0; clear HO230; clear BK208; clear HB; revert n0_ n1_ n2_ n3_ n4_ n5_ n6_ n7_; intro HO_16 HO_18 HO_98 HL227_0 HO230 HO233 BK208 HB; (try clear hb)
                     (try clear hb2)
                     (try clear hk)
                     (try clear hi)
                     (try clear ho0)
                     refine hK.out _ _ trivial (fun hHeld => ?_); clear hK K; refine norm_ (a' := ?_) ?_ ?_; rotate_left
                     ·
                      show Act.put _ (some 110) _ = _
                      simp only [Act.put, setIfInBounds_toArray, set_cons_zero, set_cons_succ, i64_w, i32_w]; rfl
                     exact norm_ (by first | (simp only [putAll, Act.put, setIfInBounds_toArray, set_cons_zero, set_cons_succ]; done) | (simp only [putAll, Act.put, setIfInBounds_toArray, set_cons_zero, set_cons_succ]; rfl)) (hJ3_6 (v232) _ ⟨(by (with_reducible repeat (first | apply Kd.V_alloc | apply Kd.V_drewN | apply Kd.V_drew)); exact Kd.V_mono HL227_0.out (fun _ hk => ⟨hk.1.1, ⟨hk.1.2.1, ⟨hk.2, ⟨hk.1.2.2.1, ⟨hk.1.2.2.2.1, ⟨hk.1.2.2.2.2.1, hk.1.2.2.2.2.2⟩⟩⟩⟩⟩⟩)), (kR_ HO230.out), (by (with_reducible repeat (first | apply Kd.R_alloc | apply Kd.R_drewN | apply Kd.R_drew)); exact Kd.R_mono HO233.out (fun _ hk => ⟨hk.1.1, hk.2⟩)), (kR_ HO_16.out), (kR_ HO_18.out), (by (with_reducible repeat (first | apply Kd.N_alloc | apply Kd.N_drewN | apply Kd.N_drew)); exact Kd.N_mono HO_98.out (fun _ hk => ⟨hk.1.1, ⟨hk.1.2.1, ⟨hk.2, ⟨hk.1.2.2.1, ⟨hk.1.2.2.2.1, hk.1.2.2.2.2⟩⟩⟩⟩⟩)), (bk_ BK208.out), (hb1_ HB.out GE208.out)⟩)
                   ·
                    skip
                    rintro v232 w51 ⟨h0_, h1_, h2_, h3_, h4_, h5_, h6_, h7_⟩; have n0_ : Aside0 (Kd.V (Kd.int .i64) 3 w51 w.heap.size (fun k_ => (P2_ k_ ∨ w.heap.size ≤ k_) ∧ some k_ ≠ (v229 : Value).ownBlock ∧ some k_ ≠ (v232 : Value).ownBlock ∧ some k_ ≠ (v218 : Value).ownBlock ∧ some k_ ≠ (v222 : Value).ownBlock ∧ some k_ ≠ (.slice (some ad227) y224.length co34 : Value).ownBlock ∧ k_ ≠ gb208) (.slice A227_0 (rd_L5 y224 x100_3).length c227_0) (rd_L5 y224 x100_3)) := ⟨h0_⟩; have n1_ : Aside0 (Kd.R (Kd.int .u8) 5 w51 w.heap.size (fun k_ => (w.heap.size ≤ k_) ∧ some k_ ≠ (v232 : Value).ownBlock) v229 t228) := ⟨h1_⟩; have n2_ : Aside0 (Kd.R (Kd.int .u8) 5 w51 w.heap.size (fun k_ => (w.heap.size ≤ k_) ∧ some k_ ≠ (v229 : Value).ownBlock) v232 t231) := ⟨h2_⟩; have n3_ : Aside0 (Kd.R (Kd.int .i64) 3 w51 w.heap.size (fun k_ => (w.heap.size ≤ k_) ∧ some k_ ≠ (v222 : Value).ownBlock) v218 t216) := ⟨h3_⟩; have n4_ : Aside0 (Kd.R (Kd.int .i64) 3 w51 w.heap.size (fun k_ => (w.heap.size ≤ k_) ∧ some k_ ≠ (v218 : Value).ownBlock) v222 t220) := ⟨h4_⟩; have n5_ : Aside0 (Kd.N (Kd.slice 3 (Kd.int .i64)) 23 w51 w.heap.size (fun k_ => (P2_ k_ ∨ w.heap.size ≤ k_) ∧ some k_ ≠ (v229 : Value).ownBlock ∧ some k_ ≠ (v232 : Value).ownBlock ∧ some k_ ≠ (v218 : Value).ownBlock ∧ some k_ ≠ (v222 : Value).ownBlock ∧ k_ ≠ gb208) (.slice (some ad227) y224.length co34) y224) := ⟨h5_⟩; have n6_ : Aside0 (w51.heap[gb208]? = some (.cells #[.int .i64 a5_0, .int .i64 a5_1, .slice A5_2 l5_2.length c5_2, .slice A5_3 l5_3.length c5_3, .slice A5_4 l5_4.length c5_4, .slice A5_5 l5_5.length c5_5, .slice A5_6 l5_6.length c5_6, .bool a5_7] 31 (0, 0))) := ⟨h6_⟩; have n7_ : Aside0 (Below w.heap.size w w51) := ⟨h7_⟩; clear HO_16; clear HO_18; clear HO_98; clear HL227_0; clear BK208; clear HR227_0; clear HB; clear h0_ h1_ h2_ h3_ h4_ h5_ h6_ h7_; revert n0_ n1_ n2_ n3_ n4_ n5_ n6_ n7_; intro HL227_0 HO230 HO233 HO_16 HO_18 HO_98 BK208 HB; have hHeld := trivial; refine norm_ (a' := ?_) ?_ ?_; rotate_left
                    ·
                     simp only [putAll, Act.put, setIfInBounds_toArray, set_cons_zero, set_cons_succ]; rfl
                    refine one_ (i := 3) (N := some 107) (mk_ 8 31) rfl rfl (one_of HT_.out (by kernel_rfl)) (by decide) (fun K hK => ?_); have hcv52 := own_string (P := Try.prog) Try.underlying27 Try.underlying5 Try.underlying9 (Kd.own_of_R HO230.out); refine value_ (w1 := ?_) (v := ?_) (by rfl) rfl ?_ ?_; rotate_left 2
                    ·
                     go_simp
                     constructor
                     ·
                      rfl
                     ·
                      rfl
                    clear hcv52; refine hK.out _ _ trivial (fun hHeld => ?_); clear hK K; refine norm_ (a' := ?_) ?_ ?_; rotate_left
                    ·
                     show Act.put _ (some 107) _ = _
                     simp only [Act.put, setIfInBounds_toArray, set_cons_zero, set_cons_succ, i64_w, i32_w]; rfl
                    refine pu_ 8 (some 112) (mk_ 9 31) HT_ ?_; refine pu_ 9 (some 113) (mk_ 10 31) HT_ ?_; refine pu_ 10 (some 114) (mk_ 11 31) HT_ ?_; refine pu_ 11 (some 115) (mk_ 12 31) HT_ ?_; refine pu_ 12 (some 116) (mk_ 13 31) HT_ ?_; refine pu_ 15 (some 119) (bm_ 31 40959) HT_ ?_; refine pu_ 16 (some 120) (bm_ 31 106495) HT_ ?_; refine pu_ 17 (some 121) (bm_ 31 237567) HT_ ?_; exact norm_ (by first | (simp only [putAll, Act.put, setIfInBounds_toArray, set_cons_zero, set_cons_succ]; done) | (simp only [putAll, Act.put, setIfInBounds_toArray, set_cons_zero, set_cons_succ]; rfl)) (hJ3_6_7 (v232) _ ⟨(kV_ HL227_0.out), (kR_ HO230.out), (kR_ HO233.out), (kR_ HO_16.out), (kR_ HO_18.out), (kN_ HO_98.out), (bk_ BK208.out), (hb1_ HB.out GE208.out)⟩)
                  ·
                   skip
                   rintro v232 w51 ⟨h0_, h1_, h2_, h3_, h4_, h5_, h6_, h7_⟩; have n0_ : Aside0 (Kd.V (Kd.int .i64) 3 w51 w.heap.size (fun k_ => (P2_ k_ ∨ w.heap.size ≤ k_) ∧ some k_ ≠ (v229 : Value).ownBlock ∧ some k_ ≠ (v232 : Value).ownBlock ∧ some k_ ≠ (v218 : Value).ownBlock ∧ some k_ ≠ (v222 : Value).ownBlock ∧ some k_ ≠ (.slice (some ad227) y224.length co34 : Value).ownBlock ∧ k_ ≠ gb208) (.slice A227_0 (rd_L5 y224 x100_3).length c227_0) (rd_L5 y224 x100_3)) := ⟨h0_⟩; have n1_ : Aside0 (Kd.R (Kd.int .u8) 5 w51 w.heap.size (fun k_ => (w.heap.size ≤ k_) ∧ some k_ ≠ (v232 : Value).ownBlock) v229 t228) := ⟨h1_⟩; have n2_ : Aside0 (Kd.R (Kd.int .u8) 5 w51 w.heap.size (fun k_ => (w.heap.size ≤ k_) ∧ some k_ ≠ (v229 : Value).ownBlock) v232 t231) := ⟨h2_⟩; have n3_ : Aside0 (Kd.R (Kd.int .i64) 3 w51 w.heap.size (fun k_ => (w.heap.size ≤ k_) ∧ some k_ ≠ (v222 : Value).ownBlock) v218 t216) := ⟨h3_⟩; have n4_ : Aside0 (Kd.R (Kd.int .i64) 3 w51 w.heap.size (fun k_ => (w.heap.size ≤ k_) ∧ some k_ ≠ (v218 : Value).ownBlock) v222 t220) := ⟨h4_⟩; have n5_ : Aside0 (Kd.N (Kd.slice 3 (Kd.int .i64)) 23 w51 w.heap.size (fun k_ => (P2_ k_ ∨ w.heap.size ≤ k_) ∧ some k_ ≠ (v229 : Value).ownBlock ∧ some k_ ≠ (v232 : Value).ownBlock ∧ some k_ ≠ (v218 : Value).ownBlock ∧ some k_ ≠ (v222 : Value).ownBlock ∧ k_ ≠ gb208) (.slice (some ad227) y224.length co34) y224) := ⟨h5_⟩; have n6_ : Aside0 (w51.heap[gb208]? = some (.cells #[.int .i64 a5_0, .int .i64 a5_1, .slice A5_2 l5_2.length c5_2, .slice A5_3 l5_3.length c5_3, .slice A5_4 l5_4.length c5_4, .slice A5_5 l5_5.length c5_5, .slice A5_6 l5_6.length c5_6, .bool a5_7] 31 (0, 0))) := ⟨h6_⟩; have n7_ : Aside0 (Below w.heap.size w w51) := ⟨h7_⟩; clear HO_16; clear HO_18; clear HO_98; clear HL227_0; clear BK208; clear HR227_0; clear HB; clear h0_ h1_ h2_ h3_ h4_ h5_ h6_ h7_; revert n0_ n1_ n2_ n3_ n4_ n5_ n6_ n7_; intro HL227_0 HO230 HO233 HO_16 HO_18 HO_98 BK208 HB; have hHeld := trivial; refine norm_ (a' := ?_) ?_ ?_; rotate_left
                   ·
                    simp only [putAll, Act.put, setIfInBounds_toArray, set_cons_zero, set_cons_succ]; rfl
                   refine one_ (i := 7) (N := some 111) (mk_ 8 31) rfl rfl (one_of HT_.out (by kernel_rfl)) (by decide) (fun K hK => ?_); have hcv52 := own_string (P := Try.prog) Try.underlying27 Try.underlying5 Try.underlying9 (Kd.own_of_R HO233.out); refine value_ (w1 := ?_) (v := ?_) (by rfl) rfl ?_ ?_; rotate_left 2
                   ·
                    go_simp
                    constructor
                    ·
                     rfl
                    ·
                     rfl
                   clear hcv52; refine hK.out _ _ trivial (fun hHeld => ?_); clear hK K; refine norm_ (a' := ?_) ?_ ?_; rotate_left
                   ·
                    show Act.put _ (some 111) _ = _
                    simp only [Act.put, setIfInBounds_toArray, set_cons_zero, set_cons_succ, i64_w, i32_w]; rfl
                   refine pu_ 8 (some 112) (mk_ 9 31) HT_ ?_; refine pu_ 9 (some 113) (mk_ 10 31) HT_ ?_; refine pu_ 10 (some 114) (mk_ 11 31) HT_ ?_; refine pu_ 11 (some 115) (mk_ 12 31) HT_ ?_; refine pu_ 12 (some 116) (mk_ 13 31) HT_ ?_; refine pu_ 15 (some 119) (bm_ 31 40959) HT_ ?_; refine pu_ 16 (some 120) (bm_ 31 106495) HT_ ?_; refine pu_ 17 (some 121) (bm_ 31 237567) HT_ ?_; exact norm_ (by first | (simp only [putAll, Act.put, setIfInBounds_toArray, set_cons_zero, set_cons_succ]; done) | (simp only [putAll, Act.put, setIfInBounds_toArray, set_cons_zero, set_cons_succ]; rfl)) (hJ3_6_7 (v232) _ ⟨(kV_ HL227_0.out), (kR_ HO230.out), (kR_ HO233.out), (kR_ HO_16.out), (kR_ HO_18.out), (kN_ HO_98.out), (bk_ BK208.out), (hb1_ HB.out GE208.out)⟩)
                 ·
                  skip
                  rintro v232 w52 ⟨h0_, h1_, h2_, h3_, h4_, h5_, h6_, h7_⟩; have n0_ : Aside0 (Kd.V (Kd.int .i64) 3 w52 w.heap.size (fun k_ => (P2_ k_ ∨ w.heap.size ≤ k_) ∧ some k_ ≠ (v229 : Value).ownBlock ∧ some k_ ≠ (v232 : Value).ownBlock ∧ some k_ ≠ (v218 : Value).ownBlock ∧ some k_ ≠ (v222 : Value).ownBlock ∧ some k_ ≠ (.slice (some ad227) y224.length co34 : Value).ownBlock ∧ k_ ≠ gb208) (.slice A227_0 (rd_L5 y224 x100_3).length c227_0) (rd_L5 y224 x100_3)) := ⟨h0_⟩; have n1_ : Aside0 (Kd.R (Kd.int .u8) 5 w52 w.heap.size (fun k_ => (w.heap.size ≤ k_) ∧ some k_ ≠ (v232 : Value).ownBlock) v229 t228) := ⟨h1_⟩; have n2_ : Aside0 (Kd.R (Kd.int .u8) 5 w52 w.heap.size (fun k_ => (w.heap.size ≤ k_) ∧ some k_ ≠ (v229 : Value).ownBlock) v232 t231) := ⟨h2_⟩; have n3_ : Aside0 (Kd.R (Kd.int .i64) 3 w52 w.heap.size (fun k_ => (w.heap.size ≤ k_) ∧ some k_ ≠ (v222 : Value).ownBlock) v218 t216) := ⟨h3_⟩; have n4_ : Aside0 (Kd.R (Kd.int .i64) 3 w52 w.heap.size (fun k_ => (w.heap.size ≤ k_) ∧ some k_ ≠ (v218 : Value).ownBlock) v222 t220) := ⟨h4_⟩; have n5_ : Aside0 (Kd.N (Kd.slice 3 (Kd.int .i64)) 23 w52 w.heap.size (fun k_ => (P2_ k_ ∨ w.heap.size ≤ k_) ∧ some k_ ≠ (v229 : Value).ownBlock ∧ some k_ ≠ (v232 : Value).ownBlock ∧ some k_ ≠ (v218 : Value).ownBlock ∧ some k_ ≠ (v222 : Value).ownBlock ∧ k_ ≠ gb208) (.slice (some ad227) y224.length co34) y224) := ⟨h5_⟩; have n6_ : Aside0 (w52.heap[gb208]? = some (.cells #[.int .i64 a5_0, .int .i64 a5_1, .slice A5_2 l5_2.length c5_2, .slice A5_3 l5_3.length c5_3, .slice A5_4 l5_4.length c5_4, .slice A5_5 l5_5.length c5_5, .slice A5_6 l5_6.length c5_6, .bool a5_7] 31 (0, 0))) := ⟨h6_⟩; have n7_ : Aside0 (Below w.heap.size w w52) := ⟨h7_⟩; clear HO_16; clear HO_18; clear HO_98; clear HL227_0; clear BK208; clear HR227_0; clear HB; clear h0_ h1_ h2_ h3_ h4_ h5_ h6_ h7_; revert n0_ n1_ n2_ n3_ n4_ n5_ n6_ n7_; intro HL227_0 HO230 HO233 HO_16 HO_18 HO_98 BK208 HB; have hHeld := trivial; refine norm_ (a' := ?_) ?_ ?_; rotate_left
                  ·
                   simp only [putAll, Act.put, setIfInBounds_toArray, set_cons_zero, set_cons_succ]; rfl
                  refine one_ (i := 13) (N := some 117) (bm_ 31 245759) rfl rfl (one_of HT_.out (by kernel_rfl)) (by decide) (fun K hK => ?_); refine goes_ Try.func47 (by kernel_rfl) rfl #[.slice A0 l0.length c0, .slice A227_0 (rd_L5 y224 x100_3).length c227_0, .int .i64 a4] (by rfl) rfl rfl lm_ ?_; with_reducible refine (mask_Put.calls k3 _ _ l0 _ _ (rd_L5 y224 x100_3) a4 t234 _ ?side1 ?side2 ?side3 ?side4 A41.out).mono ?_
                  (case side1 => exact kD_ (Kd.C_below HR0.out HB.out))
                  (case side2 => exact HC0.out)
                  (case side3 => exact kD_ ((Kd.V_reads' (kV_ HL227_0.out)).2.2))
                  (case side4 => exact HC227_0.out)
                  rintro e w53 ⟨v235, rfl, ho0, hb⟩; refine ⟨_, rfl, ?_⟩; have n0_ := Aside0.mk (Kd.R_below (kR_ HO_16.out) hb); have n1_ := Aside0.mk (Kd.R_below (kR_ HO_18.out) hb); have n2_ := Aside0.mk (Kd.N_elder' (kN_ HO_98.out) (Kd.R_base ho0) hb); have n3_ := Aside0.mk (Kd.V_elder' (kV_ HL227_0.out) (Kd.R_base ho0) hb); have n4_ := Aside0.mk (Kd.R_elder' (kR_ HO230.out) (Kd.R_base ho0) hb); have n5_ := Aside0.mk (Kd.R_elder' (kR_ HO233.out) (Kd.R_base ho0) hb); have n6_ := Aside0.mk (Kd.R_lower (Kd.R_new' (Kd.R_new' (Kd.R_newM (M := fun k_ => (w.heap.size ≤ k_)) ho0 (below_size (hb1_ HB.out GE208.out)) (fun k_ h_ => h_)) (Kd.R_lt (kR_ HO230.out))) (Kd.R_lt (kR_ HO233.out))) (below_size (hb1_ HB.out GE208.out))); have n7_ := Aside0.mk (bb_ BK208.out hb); have n8_ := Aside0.mk (below_step (hb1_ HB.out GE208.out) hb); clear HO_16; clear HO_18; clear HO_98; clear HL227_0; clear HO230; clear HO233; clear BK208; clear HB; revert n0_ n1_ n2_ n3_ n4_ n5_ n6_ n7_ n8_; intro HO_16 HO_18 HO_98 HL227_0 HO230 HO233 HO236 BK208 HB; (try clear hb)
                  (try clear hb2)
                  (try clear hk)
                  (try clear hi)
                  (try clear ho0)
                  refine hK.out _ _ trivial (fun hHeld => ?_); clear hK K; refine norm_ (a' := ?_) ?_ ?_; rotate_left
                  ·
                   show Act.put _ (some 117) _ = _
                   simp only [Act.put, setIfInBounds_toArray, set_cons_zero, set_cons_succ, i64_w, i32_w]; rfl
                  exact norm_ (by first | (simp only [putAll, Act.put, setIfInBounds_toArray, set_cons_zero, set_cons_succ]; done) | (simp only [putAll, Act.put, setIfInBounds_toArray, set_cons_zero, set_cons_succ]; rfl)) (hJ3_6_7_13 (v232, v235) _ ⟨(by (with_reducible repeat (first | apply Kd.V_alloc | apply Kd.V_drewN | apply Kd.V_drew)); exact Kd.V_mono HL227_0.out (fun _ hk => ⟨hk.1.1, ⟨hk.1.2.1, ⟨hk.1.2.2.1, ⟨hk.2, ⟨hk.1.2.2.2.1, ⟨hk.1.2.2.2.2.1, ⟨hk.1.2.2.2.2.2.1, hk.1.2.2.2.2.2.2⟩⟩⟩⟩⟩⟩⟩)), (by (with_reducible repeat (first | apply Kd.R_alloc | apply Kd.R_drewN | apply Kd.R_drew)); exact Kd.R_mono HO230.out (fun _ hk => ⟨hk.1.1, ⟨hk.1.2, hk.2⟩⟩)), (by (with_reducible repeat (first | apply Kd.R_alloc | apply Kd.R_drewN | apply Kd.R_drew)); exact Kd.R_mono HO233.out (fun _ hk => ⟨hk.1.1, ⟨hk.1.2, hk.2⟩⟩)), (by (with_reducible repeat (first | apply Kd.R_alloc | apply Kd.R_drewN | apply Kd.R_drew)); exact Kd.R_mono HO236.out (fun _ hk => ⟨hk.1.1.1, ⟨hk.1.2, hk.2⟩⟩)), (kR_ HO_16.out), (kR_ HO_18.out), (by (with_reducible repeat (first | apply Kd.N_alloc | apply Kd.N_drewN | apply Kd.N_drew)); exact Kd.N_mono HO_98.out (fun _ hk => ⟨hk.1.1, ⟨hk.1.2.1, ⟨hk.1.2.2.1, ⟨hk.2, ⟨hk.1.2.2.2.1, ⟨hk.1.2.2.2.2.1, hk.1.2.2.2.2.2⟩⟩⟩⟩⟩⟩)), (bk_ BK208.out), (hb1_ HB.out GE208.out)⟩)
                ·
                 skip
                 rintro ⟨v232, v235⟩ w53 ⟨h0_, h1_, h2_, h3_, h4_, h5_, h6_, h7_, h8_⟩; have n0_ : Aside0 (Kd.V (Kd.int .i64) 3 w53 w.heap.size (fun k_ => (P2_ k_ ∨ w.heap.size ≤ k_) ∧ some k_ ≠ (v229 : Value).ownBlock ∧ some k_ ≠ (v232 : Value).ownBlock ∧ some k_ ≠ (v235 : Value).ownBlock ∧ some k_ ≠ (v218 : Value).ownBlock ∧ some k_ ≠ (v222 : Value).ownBlock ∧ some k_ ≠ (.slice (some ad227) y224.length co34 : Value).ownBlock ∧ k_ ≠ gb208) (.slice A227_0 (rd_L5 y224 x100_3).length c227_0) (rd_L5 y224 x100_3)) := ⟨h0_⟩; have n1_ : Aside0 (Kd.R (Kd.int .u8) 5 w53 w.heap.size (fun k_ => (w.heap.size ≤ k_) ∧ some k_ ≠ (v232 : Value).ownBlock ∧ some k_ ≠ (v235 : Value).ownBlock) v229 t228) := ⟨h1_⟩; have n2_ : Aside0 (Kd.R (Kd.int .u8) 5 w53 w.heap.size (fun k_ => (w.heap.size ≤ k_) ∧ some k_ ≠ (v229 : Value).ownBlock ∧ some k_ ≠ (v235 : Value).ownBlock) v232 t231) := ⟨h2_⟩; have n3_ : Aside0 (Kd.R (Kd.int .u8) 5 w53 w.heap.size (fun k_ => (w.heap.size ≤ k_) ∧ some k_ ≠ (v229 : Value).ownBlock ∧ some k_ ≠ (v232 : Value).ownBlock) v235 t234) := ⟨h3_⟩; have n4_ : Aside0 (Kd.R (Kd.int .i64) 3 w53 w.heap.size (fun k_ => (w.heap.size ≤ k_) ∧ some k_ ≠ (v222 : Value).ownBlock) v218 t216) := ⟨h4_⟩; have n5_ : Aside0 (Kd.R (Kd.int .i64) 3 w53 w.heap.size (fun k_ => (w.heap.size ≤ k_) ∧ some k_ ≠ (v218 : Value).ownBlock) v222 t220) := ⟨h5_⟩; have n6_ : Aside0 (Kd.N (Kd.slice 3 (Kd.int .i64)) 23 w53 w.heap.size (fun k_ => (P2_ k_ ∨ w.heap.size ≤ k_) ∧ some k_ ≠ (v229 : Value).ownBlock ∧ some k_ ≠ (v232 : Value).ownBlock ∧ some k_ ≠ (v235 : Value).ownBlock ∧ some k_ ≠ (v218 : Value).ownBlock ∧ some k_ ≠ (v222 : Value).ownBlock ∧ k_ ≠ gb208) (.slice (some ad227) y224.length co34) y224) := ⟨h6_⟩; have n7_ : Aside0 (w53.heap[gb208]? = some (.cells #[.int .i64 a5_0, .int .i64 a5_1, .slice A5_2 l5_2.length c5_2, .slice A5_3 l5_3.length c5_3, .slice A5_4 l5_4.length c5_4, .slice A5_5 l5_5.length c5_5, .slice A5_6 l5_6.length c5_6, .bool a5_7] 31 (0, 0))) := ⟨h7_⟩; have n8_ : Aside0 (Below w.heap.size w w53) := ⟨h8_⟩; clear HO_16; clear HO_18; clear HO_98; clear HL227_0; clear BK208; clear HR227_0; clear HB; clear h0_ h1_ h2_ h3_ h4_ h5_ h6_ h7_ h8_; revert n0_ n1_ n2_ n3_ n4_ n5_ n6_ n7_ n8_; intro HL227_0 HO230 HO233 HO236 HO_16 HO_18 HO_98 BK208 HB; have hHeld := trivial; refine norm_ (a' := ?_) ?_ ?_; rotate_left
                 ·
                  simp only [putAll, Act.put, setIfInBounds_toArray, set_cons_zero, set_cons_succ]; rfl
                 refine two_ (i := 14) (j := 18) (Ni := some 118) (Nj := some 122) (mk_ 18 31) (bm_ 31 507903) rfl rfl rfl rfl (two_of HT_.out (by kernel_rfl)) (by decide) (by decide) (fun K hK => ?_) (fun K hK => ?_)
                 ·
                  skip
                  have hcv54 := own_string (P := Try.prog) Try.underlying27 Try.underlying5 Try.underlying9 (Kd.own_of_R HO236.out); refine value_ (w1 := ?_) (v := ?_) (by rfl) rfl ?_ ?_; rotate_left 2
                  ·
                   go_simp
                   constructor
                   ·
                    rfl
                   ·
                    rfl
                  clear hcv54; refine hK.out _ _ trivial (fun hHeld => ?_); clear hK K; refine norm_ (a' := ?_) ?_ ?_; rotate_left
                  ·
                   show Act.put _ (some 118) _ = _
                   simp only [Act.put, setIfInBounds_toArray, set_cons_zero, set_cons_succ, i64_w, i32_w]; rfl
                  exact norm_ (by first | (simp only [putAll, Act.put, setIfInBounds_toArray, set_cons_zero, set_cons_succ]; done) | (simp only [putAll, Act.put, setIfInBounds_toArray, set_cons_zero, set_cons_succ]; rfl)) (hJ3_6_7_13_14 (v232, v235) _ ⟨(kV_ HL227_0.out), (kR_ HO230.out), (kR_ HO233.out), (kR_ HO236.out), (kR_ HO_16.out), (kR_ HO_18.out), (kN_ HO_98.out), (bk_ BK208.out), (hb1_ HB.out GE208.out)⟩)
                 ·
                  skip
                  refine goes_ Try.func54 (by kernel_rfl) rfl #[.slice A0 l0.length c0, .slice A227_0 (rd_L5 y224 x100_3).length c227_0, .int .i64 a4] (by rfl) rfl rfl lm_ ?_; with_reducible refine (ref15_Put.calls k3 _ _ l0 _ _ (rd_L5 y224 x100_3) a4 t237 _ ?side1 ?side2 ?side3 ?side4 A42.out).mono ?_
                  (case side1 => exact kD_ (Kd.C_below HR0.out HB.out))
                  (case side2 => exact HC0.out)
                  (case side3 => exact kD_ ((Kd.V_reads' (kV_ HL227_0.out)).2.2))
                  (case side4 => exact HC227_0.out)
                  rintro e w54 ⟨v238, rfl, ho0, hb⟩; refine ⟨_, rfl, ?_⟩; have n0_ := Aside0.mk (Kd.R_below (kR_ HO_16.out) hb); have n1_ := Aside0.mk (Kd.R_below (kR_ HO_18.out) hb); have n2_ := Aside0.mk (Kd.N_elder' (kN_ HO_98.out) (Kd.R_base ho0) hb); have n3_ := Aside0.mk (Kd.V_elder' (kV_ HL227_0.out) (Kd.R_base ho0) hb); have n4_ := Aside0.mk (Kd.R_elder' (kR_ HO230.out) (Kd.R_base ho0) hb); have n5_ := Aside0.mk (Kd.R_elder' (kR_ HO233.out) (Kd.R_base ho0) hb); have n6_ := Aside0.mk (Kd.R_elder' (kR_ HO236.out) (Kd.R_base ho0) hb); have n7_ := Aside0.mk (Kd.R_lower (Kd.R_new' (Kd.R_new' (Kd.R_new' (Kd.R_newM (M := fun k_ => (w.heap.size ≤ k_)) ho0 (below_size (hb1_ HB.out GE208.out)) (fun k_ h_ => h_)) (Kd.R_lt (kR_ HO230.out))) (Kd.R_lt (kR_ HO233.out))) (Kd.R_lt (kR_ HO236.out))) (below_size (hb1_ HB.out GE208.out))); have n8_ := Aside0.mk (bb_ BK208.out hb); have n9_ := Aside0.mk (below_step (hb1_ HB.out GE208.out) hb); clear HO_16; clear HO_18; clear HO_98; clear HL227_0; clear HO230; clear HO233; clear HO236; clear BK208; clear HB; revert n0_ n1_ n2_ n3_ n4_ n5_ n6_ n7_ n8_ n9_; intro HO_16 HO_18 HO_98 HL227_0 HO230 HO233 HO236 HO239 BK208 HB; (try clear hb)
                  (try clear hb2)
                  (try clear hk)
                  (try clear hi)
                  (try clear ho0)
                  refine hK.out _ _ trivial (fun hHeld => ?_); clear hK K; refine norm_ (a' := ?_) ?_ ?_; rotate_left
                  ·
                   show Act.put _ (some 122) _ = _
                   simp only [Act.put, setIfInBounds_toArray, set_cons_zero, set_cons_succ, i64_w, i32_w]; rfl
                  exact norm_ (by first | (simp only [putAll, Act.put, setIfInBounds_toArray, set_cons_zero, set_cons_succ]; done) | (simp only [putAll, Act.put, setIfInBounds_toArray, set_cons_zero, set_cons_succ]; rfl)) (hJ3_6_7_13_18 (v232, v235, v238) _ ⟨(by (with_reducible repeat (first | apply Kd.V_alloc | apply Kd.V_drewN | apply Kd.V_drew)); exact Kd.V_mono HL227_0.out (fun _ hk => ⟨hk.1.1, ⟨hk.1.2.1, ⟨hk.1.2.2.1, ⟨hk.1.2.2.2.1, ⟨hk.2, ⟨hk.1.2.2.2.2.1, ⟨hk.1.2.2.2.2.2.1, ⟨hk.1.2.2.2.2.2.2.1, hk.1.2.2.2.2.2.2.2⟩⟩⟩⟩⟩⟩⟩⟩)), (by (with_reducible repeat (first | apply Kd.R_alloc | apply Kd.R_drewN | apply Kd.R_drew)); exact Kd.R_mono HO230.out (fun _ hk => ⟨hk.1.1, ⟨hk.1.2.1, ⟨hk.1.2.2, hk.2⟩⟩⟩)), (by (with_reducible repeat (first | apply Kd.R_alloc | apply Kd.R_drewN | apply Kd.R_drew)); exact Kd.R_mono HO233.out (fun _ hk => ⟨hk.1.1, ⟨hk.1.2.1, ⟨hk.1.2.2, hk.2⟩⟩⟩)), (by (with_reducible repeat (first | apply Kd.R_alloc | apply Kd.R_drewN | apply Kd.R_drew)); exact Kd.R_mono HO236.out (fun _ hk => ⟨hk.1.1, ⟨hk.1.2.1, ⟨hk.1.2.2, hk.2⟩⟩⟩)), (by (with_reducible repeat (first | apply Kd.R_alloc | apply Kd.R_drewN | apply Kd.R_drew)); exact Kd.R_mono HO239.out (fun _ hk => ⟨hk.1.1.1.1, ⟨hk.1.1.2, ⟨hk.1.2, hk.2⟩⟩⟩)), (kR_ HO_16.out), (kR_ HO_18.out), (by (with_reducible repeat (first | apply Kd.N_alloc | apply Kd.N_drewN | apply Kd.N_drew)); exact Kd.N_mono HO_98.out (fun _ hk => ⟨hk.1.1, ⟨hk.1.2.1, ⟨hk.1.2.2.1, ⟨hk.1.2.2.2.1, ⟨hk.2, ⟨hk.1.2.2.2.2.1, ⟨hk.1.2.2.2.2.2.1, hk.1.2.2.2.2.2.2⟩⟩⟩⟩⟩⟩⟩)), (bk_ BK208.out), (hb1_ HB.out GE208.out)⟩)
               ·
                skip
                rintro ⟨v232, v235, v238⟩ w54 ⟨h0_, h1_, h2_, h3_, h4_, h5_, h6_, h7_, h8_, h9_⟩; have n0_ : Aside0 (Kd.V (Kd.int .i64) 3 w54 w.heap.size (fun k_ => (P2_ k_ ∨ w.heap.size ≤ k_) ∧ some k_ ≠ (v229 : Value).ownBlock ∧ some k_ ≠ (v232 : Value).ownBlock ∧ some k_ ≠ (v235 : Value).ownBlock ∧ some k_ ≠ (v238 : Value).ownBlock ∧ some k_ ≠ (v218 : Value).ownBlock ∧ some k_ ≠ (v222 : Value).ownBlock ∧ some k_ ≠ (.slice (some ad227) y224.length co34 : Value).ownBlock ∧ k_ ≠ gb208) (.slice A227_0 (rd_L5 y224 x100_3).length c227_0) (rd_L5 y224 x100_3)) := ⟨h0_⟩; have n1_ : Aside0 (Kd.R (Kd.int .u8) 5 w54 w.heap.size (fun k_ => (w.heap.size ≤ k_) ∧ some k_ ≠ (v232 : Value).ownBlock ∧ some k_ ≠ (v235 : Value).ownBlock ∧ some k_ ≠ (v238 : Value).ownBlock) v229 t228) := ⟨h1_⟩; have n2_ : Aside0 (Kd.R (Kd.int .u8) 5 w54 w.heap.size (fun k_ => (w.heap.size ≤ k_) ∧ some k_ ≠ (v229 : Value).ownBlock ∧ some k_ ≠ (v235 : Value).ownBlock ∧ some k_ ≠ (v238 : Value).ownBlock) v232 t231) := ⟨h2_⟩; have n3_ : Aside0 (Kd.R (Kd.int .u8) 5 w54 w.heap.size (fun k_ => (w.heap.size ≤ k_) ∧ some k_ ≠ (v229 : Value).ownBlock ∧ some k_ ≠ (v232 : Value).ownBlock ∧ some k_ ≠ (v238 : Value).ownBlock) v235 t234) := ⟨h3_⟩; have n4_ : Aside0 (Kd.R (Kd.int .u8) 5 w54 w.heap.size (fun k_ => (w.heap.size ≤ k_) ∧ some k_ ≠ (v229 : Value).ownBlock ∧ some k_ ≠ (v232 : Value).ownBlock ∧ some k_ ≠ (v235 : Value).ownBlock) v238 t237) := ⟨h4_⟩; have n5_ : Aside0 (Kd.R (Kd.int .i64) 3 w54 w.heap.size (fun k_ => (w.heap.size ≤ k_) ∧ some k_ ≠ (v222 : Value).ownBlock) v218 t216) := ⟨h5_⟩; have n6_ : Aside0 (Kd.R (Kd.int .i64) 3 w54 w.heap.size (fun k_ => (w.heap.size ≤ k_) ∧ some k_ ≠ (v218 : Value).ownBlock) v222 t220) := ⟨h6_⟩; have n7_ : Aside0 (Kd.N (Kd.slice 3 (Kd.int .i64)) 23 w54 w.heap.size (fun k_ => (P2_ k_ ∨ w.heap.size ≤ k_) ∧ some k_ ≠ (v229 : Value).ownBlock ∧ some k_ ≠ (v232 : Value).ownBlock ∧ some k_ ≠ (v235 : Value).ownBlock ∧ some k_ ≠ (v238 : Value).ownBlock ∧ some k_ ≠ (v218 : Value).ownBlock ∧ some k_ ≠ (v222 : Value).ownBlock ∧ k_ ≠ gb208) (.slice (some ad227) y224.length co34) y224) := ⟨h7_⟩; have n8_ : Aside0 (w54.heap[gb208]? = some (.cells #[.int .i64 a5_0, .int .i64 a5_1, .slice A5_2 l5_2.length c5_2, .slice A5_3 l5_3.length c5_3, .slice A5_4 l5_4.length c5_4, .slice A5_5 l5_5.length c5_5, .slice A5_6 l5_6.length c5_6, .bool a5_7] 31 (0, 0))) := ⟨h8_⟩; have n9_ : Aside0 (Below w.heap.size w w54) := ⟨h9_⟩; clear HO_16; clear HO_18; clear HO_98; clear HL227_0; clear BK208; clear HR227_0; clear HB; clear h0_ h1_ h2_ h3_ h4_ h5_ h6_ h7_ h8_ h9_; revert n0_ n1_ n2_ n3_ n4_ n5_ n6_ n7_ n8_ n9_; intro HL227_0 HO230 HO233 HO236 HO239 HO_16 HO_18 HO_98 BK208 HB; have hHeld := trivial; refine norm_ (a' := ?_) ?_ ?_; rotate_left
                ·
                 simp only [putAll, Act.put, setIfInBounds_toArray, set_cons_zero, set_cons_succ]; rfl
                refine two_ (i := 14) (j := 19) (Ni := some 118) (Nj := some 123) (mk_ 19 31) (bm_ 31 1032191) rfl rfl rfl rfl (two_of HT_.out (by kernel_rfl)) (by decide) (by decide) (fun K hK => ?_) (fun K hK => ?_)
                ·
                 skip
                 have hcv55 := own_string (P := Try.prog) Try.underlying27 Try.underlying5 Try.underlying9 (Kd.own_of_R HO236.out); refine value_ (w1 := ?_) (v := ?_) (by rfl) rfl ?_ ?_; rotate_left 2
                 ·
                  go_simp
                  constructor
                  ·
                   rfl
                  ·
                   rfl
                 clear hcv55; refine hK.out _ _ trivial (fun hHeld => ?_); clear hK K; refine norm_ (a' := ?_) ?_ ?_; rotate_left
                 ·
                  show Act.put _ (some 118) _ = _
                  simp only [Act.put, setIfInBounds_toArray, set_cons_zero, set_cons_succ, i64_w, i32_w]; rfl
                 exact norm_ (by first | (simp only [putAll, Act.put, setIfInBounds_toArray, set_cons_zero, set_cons_succ]; done) | (simp only [putAll, Act.put, setIfInBounds_toArray, set_cons_zero, set_cons_succ]; rfl)) (hJ3_6_7_13_14_18 (v232, v235, v238) _ ⟨(kV_ HL227_0.out), (kR_ HO230.out), (kR_ HO233.out), (kR_ HO236.out), (kR_ HO239.out), (kR_ HO_16.out), (kR_ HO_18.out), (kN_ HO_98.out), (bk_ BK208.out), (hb1_ HB.out GE208.out)⟩)
                ·
                 skip
                 have hcv55 := own_string (P := Try.prog) Try.underlying27 Try.underlying5 Try.underlying9 (Kd.own_of_R HO239.out); refine value_ (w1 := ?_) (v := ?_) (by rfl) rfl ?_ ?_; rotate_left 2
                 ·
                  go_simp
                  constructor
                  ·
                   rfl
                  ·
                   rfl
                 clear hcv55; refine hK.out _ _ trivial (fun hHeld => ?_); clear hK K; refine norm_ (a' := ?_) ?_ ?_; rotate_left
                 ·
                  show Act.put _ (some 123) _ = _
                  simp only [Act.put, setIfInBounds_toArray, set_cons_zero, set_cons_succ, i64_w, i32_w]; rfl
                 exact norm_ (by first | (simp only [putAll, Act.put, setIfInBounds_toArray, set_cons_zero, set_cons_succ]; done) | (simp only [putAll, Act.put, setIfInBounds_toArray, set_cons_zero, set_cons_succ]; rfl)) (hJ3_6_7_13_18_19 (v232, v235, v238) _ ⟨(kV_ HL227_0.out), (kR_ HO230.out), (kR_ HO233.out), (kR_ HO236.out), (kR_ HO239.out), (kR_ HO_16.out), (kR_ HO_18.out), (kN_ HO_98.out), (bk_ BK208.out), (hb1_ HB.out GE208.out)⟩)
              ·
               skip
               rintro ⟨v232, v235⟩ w54 ⟨h0_, h1_, h2_, h3_, h4_, h5_, h6_, h7_, h8_⟩; have n0_ : Aside0 (Kd.V (Kd.int .i64) 3 w54 w.heap.size (fun k_ => (P2_ k_ ∨ w.heap.size ≤ k_) ∧ some k_ ≠ (v229 : Value).ownBlock ∧ some k_ ≠ (v232 : Value).ownBlock ∧ some k_ ≠ (v235 : Value).ownBlock ∧ some k_ ≠ (v218 : Value).ownBlock ∧ some k_ ≠ (v222 : Value).ownBlock ∧ some k_ ≠ (.slice (some ad227) y224.length co34 : Value).ownBlock ∧ k_ ≠ gb208) (.slice A227_0 (rd_L5 y224 x100_3).length c227_0) (rd_L5 y224 x100_3)) := ⟨h0_⟩; have n1_ : Aside0 (Kd.R (Kd.int .u8) 5 w54 w.heap.size (fun k_ => (w.heap.size ≤ k_) ∧ some k_ ≠ (v232 : Value).ownBlock ∧ some k_ ≠ (v235 : Value).ownBlock) v229 t228) := ⟨h1_⟩; have n2_ : Aside0 (Kd.R (Kd.int .u8) 5 w54 w.heap.size (fun k_ => (w.heap.size ≤ k_) ∧ some k_ ≠ (v229 : Value).ownBlock ∧ some k_ ≠ (v235 : Value).ownBlock) v232 t231) := ⟨h2_⟩; have n3_ : Aside0 (Kd.R (Kd.int .u8) 5 w54 w.heap.size (fun k_ => (w.heap.size ≤ k_) ∧ some k_ ≠ (v229 : Value).ownBlock ∧ some k_ ≠ (v232 : Value).ownBlock) v235 t234) := ⟨h3_⟩; have n4_ : Aside0 (Kd.R (Kd.int .i64) 3 w54 w.heap.size (fun k_ => (w.heap.size ≤ k_) ∧ some k_ ≠ (v222 : Value).ownBlock) v218 t216) := ⟨h4_⟩; have n5_ : Aside0 (Kd.R (Kd.int .i64) 3 w54 w.heap.size (fun k_ => (w.heap.size ≤ k_) ∧ some k_ ≠ (v218 : Value).ownBlock) v222 t220) := ⟨h5_⟩; have n6_ : Aside0 (Kd.N (Kd.slice 3 (Kd.int .i64)) 23 w54 w.heap.size (fun k_ => (P2_ k_ ∨ w.heap.size ≤ k_) ∧ some k_ ≠ (v229 : Value).ownBlock ∧ some k_ ≠ (v232 : Value).ownBlock ∧ some k_ ≠ (v235 : Value).ownBlock ∧ some k_ ≠ (v218 : Value).ownBlock ∧ some k_ ≠ (v222 : Value).ownBlock ∧ k_ ≠ gb208) (.slice (some ad227) y224.length co34) y224) := ⟨h6_⟩; have n7_ : Aside0 (w54.heap[gb208]? = some (.cells #[.int .i64 a5_0, .int .i64 a5_1, .slice A5_2 l5_2.length c5_2, .slice A5_3 l5_3.length c5_3, .slice A5_4 l5_4.length c5_4, .slice A5_5 l5_5.length c5_5, .slice A5_6 l5_6.length c5_6, .bool a5_7] 31 (0, 0))) := ⟨h7_⟩; have n8_ : Aside0 (Below w.heap.size w w54) := ⟨h8_⟩; clear HO_16; clear HO_18; clear HO_98; clear HL227_0; clear BK208; clear HR227_0; clear HB; clear h0_ h1_ h2_ h3_ h4_ h5_ h6_ h7_ h8_; revert n0_ n1_ n2_ n3_ n4_ n5_ n6_ n7_ n8_; intro HL227_0 HO230 HO233 HO236 HO_16 HO_18 HO_98 BK208 HB; have hHeld := trivial; refine norm_ (a' := ?_) ?_ ?_; rotate_left
               ·
                simp only [putAll, Act.put, setIfInBounds_toArray, set_cons_zero, set_cons_succ]; rfl
               refine one_ (i := 18) (N := some 122) (mk_ 19 31) rfl rfl (one_of HT_.out (by kernel_rfl)) (by decide) (fun K hK => ?_); refine goes_ Try.func54 (by kernel_rfl) rfl #[.slice A0 l0.length c0, .slice A227_0 (rd_L5 y224 x100_3).length c227_0, .int .i64 a4] (by rfl) rfl rfl lm_ ?_; with_reducible refine (ref15_Put.calls k3 _ _ l0 _ _ (rd_L5 y224 x100_3) a4 t237 _ ?side1 ?side2 ?side3 ?side4 A42.out).mono ?_
               (case side1 => exact kD_ (Kd.C_below HR0.out HB.out))
               (case side2 => exact HC0.out)
               (case side3 => exact kD_ ((Kd.V_reads' (kV_ HL227_0.out)).2.2))
               (case side4 => exact HC227_0.out)
               rintro e w55 ⟨v238, rfl, ho0, hb⟩; refine ⟨_, rfl, ?_⟩; have n0_ := Aside0.mk (Kd.R_below (kR_ HO_16.out) hb); have n1_ := Aside0.mk (Kd.R_below (kR_ HO_18.out) hb); have n2_ := Aside0.mk (Kd.N_elder' (kN_ HO_98.out) (Kd.R_base ho0) hb); have n3_ := Aside0.mk (Kd.V_elder' (kV_ HL227_0.out) (Kd.R_base ho0) hb); have n4_ := Aside0.mk (Kd.R_elder' (kR_ HO230.out) (Kd.R_base ho0) hb); have n5_ := Aside0.mk (Kd.R_elder' (kR_ HO233.out) (Kd.R_base ho0) hb); have n6_ := Aside0.mk (Kd.R_elder' (kR_ HO236.out) (Kd.R_base ho0) hb); have n7_ := Aside0.mk (Kd.R_lower (Kd.R_new' (Kd.R_new' (Kd.R_new' (Kd.R_newM (M := fun k_ => (w.heap.size ≤ k_)) ho0 (below_size (hb1_ HB.out GE208.out)) (fun k_ h_ => h_)) (Kd.R_lt (kR_ HO230.out))) (Kd.R_lt (kR_ HO233.out))) (Kd.R_lt (kR_ HO236.out))) (below_size (hb1_ HB.out GE208.out))); have n8_ := Aside0.mk (bb_ BK208.out hb); have n9_ := Aside0.mk (below_step (hb1_ HB.out GE208.out) hb); clear HO_16; clear HO_18; clear HO_98; clear HL227_0; clear HO230; clear HO233; clear HO236; clear BK208; clear HB; revert n0_ n1_ n2_ n3_ n4_ n5_ n6_ n7_ n8_ n9_; intro HO_16 HO_18 HO_98 HL227_0 HO230 HO233 HO236 HO239 BK208 HB; (try clear hb)
               (try clear hb2)
               (try clear hk)
               (try clear hi)
               (try clear ho0)
               refine hK.out _ _ trivial (fun hHeld => ?_); clear hK K; refine norm_ (a' := ?_) ?_ ?_; rotate_left
               ·
                show Act.put _ (some 122) _ = _
                simp only [Act.put, setIfInBounds_toArray, set_cons_zero, set_cons_succ, i64_w, i32_w]; rfl
               exact norm_ (by first | (simp only [putAll, Act.put, setIfInBounds_toArray, set_cons_zero, set_cons_succ]; done) | (simp only [putAll, Act.put, setIfInBounds_toArray, set_cons_zero, set_cons_succ]; rfl)) (hJ3_6_7_13_14_18 (v232, v235, v238) _ ⟨(by (with_reducible repeat (first | apply Kd.V_alloc | apply Kd.V_drewN | apply Kd.V_drew)); exact Kd.V_mono HL227_0.out (fun _ hk => ⟨hk.1.1, ⟨hk.1.2.1, ⟨hk.1.2.2.1, ⟨hk.1.2.2.2.1, ⟨hk.2, ⟨hk.1.2.2.2.2.1, ⟨hk.1.2.2.2.2.2.1, ⟨hk.1.2.2.2.2.2.2.1, hk.1.2.2.2.2.2.2.2⟩⟩⟩⟩⟩⟩⟩⟩)), (by (with_reducible repeat (first | apply Kd.R_alloc | apply Kd.R_drewN | apply Kd.R_drew)); exact Kd.R_mono HO230.out (fun _ hk => ⟨hk.1.1, ⟨hk.1.2.1, ⟨hk.1.2.2, hk.2⟩⟩⟩)), (by (with_reducible repeat (first | apply Kd.R_alloc | apply Kd.R_drewN | apply Kd.R_drew)); exact Kd.R_mono HO233.out (fun _ hk => ⟨hk.1.1, ⟨hk.1.2.1, ⟨hk.1.2.2, hk.2⟩⟩⟩)), (by (with_reducible repeat (first | apply Kd.R_alloc | apply Kd.R_drewN | apply Kd.R_drew)); exact Kd.R_mono HO236.out (fun _ hk => ⟨hk.1.1, ⟨hk.1.2.1, ⟨hk.1.2.2, hk.2⟩⟩⟩)), (by (with_reducible repeat (first | apply Kd.R_alloc | apply Kd.R_drewN | apply Kd.R_drew)); exact Kd.R_mono HO239.out (fun _ hk => ⟨hk.1.1.1.1, ⟨hk.1.1.2, ⟨hk.1.2, hk.2⟩⟩⟩)), (kR_ HO_16.out), (kR_ HO_18.out), (by (with_reducible repeat (first | apply Kd.N_alloc | apply Kd.N_drewN | apply Kd.N_drew)); exact Kd.N_mono HO_98.out (fun _ hk => ⟨hk.1.1, ⟨hk.1.2.1, ⟨hk.1.2.2.1, ⟨hk.1.2.2.2.1, ⟨hk.2, ⟨hk.1.2.2.2.2.1, ⟨hk.1.2.2.2.2.2.1, hk.1.2.2.2.2.2.2⟩⟩⟩⟩⟩⟩⟩)), (bk_ BK208.out), (hb1_ HB.out GE208.out)⟩)
             ·
              skip
              rintro ⟨v232, v235, v238⟩ w55 ⟨h0_, h1_, h2_, h3_, h4_, h5_, h6_, h7_, h8_, h9_⟩; have n0_ : Aside0 (Kd.V (Kd.int .i64) 3 w55 w.heap.size (fun k_ => (P2_ k_ ∨ w.heap.size ≤ k_) ∧ some k_ ≠ (v229 : Value).ownBlock ∧ some k_ ≠ (v232 : Value).ownBlock ∧ some k_ ≠ (v235 : Value).ownBlock ∧ some k_ ≠ (v238 : Value).ownBlock ∧ some k_ ≠ (v218 : Value).ownBlock ∧ some k_ ≠ (v222 : Value).ownBlock ∧ some k_ ≠ (.slice (some ad227) y224.length co34 : Value).ownBlock ∧ k_ ≠ gb208) (.slice A227_0 (rd_L5 y224 x100_3).length c227_0) (rd_L5 y224 x100_3)) := ⟨h0_⟩; have n1_ : Aside0 (Kd.R (Kd.int .u8) 5 w55 w.heap.size (fun k_ => (w.heap.size ≤ k_) ∧ some k_ ≠ (v232 : Value).ownBlock ∧ some k_ ≠ (v235 : Value).ownBlock ∧ some k_ ≠ (v238 : Value).ownBlock) v229 t228) := ⟨h1_⟩; have n2_ : Aside0 (Kd.R (Kd.int .u8) 5 w55 w.heap.size (fun k_ => (w.heap.size ≤ k_) ∧ some k_ ≠ (v229 : Value).ownBlock ∧ some k_ ≠ (v235 : Value).ownBlock ∧ some k_ ≠ (v238 : Value).ownBlock) v232 t231) := ⟨h2_⟩; have n3_ : Aside0 (Kd.R (Kd.int .u8) 5 w55 w.heap.size (fun k_ => (w.heap.size ≤ k_) ∧ some k_ ≠ (v229 : Value).ownBlock ∧ some k_ ≠ (v232 : Value).ownBlock ∧ some k_ ≠ (v238 : Value).ownBlock) v235 t234) := ⟨h3_⟩; have n4_ : Aside0 (Kd.R (Kd.int .u8) 5 w55 w.heap.size (fun k_ => (w.heap.size ≤ k_) ∧ some k_ ≠ (v229 : Value).ownBlock ∧ some k_ ≠ (v232 : Value).ownBlock ∧ some k_ ≠ (v235 : Value).ownBlock) v238 t237) := ⟨h4_⟩; have n5_ : Aside0 (Kd.R (Kd.int .i64) 3 w55 w.heap.size (fun k_ => (w.heap.size ≤ k_) ∧ some k_ ≠ (v222 : Value).ownBlock) v218 t216) := ⟨h5_⟩; have n6_ : Aside0 (Kd.R (Kd.int .i64) 3 w55 w.heap.size (fun k_ => (w.heap.size ≤ k_) ∧ some k_ ≠ (v218 : Value).ownBlock) v222 t220) := ⟨h6_⟩; have n7_ : Aside0 (Kd.N (Kd.slice 3 (Kd.int .i64)) 23 w55 w.heap.size (fun k_ => (P2_ k_ ∨ w.heap.size ≤ k_) ∧ some k_ ≠ (v229 : Value).ownBlock ∧ some k_ ≠ (v232 : Value).ownBlock ∧ some k_ ≠ (v235 : Value).ownBlock ∧ some k_ ≠ (v238 : Value).ownBlock ∧ some k_ ≠ (v218 : Value).ownBlock ∧ some k_ ≠ (v222 : Value).ownBlock ∧ k_ ≠ gb208) (.slice (some ad227) y224.length co34) y224) := ⟨h7_⟩; have n8_ : Aside0 (w55.heap[gb208]? = some (.cells #[.int .i64 a5_0, .int .i64 a5_1, .slice A5_2 l5_2.length c5_2, .slice A5_3 l5_3.length c5_3, .slice A5_4 l5_4.length c5_4, .slice A5_5 l5_5.length c5_5, .slice A5_6 l5_6.length c5_6, .bool a5_7] 31 (0, 0))) := ⟨h8_⟩; have n9_ : Aside0 (Below w.heap.size w w55) := ⟨h9_⟩; clear HO_16; clear HO_18; clear HO_98; clear HL227_0; clear BK208; clear HR227_0; clear HB; clear h0_ h1_ h2_ h3_ h4_ h5_ h6_ h7_ h8_ h9_; revert n0_ n1_ n2_ n3_ n4_ n5_ n6_ n7_ n8_ n9_; intro HL227_0 HO230 HO233 HO236 HO239 HO_16 HO_18 HO_98 BK208 HB; have hHeld := trivial; refine norm_ (a' := ?_) ?_ ?_; rotate_left
              ·
               simp only [putAll, Act.put, setIfInBounds_toArray, set_cons_zero, set_cons_succ]; rfl
              refine one_ (i := 14) (N := some 118) (mk_ 20 31) rfl rfl (one_of HT_.out (by kernel_rfl)) (by decide) (fun K hK => ?_); have hcv56 := own_string (P := Try.prog) Try.underlying27 Try.underlying5 Try.underlying9 (Kd.own_of_R HO236.out); refine value_ (w1 := ?_) (v := ?_) (by rfl) rfl ?_ ?_; rotate_left 2
              ·
               go_simp
               constructor
               ·
                rfl
               ·
                rfl
              clear hcv56; refine hK.out _ _ trivial (fun hHeld => ?_); clear hK K; refine norm_ (a' := ?_) ?_ ?_; rotate_left
              ·
               show Act.put _ (some 118) _ = _
               simp only [Act.put, setIfInBounds_toArray, set_cons_zero, set_cons_succ, i64_w, i32_w]; rfl
              exact norm_ (by first | (simp only [putAll, Act.put, setIfInBounds_toArray, set_cons_zero, set_cons_succ]; done) | (simp only [putAll, Act.put, setIfInBounds_toArray, set_cons_zero, set_cons_succ]; rfl)) (hJ3_6_7_13_14_18_19 (v232, v235, v238) _ ⟨(kV_ HL227_0.out), (kR_ HO230.out), (kR_ HO233.out), (kR_ HO236.out), (kR_ HO239.out), (kR_ HO_16.out), (kR_ HO_18.out), (kN_ HO_98.out), (bk_ BK208.out), (hb1_ HB.out GE208.out)⟩)
            ·
             skip
             rintro ⟨v232, v235, v238⟩ w55 ⟨h0_, h1_, h2_, h3_, h4_, h5_, h6_, h7_, h8_, h9_⟩; have n0_ : Aside0 (Kd.V (Kd.int .i64) 3 w55 w.heap.size (fun k_ => (P2_ k_ ∨ w.heap.size ≤ k_) ∧ some k_ ≠ (v229 : Value).ownBlock ∧ some k_ ≠ (v232 : Value).ownBlock ∧ some k_ ≠ (v235 : Value).ownBlock ∧ some k_ ≠ (v238 : Value).ownBlock ∧ some k_ ≠ (v218 : Value).ownBlock ∧ some k_ ≠ (v222 : Value).ownBlock ∧ some k_ ≠ (.slice (some ad227) y224.length co34 : Value).ownBlock ∧ k_ ≠ gb208) (.slice A227_0 (rd_L5 y224 x100_3).length c227_0) (rd_L5 y224 x100_3)) := ⟨h0_⟩; have n1_ : Aside0 (Kd.R (Kd.int .u8) 5 w55 w.heap.size (fun k_ => (w.heap.size ≤ k_) ∧ some k_ ≠ (v232 : Value).ownBlock ∧ some k_ ≠ (v235 : Value).ownBlock ∧ some k_ ≠ (v238 : Value).ownBlock) v229 t228) := ⟨h1_⟩; have n2_ : Aside0 (Kd.R (Kd.int .u8) 5 w55 w.heap.size (fun k_ => (w.heap.size ≤ k_) ∧ some k_ ≠ (v229 : Value).ownBlock ∧ some k_ ≠ (v235 : Value).ownBlock ∧ some k_ ≠ (v238 : Value).ownBlock) v232 t231) := ⟨h2_⟩; have n3_ : Aside0 (Kd.R (Kd.int .u8) 5 w55 w.heap.size (fun k_ => (w.heap.size ≤ k_) ∧ some k_ ≠ (v229 : Value).ownBlock ∧ some k_ ≠ (v232 : Value).ownBlock ∧ some k_ ≠ (v238 : Value).ownBlock) v235 t234) := ⟨h3_⟩; have n4_ : Aside0 (Kd.R (Kd.int .u8) 5 w55 w.heap.size (fun k_ => (w.heap.size ≤ k_) ∧ some k_ ≠ (v229 : Value).ownBlock ∧ some k_ ≠ (v232 : Value).ownBlock ∧ some k_ ≠ (v235 : Value).ownBlock) v238 t237) := ⟨h4_⟩; have n5_ : Aside0 (Kd.R (Kd.int .i64) 3 w55 w.heap.size (fun k_ => (w.heap.size ≤ k_) ∧ some k_ ≠ (v222 : Value).ownBlock) v218 t216) := ⟨h5_⟩; have n6_ : Aside0 (Kd.R (Kd.int .i64) 3 w55 w.heap.size (fun k_ => (w.heap.size ≤ k_) ∧ some k_ ≠ (v218 : Value).ownBlock) v222 t220) := ⟨h6_⟩; have n7_ : Aside0 (Kd.N (Kd.slice 3 (Kd.int .i64)) 23 w55 w.heap.size (fun k_ => (P2_ k_ ∨ w.heap.size ≤ k_) ∧ some k_ ≠ (v229 : Value).ownBlock ∧ some k_ ≠ (v232 : Value).ownBlock ∧ some k_ ≠ (v235 : Value).ownBlock ∧ some k_ ≠ (v238 : Value).ownBlock ∧ some k_ ≠ (v218 : Value).ownBlock ∧ some k_ ≠ (v222 : Value).ownBlock ∧ k_ ≠ gb208) (.slice (some ad227) y224.length co34) y224) := ⟨h7_⟩; have n8_ : Aside0 (w55.heap[gb208]? = some (.cells #[.int .i64 a5_0, .int .i64 a5_1, .slice A5_2 l5_2.length c5_2, .slice A5_3 l5_3.length c5_3, .slice A5_4 l5_4.length c5_4, .slice A5_5 l5_5.length c5_5, .slice A5_6 l5_6.length c5_6, .bool a5_7] 31 (0, 0))) := ⟨h8_⟩; have n9_ : Aside0 (Below w.heap.size w w55) := ⟨h9_⟩; clear HO_16; clear HO_18; clear HO_98; clear HL227_0; clear BK208; clear HR227_0; clear HB; clear h0_ h1_ h2_ h3_ h4_ h5_ h6_ h7_ h8_ h9_; revert n0_ n1_ n2_ n3_ n4_ n5_ n6_ n7_ n8_ n9_; intro HL227_0 HO230 HO233 HO236 HO239 HO_16 HO_18 HO_98 BK208 HB; have hHeld := trivial; refine norm_ (a' := ?_) ?_ ?_; rotate_left
             ·
              simp only [putAll, Act.put, setIfInBounds_toArray, set_cons_zero, set_cons_succ]; rfl
             refine one_ (i := 19) (N := some 123) (mk_ 20 31) rfl rfl (one_of HT_.out (by kernel_rfl)) (by decide) (fun K hK => ?_); have hcv56 := own_string (P := Try.prog) Try.underlying27 Try.underlying5 Try.underlying9 (Kd.own_of_R HO239.out); refine value_ (w1 := ?_) (v := ?_) (by rfl) rfl ?_ ?_; rotate_left 2
             ·
              go_simp
              constructor
              ·
               rfl
              ·
               rfl
             clear hcv56; refine hK.out _ _ trivial (fun hHeld => ?_); clear hK K; refine norm_ (a' := ?_) ?_ ?_; rotate_left
             ·
              show Act.put _ (some 123) _ = _
              simp only [Act.put, setIfInBounds_toArray, set_cons_zero, set_cons_succ, i64_w, i32_w]; rfl
             exact norm_ (by first | (simp only [putAll, Act.put, setIfInBounds_toArray, set_cons_zero, set_cons_succ]; done) | (simp only [putAll, Act.put, setIfInBounds_toArray, set_cons_zero, set_cons_succ]; rfl)) (hJ3_6_7_13_14_18_19 (v232, v235, v238) _ ⟨(kV_ HL227_0.out), (kR_ HO230.out), (kR_ HO233.out), (kR_ HO236.out), (kR_ HO239.out), (kR_ HO_16.out), (kR_ HO_18.out), (kN_ HO_98.out), (bk_ BK208.out), (hb1_ HB.out GE208.out)⟩)
           rintro ⟨v232, v235, v238⟩ w56 ⟨h0_, h1_, h2_, h3_, h4_, h5_, h6_, h7_, h8_, h9_⟩; have n0_ : Aside0 (Kd.V (Kd.int .i64) 3 w56 w.heap.size (fun k_ => (P2_ k_ ∨ w.heap.size ≤ k_) ∧ some k_ ≠ (v229 : Value).ownBlock ∧ some k_ ≠ (v232 : Value).ownBlock ∧ some k_ ≠ (v235 : Value).ownBlock ∧ some k_ ≠ (v238 : Value).ownBlock ∧ some k_ ≠ (v218 : Value).ownBlock ∧ some k_ ≠ (v222 : Value).ownBlock ∧ some k_ ≠ (.slice (some ad227) y224.length co34 : Value).ownBlock ∧ k_ ≠ gb208) (.slice A227_0 (rd_L5 y224 x100_3).length c227_0) (rd_L5 y224 x100_3)) := ⟨h0_⟩; have n1_ : Aside0 (Kd.R (Kd.int .u8) 5 w56 w.heap.size (fun k_ => (w.heap.size ≤ k_) ∧ some k_ ≠ (v232 : Value).ownBlock ∧ some k_ ≠ (v235 : Value).ownBlock ∧ some k_ ≠ (v238 : Value).ownBlock) v229 t228) := ⟨h1_⟩; have n2_ : Aside0 (Kd.R (Kd.int .u8) 5 w56 w.heap.size (fun k_ => (w.heap.size ≤ k_) ∧ some k_ ≠ (v229 : Value).ownBlock ∧ some k_ ≠ (v235 : Value).ownBlock ∧ some k_ ≠ (v238 : Value).ownBlock) v232 t231) := ⟨h2_⟩; have n3_ : Aside0 (Kd.R (Kd.int .u8) 5 w56 w.heap.size (fun k_ => (w.heap.size ≤ k_) ∧ some k_ ≠ (v229 : Value).ownBlock ∧ some k_ ≠ (v232 : Value).ownBlock ∧ some k_ ≠ (v238 : Value).ownBlock) v235 t234) := ⟨h3_⟩; have n4_ : Aside0 (Kd.R (Kd.int .u8) 5 w56 w.heap.size (fun k_ => (w.heap.size ≤ k_) ∧ some k_ ≠ (v229 : Value).ownBlock ∧ some k_ ≠ (v232 : Value).ownBlock ∧ some k_ ≠ (v235 : Value).ownBlock) v238 t237) := ⟨h4_⟩; have n5_ : Aside0 (Kd.R (Kd.int .i64) 3 w56 w.heap.size (fun k_ => (w.heap.size ≤ k_) ∧ some k_ ≠ (v222 : Value).ownBlock) v218 t216) := ⟨h5_⟩; have n6_ : Aside0 (Kd.R (Kd.int .i64) 3 w56 w.heap.size (fun k_ => (w.heap.size ≤ k_) ∧ some k_ ≠ (v218 : Value).ownBlock) v222 t220) := ⟨h6_⟩; have n7_ : Aside0 (Kd.N (Kd.slice 3 (Kd.int .i64)) 23 w56 w.heap.size (fun k_ => (P2_ k_ ∨ w.heap.size ≤ k_) ∧ some k_ ≠ (v229 : Value).ownBlock ∧ some k_ ≠ (v232 : Value).ownBlock ∧ some k_ ≠ (v235 : Value).ownBlock ∧ some k_ ≠ (v238 : Value).ownBlock ∧ some k_ ≠ (v218 : Value).ownBlock ∧ some k_ ≠ (v222 : Value).ownBlock ∧ k_ ≠ gb208) (.slice (some ad227) y224.length co34) y224) := ⟨h7_⟩; have n8_ : Aside0 (w56.heap[gb208]? = some (.cells #[.int .i64 a5_0, .int .i64 a5_1, .slice A5_2 l5_2.length c5_2, .slice A5_3 l5_3.length c5_3, .slice A5_4 l5_4.length c5_4, .slice A5_5 l5_5.length c5_5, .slice A5_6 l5_6.length c5_6, .bool a5_7] 31 (0, 0))) := ⟨h8_⟩; have n9_ : Aside0 (Below w.heap.size w w56) := ⟨h9_⟩; clear HO_16; clear HO_18; clear HO_98; clear HL227_0; clear BK208; clear HR227_0; clear HB; clear h0_ h1_ h2_ h3_ h4_ h5_ h6_ h7_ h8_ h9_; revert n0_ n1_ n2_ n3_ n4_ n5_ n6_ n7_ n8_ n9_; intro HL227_0 HO230 HO233 HO236 HO239 HO_16 HO_18 HO_98 BK208 HB; have hHeld := trivial; refine norm_ (a' := ?_) ?_ ?_; rotate_left
           ·
            simp only [putAll, Act.put, setIfInBounds_toArray, set_cons_zero, set_cons_succ]; rfl
           refine pu_ 20 (some 124) (mk_ 21 31) HT_ ?_; refine pu_ 21 (some 125) (mk_ 22 31) HT_ ?_; refine pu_ 22 (some 126) (mk_ 23 31) HT_ ?_; refine pu_ 23 (some 127) (mk_ 24 31) HT_ ?_; refine pu_ 24 (some 128) (mk_ 25 31) HT_ ?_; refine pu_ 26 (some 130) (bm_ 31 100663295) HT_ ?_; refine pu_ 27 (some 131) (bm_ 31 234881023) HT_ ?_; refine one_ (i := 25) (N := some 129) (mk_ 28 31) rfl rfl (one_of HT_.out (by kernel_rfl)) (by decide) (fun K hK => ?_); refine goes_ Try.func48 (by kernel_rfl) rfl #[.slice A0 l0.length c0, .slice A227_0 (rd_L5 y224 x100_3).length c227_0] (by rfl) rfl rfl lm_ ?_; with_reducible refine (mask_Get.calls k3 _ _ l0 _ _ (rd_L5 y224 x100_3) t240 _ ?side1 ?side2 ?side3 ?side4 A44.out).mono ?_
           (case side1 => exact kD_ (Kd.C_below HR0.out HB.out))
           (case side2 => exact HC0.out)
           (case side3 => exact kD_ ((Kd.V_reads' (kV_ HL227_0.out)).2.2))
           (case side4 => exact HC227_0.out)
           rintro e w57 ⟨rfl, hb⟩; refine ⟨_, rfl, ?_⟩; have n0_ := Aside0.mk (Kd.R_below (kR_ HO_16.out) hb); have n1_ := Aside0.mk (Kd.R_below (kR_ HO_18.out) hb); have n2_ := Aside0.mk (Kd.N_below (kN_ HO_98.out) hb); have n3_ := Aside0.mk (Kd.V_below (kV_ HL227_0.out) hb); have n4_ := Aside0.mk (Kd.R_below (kR_ HO230.out) hb); have n5_ := Aside0.mk (Kd.R_below (kR_ HO233.out) hb); have n6_ := Aside0.mk (Kd.R_below (kR_ HO236.out) hb); have n7_ := Aside0.mk (Kd.R_below (kR_ HO239.out) hb); have n8_ := Aside0.mk (bb_ BK208.out hb); have n9_ := Aside0.mk (below_step (hb1_ HB.out GE208.out) hb); clear HO_16; clear HO_18; clear HO_98; clear HL227_0; clear HO230; clear HO233; clear HO236; clear HO239; clear BK208; clear HB; revert n0_ n1_ n2_ n3_ n4_ n5_ n6_ n7_ n8_ n9_; intro HO_16 HO_18 HO_98 HL227_0 HO230 HO233 HO236 HO239 BK208 HB; (try clear hb)
           (try clear hb2)
           (try clear hk)
           (try clear hi)
           refine hK.out _ _ trivial (fun hHeld => ?_); clear hK K; refine norm_ (a' := ?_) ?_ ?_; rotate_left
           ·
            show Act.put _ (some 129) _ = _
            simp only [Act.put, setIfInBounds_toArray, set_cons_zero, set_cons_succ, i64_w, i32_w]; rfl
           refine one_ (i := 28) (N := some 132) (mk_ 29 31) rfl rfl (one_of HT_.out (by kernel_rfl)) (by decide) (fun K hK => ?_); refine goes_ Try.func55 (by kernel_rfl) rfl #[.slice A0 l0.length c0, .slice A227_0 (rd_L5 y224 x100_3).length c227_0] (by rfl) rfl rfl lm_ ?_; with_reducible refine (ref15_Get.calls k3 _ _ l0 _ _ (rd_L5 y224 x100_3) t241 _ ?side1 ?side2 ?side3 ?side4 A45.out).mono ?_
           (case side1 => exact kD_ (Kd.C_below HR0.out HB.out))
           (case side2 => exact HC0.out)
           (case side3 => exact kD_ ((Kd.V_reads' (kV_ HL227_0.out)).2.2))
           (case side4 => exact HC227_0.out)
           rintro e w' ⟨rfl, ⟨nd, rfl⟩⟩; refine ⟨_, rfl, ?_⟩; refine hK.out _ _ trivial (fun hHeld => ?_); clear hK K; refine norm_ (a' := ?_) ?_ ?_; rotate_left
           ·
            show Act.put _ (some 132) _ = _
            simp only [Act.put, setIfInBounds_toArray, set_cons_zero, set_cons_succ, i64_w, i32_w]; rfl
           refine pu_ 29 (some 133) (mk_ 30 31) HT_ ?_; refine pu_ 30 (some 134) (mk_ 31 31) HT_ ?_; refine done_ (done_of HT_.out (by kernel_rfl)) ?_; try go_wp2
           go_roundg k3
           case measure => have := HJ6.out; have := HK2.out; have := HK3.out; omega
           case rel => exact ⟨(wrap64 (x100_3 + 1)), rf_, H', ⟨by have := HJ6.out; have := HK2.out; have := HK3.out; omega⟩, ⟨by (try simp only [hl13_2]); (with_reducible repeat (first | apply Kd.R_alloc | apply Kd.R_drewN | apply Kd.R_drew)); exact HO_16.out⟩, ⟨by (try simp only [hl13_2]); (with_reducible repeat (first | apply Kd.R_alloc | apply Kd.R_drewN | apply Kd.R_drew)); exact HO_18.out⟩, ⟨by (try simp only [hl13_2]); (with_reducible repeat (first | apply Kd.N_alloc | apply Kd.N_drewN | apply Kd.N_drew)); exact Kd.N_mono HO_98.out (fun _ hk => ⟨hk.1, ⟨hk.2.2.2.2.2.1, ⟨hk.2.2.2.2.2.2.1, hk.2.2.2.2.2.2.2⟩⟩⟩)⟩, ⟨by (try simp only [hl13_2]); (with_reducible repeat (first | refine blk_drewN ?_ _ | refine blk_drew ?_ | refine blk_alloc ?_ _)); exact BK208.out⟩, ⟨(hb1_ HB.out GE208.out)⟩⟩
          ·
           rw [if_neg c35] at H; have c35b0 : decide (x100_3 < (y224.length : Int)) = false := decide_eq_false c35; (try (have c35r0 := c35b0; simp only [hl13_2] at c35r0))
           clear c35; replace H := Option.bind_eq_some_iff.mp H; obtain ⟨t242, A580, H⟩ := H; try dsimp only at H
           have A58 := Aside0.mk A580; clear A580; replace H := Option.bind_eq_some_iff.mp H; obtain ⟨t243, A590, H⟩ := H; try dsimp only at H
           have A59 := Aside0.mk A590; clear A590; by_cases c60 : (t242 == t243) = true
           rotate_left
           ·
            rw [if_neg c60] at H; have c60b0 : (t242 == t243) = false := by simpa using c60
            (try (have c60b1 : decide (t242 = t243) = false := by simpa using c60))
            (try (have c60b2 : (t242 == t243) = false := by simpa using c60))
            (try (have c60b3 : ¬ (t242 = t243) := by simpa using c60))
            clear c60; exact absurd ((Option.some.inj H).trans hr_) (by decide)
           rw [if_pos c60] at H; have c60b0 : (t242 == t243) = true := c60; (try (have c60b1 : decide (t242 = t243) = true := by simpa using c60))
           (try (have c60b2 : (t242 == t243) = true := by simpa using c60))
           clear c60; replace H := Option.bind_eq_some_iff.mp H; obtain ⟨t244, A610, H⟩ := H; try dsimp only at H
           have A61 := Aside0.mk A610; clear A610; replace H := Option.bind_eq_some_iff.mp H; obtain ⟨t247, A620, H⟩ := H; try dsimp only at H
           have A62 := Aside0.mk A620; clear A620; by_cases c63 : (strOfNums t244).toList = (strOfNums t247).toList
           rotate_left
           ·
            rw [if_neg c63] at H; have c63b0 : ((strOfNums t244).toList == (strOfNums t247).toList) = false := beq_eq_false_iff_ne.mpr c63; have c63b1 : ((strOfNums t244).toList != (strOfNums t247).toList) = true := bne_iff_ne.mpr c63; exact absurd ((Option.some.inj H).trans hr_) (by decide)
           rw [if_pos c63] at H; have c63b0 : ((strOfNums t244).toList == (strOfNums t247).toList) = true := beq_iff_eq.mpr c63; have c63b1 : ((strOfNums t244).toList != (strOfNums t247).toList) = false := bne_eq_false_iff_eq.mpr c63; clear c63; replace H := Option.bind_eq_some_iff.mp H; obtain ⟨t250, A640, H⟩ := H; try dsimp only at H
           have A64 := Aside0.mk A640; clear A640; replace H := Option.bind_eq_some_iff.mp H; obtain ⟨t253, A650, H⟩ := H; try dsimp only at H
           have A65 := Aside0.mk A650; clear A650; by_cases c66 : (strOfNums t250).toList = (strOfNums t253).toList
           rotate_left
           ·
            rw [if_neg c66] at H; have c66b0 : ((strOfNums t250).toList == (strOfNums t253).toList) = false := beq_eq_false_iff_ne.mpr c66; have c66b1 : ((strOfNums t250).toList != (strOfNums t253).toList) = true := bne_iff_ne.mpr c66; exact absurd ((Option.some.inj H).trans hr_) (by decide)
           rw [if_pos c66] at H; have c66b0 : ((strOfNums t250).toList == (strOfNums t253).toList) = true := beq_iff_eq.mpr c66; have c66b1 : ((strOfNums t250).toList != (strOfNums t253).toList) = false := bne_eq_false_iff_eq.mpr c66; clear c66; replace H := Option.bind_eq_some_iff.mp H; obtain ⟨t256, A670, H⟩ := H; try dsimp only at H
           have A67 := Aside0.mk A670; clear A670; replace H := Option.bind_eq_some_iff.mp H; obtain ⟨t257, A680, H⟩ := H; try dsimp only at H
           have A68 := Aside0.mk A680; clear A680; by_cases c69 : t256 = t257
           rotate_left
           ·
            rw [if_neg c69] at H; have c69b0 : (t256 == t257) = false := beq_eq_false_iff_ne.mpr c69; have c69b1 : (t256 != t257) = true := bne_iff_ne.mpr c69; exact absurd ((Option.some.inj H).trans hr_) (by decide)
           rw [if_pos c69] at H; have c69b0 : (t256 == t257) = true := beq_iff_eq.mpr c69; have c69b1 : (t256 != t257) = false := bne_eq_false_iff_eq.mpr c69; clear c69; by_cases c70 : (t217 == t221) = true
           rotate_left
           ·
            rw [if_neg c70] at H; have c70b0 : (t217 == t221) = false := by simpa using c70
            (try (have c70b1 : decide (t217 = t221) = false := by simpa using c70))
            (try (have c70b2 : (t217 == t221) = false := by simpa using c70))
            (try (have c70b3 : ¬ (t217 = t221) := by simpa using c70))
            clear c70; exact absurd ((Option.some.inj H).trans hr_) (by decide)
           rw [if_pos c70] at H; have c70b0 : (t217 == t221) = true := c70; (try (have c70b1 : decide (t217 = t221) = true := by simpa using c70))
           (try (have c70b2 : (t217 == t221) = true := by simpa using c70))
           clear c70; replace H := Option.bind_eq_some_iff.mp H; obtain ⟨t258, A710, H⟩ := H; try dsimp only at H
           have A71 := Aside0.mk A710; clear A710; by_cases c72 : t258 = true
           rotate_left
           ·
            replace c72 := Bool.eq_false_iff.mpr c72; subst c72; have H1 : (some false) = some r := by rw [if_neg (show ¬ (false = true) by decide)] at H; exact H
            clear H; have H := H1; clear H1; exact absurd ((Option.some.inj H).trans hr_) (by decide)
           subst c72; have H1 : ((mask_Fits.f k3 l0 l1).bind fun t259 => ((ref15_Fits.f k3 l0 l1).bind fun t260 => (if (t259 == t260) = true then ((Extend.f l1 (l0.length : Int)).bind fun t261 => ((mask_Fits.f k3 l0 t261).bind fun t264 => ((ref15_Extend.f k3 l1 (l0.length : Int)).bind fun t265 => ((ref15_Fits.f k3 l0 t265).bind fun t268 => (if (t264 == t268) = true then ((law15_awake.f k3).bind fun t269 => (some t269)) else (some false)))))) else (some false)))) = some r := by rw [if_pos rfl] at H; exact H
           clear H; have H := H1; clear H1; replace H := Option.bind_eq_some_iff.mp H; obtain ⟨t259, A730, H⟩ := H; try dsimp only at H
           have A73 := Aside0.mk A730; clear A730; replace H := Option.bind_eq_some_iff.mp H; obtain ⟨t260, A740, H⟩ := H; try dsimp only at H
           have A74 := Aside0.mk A740; clear A740; by_cases c75 : (t259 == t260) = true
           rotate_left
           ·
            rw [if_neg c75] at H; have c75b0 : (t259 == t260) = false := by simpa using c75
            (try (have c75b1 : decide (t259 = t260) = false := by simpa using c75))
            (try (have c75b2 : (t259 == t260) = false := by simpa using c75))
            (try (have c75b3 : ¬ (t259 = t260) := by simpa using c75))
            clear c75; exact absurd ((Option.some.inj H).trans hr_) (by decide)
           rw [if_pos c75] at H; have c75b0 : (t259 == t260) = true := c75; (try (have c75b1 : decide (t259 = t260) = true := by simpa using c75))
           (try (have c75b2 : (t259 == t260) = true := by simpa using c75))
           clear c75; replace H := Option.bind_eq_some_iff.mp H; obtain ⟨t261, A760, H⟩ := H; try dsimp only at H
           have A76 := Aside0.mk A760; clear A760; replace H := Option.bind_eq_some_iff.mp H; obtain ⟨t264, A770, H⟩ := H; try dsimp only at H
           have A77 := Aside0.mk A770; clear A770; replace H := Option.bind_eq_some_iff.mp H; obtain ⟨t265, A780, H⟩ := H; try dsimp only at H
           have A78 := Aside0.mk A780; clear A780; replace H := Option.bind_eq_some_iff.mp H; obtain ⟨t268, A790, H⟩ := H; (try dsimp only at H); have A79 := Aside0.mk A790; clear A790; by_cases c80 : (t264 == t268) = true
           rotate_left
           ·
            rw [if_neg c80] at H; have c80b0 : (t264 == t268) = false := by simpa using c80
            (try (have c80b1 : decide (t264 = t268) = false := by simpa using c80))
            (try (have c80b2 : (t264 == t268) = false := by simpa using c80))
            (try (have c80b3 : ¬ (t264 = t268) := by simpa using c80))
            clear c80; exact absurd ((Option.some.inj H).trans hr_) (by decide)
           rw [if_pos c80] at H; have c80b0 : (t264 == t268) = true := c80; (try (have c80b1 : decide (t264 = t268) = true := by simpa using c80))
           (try (have c80b2 : (t264 == t268) = true := by simpa using c80))
           clear c80; replace H := Option.bind_eq_some_iff.mp H; obtain ⟨t269, A810, H⟩ := H; (try dsimp only at H); have A81 := Aside0.mk A810; clear A810; obtain rfl := Option.some.inj H; obtain ⟨Ao82, co82, eo82⟩ := Kd.R_slice HO_16.out; subst eo82; obtain ⟨Ao83, co83, eo83⟩ := Kd.R_slice HO_18.out; subst eo83; try go_wp2
           have n0_ := Aside0.mk (Kd.R_drew HO_16.out); have n1_ := Aside0.mk (Kd.R_drew HO_18.out); have n2_ := Aside0.mk (Kd.N_drew HO_98.out); have n3_ := Aside0.mk (blk_drew BK208.out); have n4_ := Aside0.mk (below_drew1 HB.out); clear HO_16; clear HO_18; clear HO_98; clear BK208; clear HB; revert n0_ n1_ n2_ n3_ n4_; intro HO_16 HO_18 HO_98 BK208 HB; refine start_ (n := 72) (S := fun w' => w'.cell? ⟨gb208, 0, none⟩ = some (.int .i64 a5_0) ∧ w'.cell? ⟨gb208, 1, none⟩ = some (.int .i64 a5_1) ∧ w'.cell? ⟨gb208, 2, none⟩ = some (.slice A5_2 l5_2.length c5_2) ∧ w'.cell? ⟨gb208, 3, none⟩ = some (.slice A5_3 l5_3.length c5_3) ∧ w'.cell? ⟨gb208, 4, none⟩ = some (.slice A5_4 l5_4.length c5_4) ∧ w'.cell? ⟨gb208, 5, none⟩ = some (.slice A5_5 l5_5.length c5_5) ∧ w'.cell? ⟨gb208, 6, none⟩ = some (.slice A5_6 l5_6.length c5_6) ∧ w'.cell? ⟨gb208, 7, none⟩ = some (.bool a5_7)) (ds := []) (mk_ 0 72) (by kernel_rfl) rfl rfl ⟨(blk_cell BK208.out 0).trans rfl, (blk_cell BK208.out 1).trans rfl, (blk_cell BK208.out 2).trans rfl, (blk_cell BK208.out 3).trans rfl, (blk_cell BK208.out 4).trans rfl, (blk_cell BK208.out 5).trans rfl, (blk_cell BK208.out 6).trans rfl, (blk_cell BK208.out 7).trans rfl⟩ (fun hHeld => ?_); refine with_tabW law15_MaskLooks.tab19 law15_MaskLooks.bits19 (fun HT_ HW_ => ?_); generalize wr.drew = w84 at HO_16 HO_18 HO_98 BK208 HB hHeld ⊢; refine take_ (i := 0) (N := some 136) (v := ?_) (a' := ?_) (mk_ 1 72) rfl rfl (take_ofW HT_.out HW_.out (by kernel_rfl)) (fun _ _ _ h => h) (Or.inl ⟨by rfl, ?_⟩) hHeld ?_ ?_; rotate_left
           ·
            rintro w' ⟨s0, s1, s2, s3, s4, s5, s6, s7⟩; go_simp
            with_reducible rfl
           rotate_left
           ·
            simp only [Act.put, setIfInBounds_toArray, set_cons_zero, set_cons_succ, i64_w, i32_w]; rfl
           refine take_ (i := 2) (N := some 138) (v := ?_) (a' := ?_) (bm_ 72 5) rfl rfl (take_ofW HT_.out HW_.out (by kernel_rfl)) (fun _ _ _ h => h) (Or.inl ⟨by rfl, ?_⟩) hHeld ?_ ?_; rotate_left
           ·
            rintro w' ⟨s0, s1, s2, s3, s4, s5, s6, s7⟩; go_simp
            with_reducible rfl
           rotate_left
           ·
            simp only [Act.put, setIfInBounds_toArray, set_cons_zero, set_cons_succ, i64_w, i32_w]; rfl
           refine one_ (i := 1) (N := some 137) (mk_ 3 72) rfl rfl (one_of HT_.out (by kernel_rfl)) (by decide) (fun K hK => ?_); refine goes_ Try.func56 (by kernel_rfl) rfl #[.agg #[.int .i64 a5_0, .int .i64 a5_1, .slice A5_2 l5_2.length c5_2, .slice A5_3 l5_3.length c5_3, .slice A5_4 l5_4.length c5_4, .slice A5_5 l5_5.length c5_5, .slice A5_6 l5_6.length c5_6, .bool a5_7]] (by rfl) rfl rfl lm_ ?_; with_reducible refine (mask_Valid.calls a5_0 a5_1 _ _ l5_2 _ _ l5_3 _ _ l5_4 _ _ l5_5 _ _ l5_6 a5_7 t242 _ ?side1 ?side2 ?side3 ?side4 ?side5 ?side6 ?side7 ?side8 ?side9 ?side10 A58.out).mono ?_
           (case side1 => exact kD_ (Kd.C_below HR5_2.out HB.out))
           (case side2 => exact HC5_2.out)
           (case side3 => exact kD_ (Kd.C_below HR5_3.out HB.out))
           (case side4 => exact HC5_3.out)
           (case side5 => exact kD_ (Kd.C_below HR5_4.out HB.out))
           (case side6 => exact HC5_4.out)
           (case side7 => exact kD_ (Kd.C_below HR5_5.out HB.out))
           (case side8 => exact HC5_5.out)
           (case side9 => exact kD_ (Kd.C_below HR5_6.out HB.out))
           (case side10 => exact HC5_6.out)
           rintro e w85 ⟨rfl, hb⟩; refine ⟨_, rfl, ?_⟩; have n0_ := Aside0.mk (Kd.R_below (kR_ HO_16.out) hb); have n1_ := Aside0.mk (Kd.R_below (kR_ HO_18.out) hb); have n2_ := Aside0.mk (Kd.N_below (kN_ HO_98.out) hb); have n3_ := Aside0.mk (bb_ BK208.out hb); have n4_ := Aside0.mk (below_step (hb1_ HB.out GE208.out) hb); clear HO_16; clear HO_18; clear HO_98; clear BK208; clear HB; revert n0_ n1_ n2_ n3_ n4_; intro HO_16 HO_18 HO_98 BK208 HB; (try clear hb)
           (try clear hb2)
           (try clear hk)
           (try clear hi)
           refine hK.out _ _ ⟨(blk_cell BK208.out 0).trans rfl, (blk_cell BK208.out 1).trans rfl, (blk_cell BK208.out 2).trans rfl, (blk_cell BK208.out 3).trans rfl, (blk_cell BK208.out 4).trans rfl, (blk_cell BK208.out 5).trans rfl, (blk_cell BK208.out 6).trans rfl, (blk_cell BK208.out 7).trans rfl⟩ (fun hHeld => ?_); clear hK K; refine norm_ (a' := ?_) ?_ ?_; rotate_left
           ·
            show Act.put _ (some 137) _ = _
            simp only [Act.put, setIfInBounds_toArray, set_cons_zero, set_cons_succ, i64_w, i32_w]; rfl
           refine one_ (i := 3) (N := some 139) (mk_ 4 72) rfl rfl (one_of HT_.out (by kernel_rfl)) (by decide) (fun K hK => ?_); refine goes_ Try.func27 (by kernel_rfl) rfl #[.agg #[.int .i64 a5_0, .int .i64 a5_1, .slice A5_2 l5_2.length c5_2, .slice A5_3 l5_3.length c5_3, .slice A5_4 l5_4.length c5_4, .slice A5_5 l5_5.length c5_5, .slice A5_6 l5_6.length c5_6, .bool a5_7]] (by rfl) rfl rfl lm_ ?_; with_reducible refine (ref15_Valid.calls a5_0 a5_1 _ _ l5_2 _ _ l5_3 _ _ l5_4 _ _ l5_5 _ _ l5_6 a5_7 t243 _ ?side1 ?side2 ?side3 ?side4 ?side5 ?side6 ?side7 ?side8 ?side9 ?side10 A59.out).mono ?_
           (case side1 => exact kD_ (Kd.C_below HR5_2.out HB.out))
           (case side2 => exact HC5_2.out)
           (case side3 => exact kD_ (Kd.C_below HR5_3.out HB.out))
           (case side4 => exact HC5_3.out)
           (case side5 => exact kD_ (Kd.C_below HR5_4.out HB.out))
           (case side6 => exact HC5_4.out)
           (case side7 => exact kD_ (Kd.C_below HR5_5.out HB.out))
           (case side8 => exact HC5_5.out)
           (case side9 => exact kD_ (Kd.C_below HR5_6.out HB.out))
           (case side10 => exact HC5_6.out)
           rintro e w86 ⟨rfl, hb⟩; refine ⟨_, rfl, ?_⟩; have n0_ := Aside0.mk (Kd.R_below (kR_ HO_16.out) hb); have n1_ := Aside0.mk (Kd.R_below (kR_ HO_18.out) hb); have n2_ := Aside0.mk (Kd.N_below (kN_ HO_98.out) hb); have n3_ := Aside0.mk (bb_ BK208.out hb); have n4_ := Aside0.mk (below_step (hb1_ HB.out GE208.out) hb); clear HO_16; clear HO_18; clear HO_98; clear BK208; clear HB; revert n0_ n1_ n2_ n3_ n4_; intro HO_16 HO_18 HO_98 BK208 HB; (try clear hb)
           (try clear hb2)
           (try clear hk)
           (try clear hi)
           refine hK.out _ _ ⟨(blk_cell BK208.out 0).trans rfl, (blk_cell BK208.out 1).trans rfl, (blk_cell BK208.out 2).trans rfl, (blk_cell BK208.out 3).trans rfl, (blk_cell BK208.out 4).trans rfl, (blk_cell BK208.out 5).trans rfl, (blk_cell BK208.out 6).trans rfl, (blk_cell BK208.out 7).trans rfl⟩ (fun hHeld => ?_); clear hK K; refine norm_ (a' := ?_) ?_ ?_; rotate_left
           ·
            show Act.put _ (some 139) _ = _
            simp only [Act.put, setIfInBounds_toArray, set_cons_zero, set_cons_succ, i64_w, i32_w]; rfl
           refine pu_ 4 (some 140) (mk_ 5 72) HT_ ?_; refine pu_ 5 (some 141) (mk_ 6 72) HT_ ?_; refine pu_ 6 (some 142) (mk_ 7 72) HT_ ?_; refine pu_ 7 (some 143) (mk_ 8 72) HT_ ?_; refine pu_ 10 (some 146) (bm_ 72 1279) HT_ ?_; refine pu_ 11 (some 147) (bm_ 72 3327) HT_ ?_; refine one_ (i := 8) (N := some 144) (bm_ 72 3583) rfl rfl (one_of HT_.out (by kernel_rfl)) (by decide) (fun K hK => ?_); refine goes_ Try.func46 (by kernel_rfl) rfl #[.slice A0 l0.length c0, .int .i64 (Int.tmod a3 400)] (by rfl) rfl rfl lm_ ?_; with_reducible refine (Extend.calls _ _ l0 (Int.tmod a3 400) t244 _ ?side1 ?side2 A61.out).mono ?_
           (case side1 => exact kD_ (Kd.C_below HR0.out HB.out))
           (case side2 => exact HC0.out)
           rintro e w87 ⟨v245, rfl, ho0, hb⟩; refine ⟨_, rfl, ?_⟩; have n0_ := Aside0.mk (Kd.R_below (kR_ HO_16.out) hb); have n1_ := Aside0.mk (Kd.R_below (kR_ HO_18.out) hb); have n2_ := Aside0.mk (Kd.N_below (kN_ HO_98.out) hb); have n3_ := Aside0.mk (Kd.V_lower (Kd.V_mono (ok' := fun k_ => (P2_ k_ ∨ w.heap.size ≤ k_) ∧ some k_ ≠ (.slice Ao82 t216.length co82 : Value).ownBlock ∧ some k_ ≠ (.slice Ao83 t220.length co83 : Value).ownBlock ∧ some k_ ≠ (.slice Ao34 y224.length co34 : Value).ownBlock ∧ k_ ≠ gb208) ho0 (fun k_ hk_ => ⟨(.inr (Nat.le_trans (below_size (hb1_ HB.out GE208.out)) hk_)), (Kd.fresh' (Kd.R_lt (kR_ HO_16.out)) k_ hk_), (Kd.fresh' (Kd.R_lt (kR_ HO_18.out)) k_ hk_), (Kd.fresh' (Kd.N_lt (kN_ HO_98.out)) k_ hk_), (fB_ BK208.out k_ hk_)⟩)) (below_size (hb1_ HB.out GE208.out))); have n4_ := Aside0.mk (bb_ BK208.out hb); have n5_ := Aside0.mk (below_step (hb1_ HB.out GE208.out) hb); clear HO_16; clear HO_18; clear HO_98; clear BK208; clear HB; revert n0_ n1_ n2_ n3_ n4_ n5_; intro HO_16 HO_18 HO_98 HO246 BK208 HB; (try clear hb)
           (try clear hb2)
           (try clear hk)
           (try clear hi)
           (try clear ho0)
           refine hK.out _ _ ⟨(blk_cell BK208.out 0).trans rfl, (blk_cell BK208.out 1).trans rfl, (blk_cell BK208.out 2).trans rfl, (blk_cell BK208.out 3).trans rfl, (blk_cell BK208.out 4).trans rfl, (blk_cell BK208.out 5).trans rfl, (blk_cell BK208.out 6).trans rfl, (blk_cell BK208.out 7).trans rfl⟩ (fun hHeld => ?_); clear hK K; refine norm_ (a' := ?_) ?_ ?_; rotate_left
           ·
            show Act.put _ (some 144) _ = _
            simp only [Act.put, setIfInBounds_toArray, set_cons_zero, set_cons_succ, i64_w, i32_w]; rfl
           refine join_ (σ := Value × Value × Value) 47 (mk_ 25 72) (fun s_ => [(145, .string (strOfNums t244)), (148, s_.1), (149, .string (strOfNums t247)), (155, s_.2.1), (156, .string (strOfNums t250)), (159, s_.2.2), (160, .string (strOfNums t253)), (150, .bool true), (151, .bool true), (152, .bool true), (153, .slice A0 l0.length c0), (154, .slice A1 l1.length c1), (157, .slice A0 l0.length c0), (158, .slice A1 l1.length c1)]) (fun s_ w' => (w'.cell? ⟨gb208, 0, none⟩ = some (.int .i64 a5_0) ∧ w'.cell? ⟨gb208, 1, none⟩ = some (.int .i64 a5_1) ∧ w'.cell? ⟨gb208, 2, none⟩ = some (.slice A5_2 l5_2.length c5_2) ∧ w'.cell? ⟨gb208, 3, none⟩ = some (.slice A5_3 l5_3.length c5_3) ∧ w'.cell? ⟨gb208, 4, none⟩ = some (.slice A5_4 l5_4.length c5_4) ∧ w'.cell? ⟨gb208, 5, none⟩ = some (.slice A5_5 l5_5.length c5_5) ∧ w'.cell? ⟨gb208, 6, none⟩ = some (.slice A5_6 l5_6.length c5_6) ∧ w'.cell? ⟨gb208, 7, none⟩ = some (.bool a5_7)) ∧ (Kd.V (Kd.int .u8) 5 w' w.heap.size (fun k_ => (P2_ k_ ∨ w.heap.size ≤ k_) ∧ some k_ ≠ (s_.1 : Value).ownBlock ∧ some k_ ≠ (s_.2.1 : Value).ownBlock ∧ some k_ ≠ (s_.2.2 : Value).ownBlock ∧ some k_ ≠ (.slice Ao82 t216.length co82 : Value).ownBlock ∧ some k_ ≠ (.slice Ao83 t220.length co83 : Value).ownBlock ∧ some k_ ≠ (.slice Ao34 y224.length co34 : Value).ownBlock ∧ k_ ≠ gb208) v245 t244) ∧ (Kd.R (Kd.int .u8) 5 w' w.heap.size (fun k_ => (w.heap.size ≤ k_) ∧ some k_ ≠ (s_.2.1 : Value).ownBlock ∧ some k_ ≠ (s_.2.2 : Value).ownBlock) s_.1 t247) ∧ (Kd.R (Kd.int .u8) 5 w' w.heap.size (fun k_ => (w.heap.size ≤ k_) ∧ some k_ ≠ (s_.1 : Value).ownBlock ∧ some k_ ≠ (s_.2.2 : Value).ownBlock) s_.2.1 t250) ∧ (Kd.R (Kd.int .u8) 5 w' w.heap.size (fun k_ => (w.heap.size ≤ k_) ∧ some k_ ≠ (s_.1 : Value).ownBlock ∧ some k_ ≠ (s_.2.1 : Value).ownBlock) s_.2.2 t253) ∧ (Kd.R (Kd.int .i64) 3 w' w.heap.size (fun k_ => (w.heap.size ≤ k_) ∧ some k_ ≠ (.slice Ao83 t220.length co83 : Value).ownBlock) (.slice Ao82 t216.length co82) t216) ∧ (Kd.R (Kd.int .i64) 3 w' w.heap.size (fun k_ => (w.heap.size ≤ k_) ∧ some k_ ≠ (.slice Ao82 t216.length co82 : Value).ownBlock) (.slice Ao83 t220.length co83) t220) ∧ (Kd.N (Kd.slice 3 (Kd.int .i64)) 23 w' w.heap.size (fun k_ => (P2_ k_ ∨ w.heap.size ≤ k_) ∧ some k_ ≠ (s_.1 : Value).ownBlock ∧ some k_ ≠ (s_.2.1 : Value).ownBlock ∧ some k_ ≠ (s_.2.2 : Value).ownBlock ∧ some k_ ≠ (.slice Ao82 t216.length co82 : Value).ownBlock ∧ some k_ ≠ (.slice Ao83 t220.length co83 : Value).ownBlock ∧ k_ ≠ gb208) (.slice Ao34 y224.length co34) y224) ∧ (w'.heap[gb208]? = some (.cells #[.int .i64 a5_0, .int .i64 a5_1, .slice A5_2 l5_2.length c5_2, .slice A5_3 l5_3.length c5_3, .slice A5_4 l5_4.length c5_4, .slice A5_5 l5_5.length c5_5, .slice A5_6 l5_6.length c5_6, .bool a5_7] 31 (0, 0))) ∧ (Below w.heap.size w w')) ?_ ?_; rotate_left
           ·
            intro hJ9_12_13_19_20_23_24; refine join_ (σ := Value × Value × Value) 48 (mk_ 24 72) (fun s_ => [(145, .string (strOfNums t244)), (148, s_.1), (149, .string (strOfNums t247)), (155, s_.2.1), (156, .string (strOfNums t250)), (159, s_.2.2), (150, .bool true), (151, .bool true), (152, .bool true), (153, .slice A0 l0.length c0), (154, .slice A1 l1.length c1), (157, .slice A0 l0.length c0), (158, .slice A1 l1.length c1)]) (fun s_ w' => (w'.cell? ⟨gb208, 0, none⟩ = some (.int .i64 a5_0) ∧ w'.cell? ⟨gb208, 1, none⟩ = some (.int .i64 a5_1) ∧ w'.cell? ⟨gb208, 2, none⟩ = some (.slice A5_2 l5_2.length c5_2) ∧ w'.cell? ⟨gb208, 3, none⟩ = some (.slice A5_3 l5_3.length c5_3) ∧ w'.cell? ⟨gb208, 4, none⟩ = some (.slice A5_4 l5_4.length c5_4) ∧ w'.cell? ⟨gb208, 5, none⟩ = some (.slice A5_5 l5_5.length c5_5) ∧ w'.cell? ⟨gb208, 6, none⟩ = some (.slice A5_6 l5_6.length c5_6) ∧ w'.cell? ⟨gb208, 7, none⟩ = some (.bool a5_7)) ∧ (Kd.V (Kd.int .u8) 5 w' w.heap.size (fun k_ => (P2_ k_ ∨ w.heap.size ≤ k_) ∧ some k_ ≠ (s_.1 : Value).ownBlock ∧ some k_ ≠ (s_.2.1 : Value).ownBlock ∧ some k_ ≠ (s_.2.2 : Value).ownBlock ∧ some k_ ≠ (.slice Ao82 t216.length co82 : Value).ownBlock ∧ some k_ ≠ (.slice Ao83 t220.length co83 : Value).ownBlock ∧ some k_ ≠ (.slice Ao34 y224.length co34 : Value).ownBlock ∧ k_ ≠ gb208) v245 t244) ∧ (Kd.R (Kd.int .u8) 5 w' w.heap.size (fun k_ => (w.heap.size ≤ k_) ∧ some k_ ≠ (s_.2.1 : Value).ownBlock ∧ some k_ ≠ (s_.2.2 : Value).ownBlock) s_.1 t247) ∧ (Kd.R (Kd.int .u8) 5 w' w.heap.size (fun k_ => (w.heap.size ≤ k_) ∧ some k_ ≠ (s_.1 : Value).ownBlock ∧ some k_ ≠ (s_.2.2 : Value).ownBlock) s_.2.1 t250) ∧ (Kd.R (Kd.int .u8) 5 w' w.heap.size (fun k_ => (w.heap.size ≤ k_) ∧ some k_ ≠ (s_.1 : Value).ownBlock ∧ some k_ ≠ (s_.2.1 : Value).ownBlock) s_.2.2 t253) ∧ (Kd.R (Kd.int .i64) 3 w' w.heap.size (fun k_ => (w.heap.size ≤ k_) ∧ some k_ ≠ (.slice Ao83 t220.length co83 : Value).ownBlock) (.slice Ao82 t216.length co82) t216) ∧ (Kd.R (Kd.int .i64) 3 w' w.heap.size (fun k_ => (w.heap.size ≤ k_) ∧ some k_ ≠ (.slice Ao82 t216.length co82 : Value).ownBlock) (.slice Ao83 t220.length co83) t220) ∧ (Kd.N (Kd.slice 3 (Kd.int .i64)) 23 w' w.heap.size (fun k_ => (P2_ k_ ∨ w.heap.size ≤ k_) ∧ some k_ ≠ (s_.1 : Value).ownBlock ∧ some k_ ≠ (s_.2.1 : Value).ownBlock ∧ some k_ ≠ (s_.2.2 : Value).ownBlock ∧ some k_ ≠ (.slice Ao82 t216.length co82 : Value).ownBlock ∧ some k_ ≠ (.slice Ao83 t220.length co83 : Value).ownBlock ∧ k_ ≠ gb208) (.slice Ao34 y224.length co34) y224) ∧ (w'.heap[gb208]? = some (.cells #[.int .i64 a5_0, .int .i64 a5_1, .slice A5_2 l5_2.length c5_2, .slice A5_3 l5_3.length c5_3, .slice A5_4 l5_4.length c5_4, .slice A5_5 l5_5.length c5_5, .slice A5_6 l5_6.length c5_6, .bool a5_7] 31 (0, 0))) ∧ (Below w.heap.size w w')) ?_ ?_; rotate_left
            ·
             intro hJ9_12_13_19_20_23; refine join_ (σ := Value × Value × Value) 48 (bm_ 72 32505855) (fun s_ => [(145, .string (strOfNums t244)), (148, s_.1), (149, .string (strOfNums t247)), (155, s_.2.1), (159, s_.2.2), (160, .string (strOfNums t253)), (150, .bool true), (151, .bool true), (152, .bool true), (153, .slice A0 l0.length c0), (154, .slice A1 l1.length c1), (157, .slice A0 l0.length c0), (158, .slice A1 l1.length c1)]) (fun s_ w' => (w'.cell? ⟨gb208, 0, none⟩ = some (.int .i64 a5_0) ∧ w'.cell? ⟨gb208, 1, none⟩ = some (.int .i64 a5_1) ∧ w'.cell? ⟨gb208, 2, none⟩ = some (.slice A5_2 l5_2.length c5_2) ∧ w'.cell? ⟨gb208, 3, none⟩ = some (.slice A5_3 l5_3.length c5_3) ∧ w'.cell? ⟨gb208, 4, none⟩ = some (.slice A5_4 l5_4.length c5_4) ∧ w'.cell? ⟨gb208, 5, none⟩ = some (.slice A5_5 l5_5.length c5_5) ∧ w'.cell? ⟨gb208, 6, none⟩ = some (.slice A5_6 l5_6.length c5_6) ∧ w'.cell? ⟨gb208, 7, none⟩ = some (.bool a5_7)) ∧ (Kd.V (Kd.int .u8) 5 w' w.heap.size (fun k_ => (P2_ k_ ∨ w.heap.size ≤ k_) ∧ some k_ ≠ (s_.1 : Value).ownBlock ∧ some k_ ≠ (s_.2.1 : Value).ownBlock ∧ some k_ ≠ (s_.2.2 : Value).ownBlock ∧ some k_ ≠ (.slice Ao82 t216.length co82 : Value).ownBlock ∧ some k_ ≠ (.slice Ao83 t220.length co83 : Value).ownBlock ∧ some k_ ≠ (.slice Ao34 y224.length co34 : Value).ownBlock ∧ k_ ≠ gb208) v245 t244) ∧ (Kd.R (Kd.int .u8) 5 w' w.heap.size (fun k_ => (w.heap.size ≤ k_) ∧ some k_ ≠ (s_.2.1 : Value).ownBlock ∧ some k_ ≠ (s_.2.2 : Value).ownBlock) s_.1 t247) ∧ (Kd.R (Kd.int .u8) 5 w' w.heap.size (fun k_ => (w.heap.size ≤ k_) ∧ some k_ ≠ (s_.1 : Value).ownBlock ∧ some k_ ≠ (s_.2.2 : Value).ownBlock) s_.2.1 t250) ∧ (Kd.R (Kd.int .u8) 5 w' w.heap.size (fun k_ => (w.heap.size ≤ k_) ∧ some k_ ≠ (s_.1 : Value).ownBlock ∧ some k_ ≠ (s_.2.1 : Value).ownBlock) s_.2.2 t253) ∧ (Kd.R (Kd.int .i64) 3 w' w.heap.size (fun k_ => (w.heap.size ≤ k_) ∧ some k_ ≠ (.slice Ao83 t220.length co83 : Value).ownBlock) (.slice Ao82 t216.length co82) t216) ∧ (Kd.R (Kd.int .i64) 3 w' w.heap.size (fun k_ => (w.heap.size ≤ k_) ∧ some k_ ≠ (.slice Ao82 t216.length co82 : Value).ownBlock) (.slice Ao83 t220.length co83) t220) ∧ (Kd.N (Kd.slice 3 (Kd.int .i64)) 23 w' w.heap.size (fun k_ => (P2_ k_ ∨ w.heap.size ≤ k_) ∧ some k_ ≠ (s_.1 : Value).ownBlock ∧ some k_ ≠ (s_.2.1 : Value).ownBlock ∧ some k_ ≠ (s_.2.2 : Value).ownBlock ∧ some k_ ≠ (.slice Ao82 t216.length co82 : Value).ownBlock ∧ some k_ ≠ (.slice Ao83 t220.length co83 : Value).ownBlock ∧ k_ ≠ gb208) (.slice Ao34 y224.length co34) y224) ∧ (w'.heap[gb208]? = some (.cells #[.int .i64 a5_0, .int .i64 a5_1, .slice A5_2 l5_2.length c5_2, .slice A5_3 l5_3.length c5_3, .slice A5_4 l5_4.length c5_4, .slice A5_5 l5_5.length c5_5, .slice A5_6 l5_6.length c5_6, .bool a5_7] 31 (0, 0))) ∧ (Below w.heap.size w w')) ?_ ?_; rotate_left
             ·
              intro hJ9_12_13_19_23_24; refine join_ (σ := Value × Value) 49 (mk_ 23 72) (fun s_ => [(145, .string (strOfNums t244)), (148, s_.1), (149, .string (strOfNums t247)), (155, s_.2), (156, .string (strOfNums t250)), (150, .bool true), (151, .bool true), (152, .bool true), (153, .slice A0 l0.length c0), (154, .slice A1 l1.length c1), (157, .slice A0 l0.length c0), (158, .slice A1 l1.length c1)]) (fun s_ w' => (w'.cell? ⟨gb208, 0, none⟩ = some (.int .i64 a5_0) ∧ w'.cell? ⟨gb208, 1, none⟩ = some (.int .i64 a5_1) ∧ w'.cell? ⟨gb208, 2, none⟩ = some (.slice A5_2 l5_2.length c5_2) ∧ w'.cell? ⟨gb208, 3, none⟩ = some (.slice A5_3 l5_3.length c5_3) ∧ w'.cell? ⟨gb208, 4, none⟩ = some (.slice A5_4 l5_4.length c5_4) ∧ w'.cell? ⟨gb208, 5, none⟩ = some (.slice A5_5 l5_5.length c5_5) ∧ w'.cell? ⟨gb208, 6, none⟩ = some (.slice A5_6 l5_6.length c5_6) ∧ w'.cell? ⟨gb208, 7, none⟩ = some (.bool a5_7)) ∧ (Kd.V (Kd.int .u8) 5 w' w.heap.size (fun k_ => (P2_ k_ ∨ w.heap.size ≤ k_) ∧ some k_ ≠ (s_.1 : Value).ownBlock ∧ some k_ ≠ (s_.2 : Value).ownBlock ∧ some k_ ≠ (.slice Ao82 t216.length co82 : Value).ownBlock ∧ some k_ ≠ (.slice Ao83 t220.length co83 : Value).ownBlock ∧ some k_ ≠ (.slice Ao34 y224.length co34 : Value).ownBlock ∧ k_ ≠ gb208) v245 t244) ∧ (Kd.R (Kd.int .u8) 5 w' w.heap.size (fun k_ => (w.heap.size ≤ k_) ∧ some k_ ≠ (s_.2 : Value).ownBlock) s_.1 t247) ∧ (Kd.R (Kd.int .u8) 5 w' w.heap.size (fun k_ => (w.heap.size ≤ k_) ∧ some k_ ≠ (s_.1 : Value).ownBlock) s_.2 t250) ∧ (Kd.R (Kd.int .i64) 3 w' w.heap.size (fun k_ => (w.heap.size ≤ k_) ∧ some k_ ≠ (.slice Ao83 t220.length co83 : Value).ownBlock) (.slice Ao82 t216.length co82) t216) ∧ (Kd.R (Kd.int .i64) 3 w' w.heap.size (fun k_ => (w.heap.size ≤ k_) ∧ some k_ ≠ (.slice Ao82 t216.length co82 : Value).ownBlock) (.slice Ao83 t220.length co83) t220) ∧ (Kd.N (Kd.slice 3 (Kd.int .i64)) 23 w' w.heap.size (fun k_ => (P2_ k_ ∨ w.heap.size ≤ k_) ∧ some k_ ≠ (s_.1 : Value).ownBlock ∧ some k_ ≠ (s_.2 : Value).ownBlock ∧ some k_ ≠ (.slice Ao82 t216.length co82 : Value).ownBlock ∧ some k_ ≠ (.slice Ao83 t220.length co83 : Value).ownBlock ∧ k_ ≠ gb208) (.slice Ao34 y224.length co34) y224) ∧ (w'.heap[gb208]? = some (.cells #[.int .i64 a5_0, .int .i64 a5_1, .slice A5_2 l5_2.length c5_2, .slice A5_3 l5_3.length c5_3, .slice A5_4 l5_4.length c5_4, .slice A5_5 l5_5.length c5_5, .slice A5_6 l5_6.length c5_6, .bool a5_7] 31 (0, 0))) ∧ (Below w.heap.size w w')) ?_ ?_; rotate_left
              ·
               intro hJ9_12_13_19_20; refine join_ (σ := Value × Value × Value) 49 (bm_ 72 15728639) (fun s_ => [(145, .string (strOfNums t244)), (148, s_.1), (149, .string (strOfNums t247)), (155, s_.2.1), (159, s_.2.2), (150, .bool true), (151, .bool true), (152, .bool true), (153, .slice A0 l0.length c0), (154, .slice A1 l1.length c1), (157, .slice A0 l0.length c0), (158, .slice A1 l1.length c1)]) (fun s_ w' => (w'.cell? ⟨gb208, 0, none⟩ = some (.int .i64 a5_0) ∧ w'.cell? ⟨gb208, 1, none⟩ = some (.int .i64 a5_1) ∧ w'.cell? ⟨gb208, 2, none⟩ = some (.slice A5_2 l5_2.length c5_2) ∧ w'.cell? ⟨gb208, 3, none⟩ = some (.slice A5_3 l5_3.length c5_3) ∧ w'.cell? ⟨gb208, 4, none⟩ = some (.slice A5_4 l5_4.length c5_4) ∧ w'.cell? ⟨gb208, 5, none⟩ = some (.slice A5_5 l5_5.length c5_5) ∧ w'.cell? ⟨gb208, 6, none⟩ = some (.slice A5_6 l5_6.length c5_6) ∧ w'.cell? ⟨gb208, 7, none⟩ = some (.bool a5_7)) ∧ (Kd.V (Kd.int .u8) 5 w' w.heap.size (fun k_ => (P2_ k_ ∨ w.heap.size ≤ k_) ∧ some k_ ≠ (s_.1 : Value).ownBlock ∧ some k_ ≠ (s_.2.1 : Value).ownBlock ∧ some k_ ≠ (s_.2.2 : Value).ownBlock ∧ some k_ ≠ (.slice Ao82 t216.length co82 : Value).ownBlock ∧ some k_ ≠ (.slice Ao83 t220.length co83 : Value).ownBlock ∧ some k_ ≠ (.slice Ao34 y224.length co34 : Value).ownBlock ∧ k_ ≠ gb208) v245 t244) ∧ (Kd.R (Kd.int .u8) 5 w' w.heap.size (fun k_ => (w.heap.size ≤ k_) ∧ some k_ ≠ (s_.2.1 : Value).ownBlock ∧ some k_ ≠ (s_.2.2 : Value).ownBlock) s_.1 t247) ∧ (Kd.R (Kd.int .u8) 5 w' w.heap.size (fun k_ => (w.heap.size ≤ k_) ∧ some k_ ≠ (s_.1 : Value).ownBlock ∧ some k_ ≠ (s_.2.2 : Value).ownBlock) s_.2.1 t250) ∧ (Kd.R (Kd.int .u8) 5 w' w.heap.size (fun k_ => (w.heap.size ≤ k_) ∧ some k_ ≠ (s_.1 : Value).ownBlock ∧ some k_ ≠ (s_.2.1 : Value).ownBlock) s_.2.2 t253) ∧ (Kd.R (Kd.int .i64) 3 w' w.heap.size (fun k_ => (w.heap.size ≤ k_) ∧ some k_ ≠ (.slice Ao83 t220.length co83 : Value).ownBlock) (.slice Ao82 t216.length co82) t216) ∧ (Kd.R (Kd.int .i64) 3 w' w.heap.size (fun k_ => (w.heap.size ≤ k_) ∧ some k_ ≠ (.slice Ao82 t216.length co82 : Value).ownBlock) (.slice Ao83 t220.length co83) t220) ∧ (Kd.N (Kd.slice 3 (Kd.int .i64)) 23 w' w.heap.size (fun k_ => (P2_ k_ ∨ w.heap.size ≤ k_) ∧ some k_ ≠ (s_.1 : Value).ownBlock ∧ some k_ ≠ (s_.2.1 : Value).ownBlock ∧ some k_ ≠ (s_.2.2 : Value).ownBlock ∧ some k_ ≠ (.slice Ao82 t216.length co82 : Value).ownBlock ∧ some k_ ≠ (.slice Ao83 t220.length co83 : Value).ownBlock ∧ k_ ≠ gb208) (.slice Ao34 y224.length co34) y224) ∧ (w'.heap[gb208]? = some (.cells #[.int .i64 a5_0, .int .i64 a5_1, .slice A5_2 l5_2.length c5_2, .slice A5_3 l5_3.length c5_3, .slice A5_4 l5_4.length c5_4, .slice A5_5 l5_5.length c5_5, .slice A5_6 l5_6.length c5_6, .bool a5_7] 31 (0, 0))) ∧ (Below w.heap.size w w')) ?_ ?_; rotate_left
               ·
                intro hJ9_12_13_19_23; refine join_ (σ := Value × Value) 50 (bm_ 72 7340031) (fun s_ => [(145, .string (strOfNums t244)), (148, s_.1), (149, .string (strOfNums t247)), (155, s_.2), (150, .bool true), (151, .bool true), (152, .bool true), (153, .slice A0 l0.length c0), (154, .slice A1 l1.length c1), (157, .slice A0 l0.length c0), (158, .slice A1 l1.length c1)]) (fun s_ w' => (w'.cell? ⟨gb208, 0, none⟩ = some (.int .i64 a5_0) ∧ w'.cell? ⟨gb208, 1, none⟩ = some (.int .i64 a5_1) ∧ w'.cell? ⟨gb208, 2, none⟩ = some (.slice A5_2 l5_2.length c5_2) ∧ w'.cell? ⟨gb208, 3, none⟩ = some (.slice A5_3 l5_3.length c5_3) ∧ w'.cell? ⟨gb208, 4, none⟩ = some (.slice A5_4 l5_4.length c5_4) ∧ w'.cell? ⟨gb208, 5, none⟩ = some (.slice A5_5 l5_5.length c5_5) ∧ w'.cell? ⟨gb208, 6, none⟩ = some (.slice A5_6 l5_6.length c5_6) ∧ w'.cell? ⟨gb208, 7, none⟩ = some (.bool a5_7)) ∧ (Kd.V (Kd.int .u8) 5 w' w.heap.size (fun k_ => (P2_ k_ ∨ w.heap.size ≤ k_) ∧ some k_ ≠ (s_.1 : Value).ownBlock ∧ some k_ ≠ (s_.2 : Value).ownBlock ∧ some k_ ≠ (.slice Ao82 t216.length co82 : Value).ownBlock ∧ some k_ ≠ (.slice Ao83 t220.length co83 : Value).ownBlock ∧ some k_ ≠ (.slice Ao34 y224.length co34 : Value).ownBlock ∧ k_ ≠ gb208) v245 t244) ∧ (Kd.R (Kd.int .u8) 5 w' w.heap.size (fun k_ => (w.heap.size ≤ k_) ∧ some k_ ≠ (s_.2 : Value).ownBlock) s_.1 t247) ∧ (Kd.R (Kd.int .u8) 5 w' w.heap.size (fun k_ => (w.heap.size ≤ k_) ∧ some k_ ≠ (s_.1 : Value).ownBlock) s_.2 t250) ∧ (Kd.R (Kd.int .i64) 3 w' w.heap.size (fun k_ => (w.heap.size ≤ k_) ∧ some k_ ≠ (.slice Ao83 t220.length co83 : Value).ownBlock) (.slice Ao82 t216.length co82) t216) ∧ (Kd.R (Kd.int .i64) 3 w' w.heap.size (fun k_ => (w.heap.size ≤ k_) ∧ some k_ ≠ (.slice Ao82 t216.length co82 : Value).ownBlock) (.slice Ao83 t220.length co83) t220) ∧ (Kd.N (Kd.slice 3 (Kd.int .i64)) 23 w' w.heap.size (fun k_ => (P2_ k_ ∨ w.heap.size ≤ k_) ∧ some k_ ≠ (s_.1 : Value).ownBlock ∧ some k_ ≠ (s_.2 : Value).ownBlock ∧ some k_ ≠ (.slice Ao82 t216.length co82 : Value).ownBlock ∧ some k_ ≠ (.slice Ao83 t220.length co83 : Value).ownBlock ∧ k_ ≠ gb208) (.slice Ao34 y224.length co34) y224) ∧ (w'.heap[gb208]? = some (.cells #[.int .i64 a5_0, .int .i64 a5_1, .slice A5_2 l5_2.length c5_2, .slice A5_3 l5_3.length c5_3, .slice A5_4 l5_4.length c5_4, .slice A5_5 l5_5.length c5_5, .slice A5_6 l5_6.length c5_6, .bool a5_7] 31 (0, 0))) ∧ (Below w.heap.size w w')) ?_ ?_; rotate_left
                ·
                 intro hJ9_12_13_19; refine join_ (σ := Value) 51 (bm_ 72 6815743) (fun s_ => [(145, .string (strOfNums t244)), (148, s_), (149, .string (strOfNums t247)), (150, .bool true), (151, .bool true), (152, .bool true), (153, .slice A0 l0.length c0), (154, .slice A1 l1.length c1), (157, .slice A0 l0.length c0), (158, .slice A1 l1.length c1)]) (fun s_ w' => (w'.cell? ⟨gb208, 0, none⟩ = some (.int .i64 a5_0) ∧ w'.cell? ⟨gb208, 1, none⟩ = some (.int .i64 a5_1) ∧ w'.cell? ⟨gb208, 2, none⟩ = some (.slice A5_2 l5_2.length c5_2) ∧ w'.cell? ⟨gb208, 3, none⟩ = some (.slice A5_3 l5_3.length c5_3) ∧ w'.cell? ⟨gb208, 4, none⟩ = some (.slice A5_4 l5_4.length c5_4) ∧ w'.cell? ⟨gb208, 5, none⟩ = some (.slice A5_5 l5_5.length c5_5) ∧ w'.cell? ⟨gb208, 6, none⟩ = some (.slice A5_6 l5_6.length c5_6) ∧ w'.cell? ⟨gb208, 7, none⟩ = some (.bool a5_7)) ∧ (Kd.V (Kd.int .u8) 5 w' w.heap.size (fun k_ => (P2_ k_ ∨ w.heap.size ≤ k_) ∧ some k_ ≠ (s_ : Value).ownBlock ∧ some k_ ≠ (.slice Ao82 t216.length co82 : Value).ownBlock ∧ some k_ ≠ (.slice Ao83 t220.length co83 : Value).ownBlock ∧ some k_ ≠ (.slice Ao34 y224.length co34 : Value).ownBlock ∧ k_ ≠ gb208) v245 t244) ∧ (Kd.R (Kd.int .u8) 5 w' w.heap.size (fun k_ => (w.heap.size ≤ k_)) s_ t247) ∧ (Kd.R (Kd.int .i64) 3 w' w.heap.size (fun k_ => (w.heap.size ≤ k_) ∧ some k_ ≠ (.slice Ao83 t220.length co83 : Value).ownBlock) (.slice Ao82 t216.length co82) t216) ∧ (Kd.R (Kd.int .i64) 3 w' w.heap.size (fun k_ => (w.heap.size ≤ k_) ∧ some k_ ≠ (.slice Ao82 t216.length co82 : Value).ownBlock) (.slice Ao83 t220.length co83) t220) ∧ (Kd.N (Kd.slice 3 (Kd.int .i64)) 23 w' w.heap.size (fun k_ => (P2_ k_ ∨ w.heap.size ≤ k_) ∧ some k_ ≠ (s_ : Value).ownBlock ∧ some k_ ≠ (.slice Ao82 t216.length co82 : Value).ownBlock ∧ some k_ ≠ (.slice Ao83 t220.length co83 : Value).ownBlock ∧ k_ ≠ gb208) (.slice Ao34 y224.length co34) y224) ∧ (w'.heap[gb208]? = some (.cells #[.int .i64 a5_0, .int .i64 a5_1, .slice A5_2 l5_2.length c5_2, .slice A5_3 l5_3.length c5_3, .slice A5_4 l5_4.length c5_4, .slice A5_5 l5_5.length c5_5, .slice A5_6 l5_6.length c5_6, .bool a5_7] 31 (0, 0))) ∧ (Below w.heap.size w w')) ?_ ?_; rotate_left
                 ·
                  intro hJ9_12_13; refine join_ (σ := Value) 59 (mk_ 13 72) (fun s_ => [(145, .string (strOfNums t244)), (148, s_)]) (fun s_ w' => (w'.cell? ⟨gb208, 0, none⟩ = some (.int .i64 a5_0) ∧ w'.cell? ⟨gb208, 1, none⟩ = some (.int .i64 a5_1) ∧ w'.cell? ⟨gb208, 2, none⟩ = some (.slice A5_2 l5_2.length c5_2) ∧ w'.cell? ⟨gb208, 3, none⟩ = some (.slice A5_3 l5_3.length c5_3) ∧ w'.cell? ⟨gb208, 4, none⟩ = some (.slice A5_4 l5_4.length c5_4) ∧ w'.cell? ⟨gb208, 5, none⟩ = some (.slice A5_5 l5_5.length c5_5) ∧ w'.cell? ⟨gb208, 6, none⟩ = some (.slice A5_6 l5_6.length c5_6) ∧ w'.cell? ⟨gb208, 7, none⟩ = some (.bool a5_7)) ∧ (Kd.V (Kd.int .u8) 5 w' w.heap.size (fun k_ => (P2_ k_ ∨ w.heap.size ≤ k_) ∧ some k_ ≠ (s_ : Value).ownBlock ∧ some k_ ≠ (.slice Ao82 t216.length co82 : Value).ownBlock ∧ some k_ ≠ (.slice Ao83 t220.length co83 : Value).ownBlock ∧ some k_ ≠ (.slice Ao34 y224.length co34 : Value).ownBlock ∧ k_ ≠ gb208) v245 t244) ∧ (Kd.R (Kd.int .u8) 5 w' w.heap.size (fun k_ => (w.heap.size ≤ k_)) s_ t247) ∧ (Kd.R (Kd.int .i64) 3 w' w.heap.size (fun k_ => (w.heap.size ≤ k_) ∧ some k_ ≠ (.slice Ao83 t220.length co83 : Value).ownBlock) (.slice Ao82 t216.length co82) t216) ∧ (Kd.R (Kd.int .i64) 3 w' w.heap.size (fun k_ => (w.heap.size ≤ k_) ∧ some k_ ≠ (.slice Ao82 t216.length co82 : Value).ownBlock) (.slice Ao83 t220.length co83) t220) ∧ (Kd.N (Kd.slice 3 (Kd.int .i64)) 23 w' w.heap.size (fun k_ => (P2_ k_ ∨ w.heap.size ≤ k_) ∧ some k_ ≠ (s_ : Value).ownBlock ∧ some k_ ≠ (.slice Ao82 t216.length co82 : Value).ownBlock ∧ some k_ ≠ (.slice Ao83 t220.length co83 : Value).ownBlock ∧ k_ ≠ gb208) (.slice Ao34 y224.length co34) y224) ∧ (w'.heap[gb208]? = some (.cells #[.int .i64 a5_0, .int .i64 a5_1, .slice A5_2 l5_2.length c5_2, .slice A5_3 l5_3.length c5_3, .slice A5_4 l5_4.length c5_4, .slice A5_5 l5_5.length c5_5, .slice A5_6 l5_6.length c5_6, .bool a5_7] 31 (0, 0))) ∧ (Below w.heap.size w w')) ?_ ?_; rotate_left
                  ·
                   intro hJ9_12; refine join_ (σ := Value) 59 (bm_ 72 15871) (fun s_ => [(148, s_), (149, .string (strOfNums t247))]) (fun s_ w' => (w'.cell? ⟨gb208, 0, none⟩ = some (.int .i64 a5_0) ∧ w'.cell? ⟨gb208, 1, none⟩ = some (.int .i64 a5_1) ∧ w'.cell? ⟨gb208, 2, none⟩ = some (.slice A5_2 l5_2.length c5_2) ∧ w'.cell? ⟨gb208, 3, none⟩ = some (.slice A5_3 l5_3.length c5_3) ∧ w'.cell? ⟨gb208, 4, none⟩ = some (.slice A5_4 l5_4.length c5_4) ∧ w'.cell? ⟨gb208, 5, none⟩ = some (.slice A5_5 l5_5.length c5_5) ∧ w'.cell? ⟨gb208, 6, none⟩ = some (.slice A5_6 l5_6.length c5_6) ∧ w'.cell? ⟨gb208, 7, none⟩ = some (.bool a5_7)) ∧ (Kd.V (Kd.int .u8) 5 w' w.heap.size (fun k_ => (P2_ k_ ∨ w.heap.size ≤ k_) ∧ some k_ ≠ (s_ : Value).ownBlock ∧ some k_ ≠ (.slice Ao82 t216.length co82 : Value).ownBlock ∧ some k_ ≠ (.slice Ao83 t220.length co83 : Value).ownBlock ∧ some k_ ≠ (.slice Ao34 y224.length co34 : Value).ownBlock ∧ k_ ≠ gb208) v245 t244) ∧ (Kd.R (Kd.int .u8) 5 w' w.heap.size (fun k_ => (w.heap.size ≤ k_)) s_ t247) ∧ (Kd.R (Kd.int .i64) 3 w' w.heap.size (fun k_ => (w.heap.size ≤ k_) ∧ some k_ ≠ (.slice Ao83 t220.length co83 : Value).ownBlock) (.slice Ao82 t216.length co82) t216) ∧ (Kd.R (Kd.int .i64) 3 w' w.heap.size (fun k_ => (w.heap.size ≤ k_) ∧ some k_ ≠ (.slice Ao82 t216.length co82 : Value).ownBlock) (.slice Ao83 t220.length co83) t220) ∧ (Kd.N (Kd.slice 3 (Kd.int .i64)) 23 w' w.heap.size (fun k_ => (P2_ k_ ∨ w.heap.size ≤ k_) ∧ some k_ ≠ (s_ : Value).ownBlock ∧ some k_ ≠ (.slice Ao82 t216.length co82 : Value).ownBlock ∧ some k_ ≠ (.slice Ao83 t220.length co83 : Value).ownBlock ∧ k_ ≠ gb208) (.slice Ao34 y224.length co34) y224) ∧ (w'.heap[gb208]? = some (.cells #[.int .i64 a5_0, .int .i64 a5_1, .slice A5_2 l5_2.length c5_2, .slice A5_3 l5_3.length c5_3, .slice A5_4 l5_4.length c5_4, .slice A5_5 l5_5.length c5_5, .slice A5_6 l5_6.length c5_6, .bool a5_7] 31 (0, 0))) ∧ (Below w.heap.size w w')) ?_ ?_; rotate_left
                   ·
                    intro hJ12_13; refine join_ (σ := Unit) 60 (mk_ 12 72) (fun s_ => [(145, .string (strOfNums t244))]) (fun s_ w' => (w'.cell? ⟨gb208, 0, none⟩ = some (.int .i64 a5_0) ∧ w'.cell? ⟨gb208, 1, none⟩ = some (.int .i64 a5_1) ∧ w'.cell? ⟨gb208, 2, none⟩ = some (.slice A5_2 l5_2.length c5_2) ∧ w'.cell? ⟨gb208, 3, none⟩ = some (.slice A5_3 l5_3.length c5_3) ∧ w'.cell? ⟨gb208, 4, none⟩ = some (.slice A5_4 l5_4.length c5_4) ∧ w'.cell? ⟨gb208, 5, none⟩ = some (.slice A5_5 l5_5.length c5_5) ∧ w'.cell? ⟨gb208, 6, none⟩ = some (.slice A5_6 l5_6.length c5_6) ∧ w'.cell? ⟨gb208, 7, none⟩ = some (.bool a5_7)) ∧ (Kd.V (Kd.int .u8) 5 w' w.heap.size (fun k_ => (P2_ k_ ∨ w.heap.size ≤ k_) ∧ some k_ ≠ (.slice Ao82 t216.length co82 : Value).ownBlock ∧ some k_ ≠ (.slice Ao83 t220.length co83 : Value).ownBlock ∧ some k_ ≠ (.slice Ao34 y224.length co34 : Value).ownBlock ∧ k_ ≠ gb208) v245 t244) ∧ (Kd.R (Kd.int .i64) 3 w' w.heap.size (fun k_ => (w.heap.size ≤ k_) ∧ some k_ ≠ (.slice Ao83 t220.length co83 : Value).ownBlock) (.slice Ao82 t216.length co82) t216) ∧ (Kd.R (Kd.int .i64) 3 w' w.heap.size (fun k_ => (w.heap.size ≤ k_) ∧ some k_ ≠ (.slice Ao82 t216.length co82 : Value).ownBlock) (.slice Ao83 t220.length co83) t220) ∧ (Kd.N (Kd.slice 3 (Kd.int .i64)) 23 w' w.heap.size (fun k_ => (P2_ k_ ∨ w.heap.size ≤ k_) ∧ some k_ ≠ (.slice Ao82 t216.length co82 : Value).ownBlock ∧ some k_ ≠ (.slice Ao83 t220.length co83 : Value).ownBlock ∧ k_ ≠ gb208) (.slice Ao34 y224.length co34) y224) ∧ (w'.heap[gb208]? = some (.cells #[.int .i64 a5_0, .int .i64 a5_1, .slice A5_2 l5_2.length c5_2, .slice A5_3 l5_3.length c5_3, .slice A5_4 l5_4.length c5_4, .slice A5_5 l5_5.length c5_5, .slice A5_6 l5_6.length c5_6, .bool a5_7] 31 (0, 0))) ∧ (Below w.heap.size w w')) ?_ ?_; rotate_left
                    ·
                     intro hJ9; refine join_ (σ := Value) 60 (bm_ 72 7679) (fun s_ => [(148, s_)]) (fun s_ w' => (w'.cell? ⟨gb208, 0, none⟩ = some (.int .i64 a5_0) ∧ w'.cell? ⟨gb208, 1, none⟩ = some (.int .i64 a5_1) ∧ w'.cell? ⟨gb208, 2, none⟩ = some (.slice A5_2 l5_2.length c5_2) ∧ w'.cell? ⟨gb208, 3, none⟩ = some (.slice A5_3 l5_3.length c5_3) ∧ w'.cell? ⟨gb208, 4, none⟩ = some (.slice A5_4 l5_4.length c5_4) ∧ w'.cell? ⟨gb208, 5, none⟩ = some (.slice A5_5 l5_5.length c5_5) ∧ w'.cell? ⟨gb208, 6, none⟩ = some (.slice A5_6 l5_6.length c5_6) ∧ w'.cell? ⟨gb208, 7, none⟩ = some (.bool a5_7)) ∧ (Kd.V (Kd.int .u8) 5 w' w.heap.size (fun k_ => (P2_ k_ ∨ w.heap.size ≤ k_) ∧ some k_ ≠ (s_ : Value).ownBlock ∧ some k_ ≠ (.slice Ao82 t216.length co82 : Value).ownBlock ∧ some k_ ≠ (.slice Ao83 t220.length co83 : Value).ownBlock ∧ some k_ ≠ (.slice Ao34 y224.length co34 : Value).ownBlock ∧ k_ ≠ gb208) v245 t244) ∧ (Kd.R (Kd.int .u8) 5 w' w.heap.size (fun k_ => (w.heap.size ≤ k_)) s_ t247) ∧ (Kd.R (Kd.int .i64) 3 w' w.heap.size (fun k_ => (w.heap.size ≤ k_) ∧ some k_ ≠ (.slice Ao83 t220.length co83 : Value).ownBlock) (.slice Ao82 t216.length co82) t216) ∧ (Kd.R (Kd.int .i64) 3 w' w.heap.size (fun k_ => (w.heap.size ≤ k_) ∧ some k_ ≠ (.slice Ao82 t216.length co82 : Value).ownBlock) (.slice Ao83 t220.length co83) t220) ∧ (Kd.N (Kd.slice 3 (Kd.int .i64)) 23 w' w.heap.size (fun k_ => (P2_ k_ ∨ w.heap.size ≤ k_) ∧ some k_ ≠ (s_ : Value).ownBlock ∧ some k_ ≠ (.slice Ao82 t216.length co82 : Value).ownBlock ∧ some k_ ≠ (.slice Ao83 t220.length co83 : Value).ownBlock ∧ k_ ≠ gb208) (.slice Ao34 y224.length co34) y224) ∧ (w'.heap[gb208]? = some (.cells #[.int .i64 a5_0, .int .i64 a5_1, .slice A5_2 l5_2.length c5_2, .slice A5_3 l5_3.length c5_3, .slice A5_4 l5_4.length c5_4, .slice A5_5 l5_5.length c5_5, .slice A5_6 l5_6.length c5_6, .bool a5_7] 31 (0, 0))) ∧ (Below w.heap.size w w')) ?_ ?_; rotate_left
                     ·
                      intro hJ12; refine two_ (i := 9) (j := 12) (Ni := some 145) (Nj := some 148) (mk_ 12 72) (bm_ 72 7679) rfl rfl rfl rfl (two_of HT_.out (by kernel_rfl)) (by decide) (by decide) (fun K hK => ?_) (fun K hK => ?_)
                      ·
                       skip
                       have hcv88 := Vstr_ (P := Try.prog) Try.underlying27 Try.underlying5 Try.underlying9 HO246.out; refine value_ (w1 := ?_) (v := ?_) (by rfl) rfl ?_ ?_; rotate_left 2
                       ·
                        go_simp
                        constructor
                        ·
                         rfl
                        ·
                         rfl
                       clear hcv88; refine hK.out _ _ ⟨(blk_cell BK208.out 0).trans rfl, (blk_cell BK208.out 1).trans rfl, (blk_cell BK208.out 2).trans rfl, (blk_cell BK208.out 3).trans rfl, (blk_cell BK208.out 4).trans rfl, (blk_cell BK208.out 5).trans rfl, (blk_cell BK208.out 6).trans rfl, (blk_cell BK208.out 7).trans rfl⟩ (fun hHeld => ?_); clear hK K; refine norm_ (a' := ?_) ?_ ?_; rotate_left
                       ·
                        show Act.put _ (some 145) _ = _
                        simp only [Act.put, setIfInBounds_toArray, set_cons_zero, set_cons_succ, i64_w, i32_w]; rfl
                       exact norm_ (by first | (simp only [putAll, Act.put, setIfInBounds_toArray, set_cons_zero, set_cons_succ]; done) | (simp only [putAll, Act.put, setIfInBounds_toArray, set_cons_zero, set_cons_succ]; rfl)) (hJ9 () _ ⟨hHeld, (kV_ HO246.out), (kR_ HO_16.out), (kR_ HO_18.out), (kN_ HO_98.out), (bk_ BK208.out), (hb1_ HB.out GE208.out)⟩)
                      ·
                       skip
                       refine goes_ Try.func57 (by kernel_rfl) rfl #[.slice A0 l0.length c0, .int .i64 (Int.tmod a3 400)] (by rfl) rfl rfl lm_ ?_; with_reducible refine (ref15_Extend.calls k3 _ _ l0 (Int.tmod a3 400) t247 _ ?side1 ?side2 A62.out).mono ?_
                       (case side1 => exact kD_ (Kd.C_below HR0.out HB.out))
                       (case side2 => exact HC0.out)
                       rintro e w88 ⟨v248, rfl, ho0, hb⟩; refine ⟨_, rfl, ?_⟩; have n0_ := Aside0.mk (Kd.R_below (kR_ HO_16.out) hb); have n1_ := Aside0.mk (Kd.R_below (kR_ HO_18.out) hb); have n2_ := Aside0.mk (Kd.N_elder' (kN_ HO_98.out) (Kd.R_base ho0) hb); have n3_ := Aside0.mk (Kd.V_elder' (kV_ HO246.out) (Kd.R_base ho0) hb); have n4_ := Aside0.mk (Kd.R_lower (Kd.R_newM (M := fun k_ => (w.heap.size ≤ k_)) ho0 (below_size (hb1_ HB.out GE208.out)) (fun k_ h_ => h_)) (below_size (hb1_ HB.out GE208.out))); have n5_ := Aside0.mk (bb_ BK208.out hb); have n6_ := Aside0.mk (below_step (hb1_ HB.out GE208.out) hb); clear HO_16; clear HO_18; clear HO_98; clear HO246; clear BK208; clear HB; revert n0_ n1_ n2_ n3_ n4_ n5_ n6_; intro HO_16 HO_18 HO_98 HO246 HO249 BK208 HB; (try clear hb)
                       (try clear hb2)
                       (try clear hk)
                       (try clear hi)
                       (try clear ho0)
                       refine hK.out _ _ ⟨(blk_cell BK208.out 0).trans rfl, (blk_cell BK208.out 1).trans rfl, (blk_cell BK208.out 2).trans rfl, (blk_cell BK208.out 3).trans rfl, (blk_cell BK208.out 4).trans rfl, (blk_cell BK208.out 5).trans rfl, (blk_cell BK208.out 6).trans rfl, (blk_cell BK208.out 7).trans rfl⟩ (fun hHeld => ?_); clear hK K; refine norm_ (a' := ?_) ?_ ?_; rotate_left
                       ·
                        show Act.put _ (some 148) _ = _
                        simp only [Act.put, setIfInBounds_toArray, set_cons_zero, set_cons_succ, i64_w, i32_w]; rfl
                       exact norm_ (by first | (simp only [putAll, Act.put, setIfInBounds_toArray, set_cons_zero, set_cons_succ]; done) | (simp only [putAll, Act.put, setIfInBounds_toArray, set_cons_zero, set_cons_succ]; rfl)) (hJ12 (v248) _ ⟨hHeld, (by (with_reducible repeat (first | apply Kd.V_alloc | apply Kd.V_drewN | apply Kd.V_drew)); exact Kd.V_mono HO246.out (fun _ hk => ⟨hk.1.1, ⟨hk.2, ⟨hk.1.2.1, ⟨hk.1.2.2.1, ⟨hk.1.2.2.2.1, hk.1.2.2.2.2⟩⟩⟩⟩⟩)), (by (with_reducible repeat (first | apply Kd.R_alloc | apply Kd.R_drewN | apply Kd.R_drew)); exact Kd.R_mono HO249.out (fun _ hk => hk.1)), (kR_ HO_16.out), (kR_ HO_18.out), (by (with_reducible repeat (first | apply Kd.N_alloc | apply Kd.N_drewN | apply Kd.N_drew)); exact Kd.N_mono HO_98.out (fun _ hk => ⟨hk.1.1, ⟨hk.2, ⟨hk.1.2.1, ⟨hk.1.2.2.1, hk.1.2.2.2⟩⟩⟩⟩)), (bk_ BK208.out), (hb1_ HB.out GE208.out)⟩)
                     ·
                      skip
                      rintro v248 w89 ⟨hS_, h0_, h1_, h2_, h3_, h4_, h5_, h6_⟩; have n0_ : Aside0 (Kd.V (Kd.int .u8) 5 w89 w.heap.size (fun k_ => (P2_ k_ ∨ w.heap.size ≤ k_) ∧ some k_ ≠ (v248 : Value).ownBlock ∧ some k_ ≠ (.slice Ao82 t216.length co82 : Value).ownBlock ∧ some k_ ≠ (.slice Ao83 t220.length co83 : Value).ownBlock ∧ some k_ ≠ (.slice Ao34 y224.length co34 : Value).ownBlock ∧ k_ ≠ gb208) v245 t244) := ⟨h0_⟩; have n1_ : Aside0 (Kd.R (Kd.int .u8) 5 w89 w.heap.size (fun k_ => (w.heap.size ≤ k_)) v248 t247) := ⟨h1_⟩; have n2_ : Aside0 (Kd.R (Kd.int .i64) 3 w89 w.heap.size (fun k_ => (w.heap.size ≤ k_) ∧ some k_ ≠ (.slice Ao83 t220.length co83 : Value).ownBlock) (.slice Ao82 t216.length co82) t216) := ⟨h2_⟩; have n3_ : Aside0 (Kd.R (Kd.int .i64) 3 w89 w.heap.size (fun k_ => (w.heap.size ≤ k_) ∧ some k_ ≠ (.slice Ao82 t216.length co82 : Value).ownBlock) (.slice Ao83 t220.length co83) t220) := ⟨h3_⟩; have n4_ : Aside0 (Kd.N (Kd.slice 3 (Kd.int .i64)) 23 w89 w.heap.size (fun k_ => (P2_ k_ ∨ w.heap.size ≤ k_) ∧ some k_ ≠ (v248 : Value).ownBlock ∧ some k_ ≠ (.slice Ao82 t216.length co82 : Value).ownBlock ∧ some k_ ≠ (.slice Ao83 t220.length co83 : Value).ownBlock ∧ k_ ≠ gb208) (.slice Ao34 y224.length co34) y224) := ⟨h4_⟩; have n5_ : Aside0 (w89.heap[gb208]? = some (.cells #[.int .i64 a5_0, .int .i64 a5_1, .slice A5_2 l5_2.length c5_2, .slice A5_3 l5_3.length c5_3, .slice A5_4 l5_4.length c5_4, .slice A5_5 l5_5.length c5_5, .slice A5_6 l5_6.length c5_6, .bool a5_7] 31 (0, 0))) := ⟨h5_⟩; have n6_ : Aside0 (Below w.heap.size w w89) := ⟨h6_⟩; clear HO_16; clear HO_18; clear HO_98; clear BK208; clear HB; clear h0_ h1_ h2_ h3_ h4_ h5_ h6_; revert n0_ n1_ n2_ n3_ n4_ n5_ n6_; intro HO246 HO249 HO_16 HO_18 HO_98 BK208 HB; have hHeld : w89.cell? ⟨gb208, 0, none⟩ = some (.int .i64 a5_0) ∧ w89.cell? ⟨gb208, 1, none⟩ = some (.int .i64 a5_1) ∧ w89.cell? ⟨gb208, 2, none⟩ = some (.slice A5_2 l5_2.length c5_2) ∧ w89.cell? ⟨gb208, 3, none⟩ = some (.slice A5_3 l5_3.length c5_3) ∧ w89.cell? ⟨gb208, 4, none⟩ = some (.slice A5_4 l5_4.length c5_4) ∧ w89.cell? ⟨gb208, 5, none⟩ = some (.slice A5_5 l5_5.length c5_5) ∧ w89.cell? ⟨gb208, 6, none⟩ = some (.slice A5_6 l5_6.length c5_6) ∧ w89.cell? ⟨gb208, 7, none⟩ = some (.bool a5_7) := hS_; refine norm_ (a' := ?_) ?_ ?_; rotate_left
                      ·
                       simp only [putAll, Act.put, setIfInBounds_toArray, set_cons_zero, set_cons_succ]; rfl
                      refine two_ (i := 9) (j := 13) (Ni := some 145) (Nj := some 149) (mk_ 13 72) (bm_ 72 15871) rfl rfl rfl rfl (two_of HT_.out (by kernel_rfl)) (by decide) (by decide) (fun K hK => ?_) (fun K hK => ?_)
                      ·
                       skip
                       have hcv90 := Vstr_ (P := Try.prog) Try.underlying27 Try.underlying5 Try.underlying9 HO246.out; refine value_ (w1 := ?_) (v := ?_) (by rfl) rfl ?_ ?_; rotate_left 2
                       ·
                        go_simp
                        constructor
                        ·
                         rfl
                        ·
                         rfl
                       clear hcv90; refine hK.out _ _ ⟨(blk_cell BK208.out 0).trans rfl, (blk_cell BK208.out 1).trans rfl, (blk_cell BK208.out 2).trans rfl, (blk_cell BK208.out 3).trans rfl, (blk_cell BK208.out 4).trans rfl, (blk_cell BK208.out 5).trans rfl, (blk_cell BK208.out 6).trans rfl, (blk_cell BK208.out 7).trans rfl⟩ (fun hHeld => ?_); clear hK K; refine norm_ (a' := ?_) ?_ ?_; rotate_left
                       ·
                        show Act.put _ (some 145) _ = _
                        simp only [Act.put, setIfInBounds_toArray, set_cons_zero, set_cons_succ, i64_w, i32_w]; rfl
                       exact norm_ (by first | (simp only [putAll, Act.put, setIfInBounds_toArray, set_cons_zero, set_cons_succ]; done) | (simp only [putAll, Act.put, setIfInBounds_toArray, set_cons_zero, set_cons_succ]; rfl)) (hJ9_12 (v248) _ ⟨hHeld, (kV_ HO246.out), (kR_ HO249.out), (kR_ HO_16.out), (kR_ HO_18.out), (kN_ HO_98.out), (bk_ BK208.out), (hb1_ HB.out GE208.out)⟩)
                      ·
                       skip
                       have hcv90 := own_string (P := Try.prog) Try.underlying27 Try.underlying5 Try.underlying9 (Kd.own_of_R HO249.out); refine value_ (w1 := ?_) (v := ?_) (by rfl) rfl ?_ ?_; rotate_left 2
                       ·
                        go_simp
                        constructor
                        ·
                         rfl
                        ·
                         rfl
                       clear hcv90; refine hK.out _ _ ⟨(blk_cell BK208.out 0).trans rfl, (blk_cell BK208.out 1).trans rfl, (blk_cell BK208.out 2).trans rfl, (blk_cell BK208.out 3).trans rfl, (blk_cell BK208.out 4).trans rfl, (blk_cell BK208.out 5).trans rfl, (blk_cell BK208.out 6).trans rfl, (blk_cell BK208.out 7).trans rfl⟩ (fun hHeld => ?_); clear hK K; refine norm_ (a' := ?_) ?_ ?_; rotate_left
                       ·
                        show Act.put _ (some 149) _ = _
                        simp only [Act.put, setIfInBounds_toArray, set_cons_zero, set_cons_succ, i64_w, i32_w]; rfl
                       exact norm_ (by first | (simp only [putAll, Act.put, setIfInBounds_toArray, set_cons_zero, set_cons_succ]; done) | (simp only [putAll, Act.put, setIfInBounds_toArray, set_cons_zero, set_cons_succ]; rfl)) (hJ12_13 (v248) _ ⟨hHeld, (kV_ HO246.out), (kR_ HO249.out), (kR_ HO_16.out), (kR_ HO_18.out), (kN_ HO_98.out), (bk_ BK208.out), (hb1_ HB.out GE208.out)⟩)
                    ·
                     skip
                     rintro _ w89 ⟨hS_, h0_, h1_, h2_, h3_, h4_, h5_⟩; have n0_ : Aside0 (Kd.V (Kd.int .u8) 5 w89 w.heap.size (fun k_ => (P2_ k_ ∨ w.heap.size ≤ k_) ∧ some k_ ≠ (.slice Ao82 t216.length co82 : Value).ownBlock ∧ some k_ ≠ (.slice Ao83 t220.length co83 : Value).ownBlock ∧ some k_ ≠ (.slice Ao34 y224.length co34 : Value).ownBlock ∧ k_ ≠ gb208) v245 t244) := ⟨h0_⟩; have n1_ : Aside0 (Kd.R (Kd.int .i64) 3 w89 w.heap.size (fun k_ => (w.heap.size ≤ k_) ∧ some k_ ≠ (.slice Ao83 t220.length co83 : Value).ownBlock) (.slice Ao82 t216.length co82) t216) := ⟨h1_⟩; have n2_ : Aside0 (Kd.R (Kd.int .i64) 3 w89 w.heap.size (fun k_ => (w.heap.size ≤ k_) ∧ some k_ ≠ (.slice Ao82 t216.length co82 : Value).ownBlock) (.slice Ao83 t220.length co83) t220) := ⟨h2_⟩; have n3_ : Aside0 (Kd.N (Kd.slice 3 (Kd.int .i64)) 23 w89 w.heap.size (fun k_ => (P2_ k_ ∨ w.heap.size ≤ k_) ∧ some k_ ≠ (.slice Ao82 t216.length co82 : Value).ownBlock ∧ some k_ ≠ (.slice Ao83 t220.length co83 : Value).ownBlock ∧ k_ ≠ gb208) (.slice Ao34 y224.length co34) y224) := ⟨h3_⟩; have n4_ : Aside0 (w89.heap[gb208]? = some (.cells #[.int .i64 a5_0, .int .i64 a5_1, .slice A5_2 l5_2.length c5_2, .slice A5_3 l5_3.length c5_3, .slice A5_4 l5_4.length c5_4, .slice A5_5 l5_5.length c5_5, .slice A5_6 l5_6.length c5_6, .bool a5_7] 31 (0, 0))) := ⟨h4_⟩; have n5_ : Aside0 (Below w.heap.size w w89) := ⟨h5_⟩; clear HO_16; clear HO_18; clear HO_98; clear BK208; clear HB; clear h0_ h1_ h2_ h3_ h4_ h5_; revert n0_ n1_ n2_ n3_ n4_ n5_; intro HO246 HO_16 HO_18 HO_98 BK208 HB; have hHeld : w89.cell? ⟨gb208, 0, none⟩ = some (.int .i64 a5_0) ∧ w89.cell? ⟨gb208, 1, none⟩ = some (.int .i64 a5_1) ∧ w89.cell? ⟨gb208, 2, none⟩ = some (.slice A5_2 l5_2.length c5_2) ∧ w89.cell? ⟨gb208, 3, none⟩ = some (.slice A5_3 l5_3.length c5_3) ∧ w89.cell? ⟨gb208, 4, none⟩ = some (.slice A5_4 l5_4.length c5_4) ∧ w89.cell? ⟨gb208, 5, none⟩ = some (.slice A5_5 l5_5.length c5_5) ∧ w89.cell? ⟨gb208, 6, none⟩ = some (.slice A5_6 l5_6.length c5_6) ∧ w89.cell? ⟨gb208, 7, none⟩ = some (.bool a5_7) := hS_; refine norm_ (a' := ?_) ?_ ?_; rotate_left
                     ·
                      simp only [putAll, Act.put, setIfInBounds_toArray, set_cons_zero, set_cons_succ]; rfl
                     refine one_ (i := 12) (N := some 148) (mk_ 13 72) rfl rfl (one_of HT_.out (by kernel_rfl)) (by decide) (fun K hK => ?_); refine goes_ Try.func57 (by kernel_rfl) rfl #[.slice A0 l0.length c0, .int .i64 (Int.tmod a3 400)] (by rfl) rfl rfl lm_ ?_; with_reducible refine (ref15_Extend.calls k3 _ _ l0 (Int.tmod a3 400) t247 _ ?side1 ?side2 A62.out).mono ?_
                     (case side1 => exact kD_ (Kd.C_below HR0.out HB.out))
                     (case side2 => exact HC0.out)
                     rintro e w90 ⟨v248, rfl, ho0, hb⟩; refine ⟨_, rfl, ?_⟩; have n0_ := Aside0.mk (Kd.R_below (kR_ HO_16.out) hb); have n1_ := Aside0.mk (Kd.R_below (kR_ HO_18.out) hb); have n2_ := Aside0.mk (Kd.N_elder' (kN_ HO_98.out) (Kd.R_base ho0) hb); have n3_ := Aside0.mk (Kd.V_elder' (kV_ HO246.out) (Kd.R_base ho0) hb); have n4_ := Aside0.mk (Kd.R_lower (Kd.R_newM (M := fun k_ => (w.heap.size ≤ k_)) ho0 (below_size (hb1_ HB.out GE208.out)) (fun k_ h_ => h_)) (below_size (hb1_ HB.out GE208.out))); have n5_ := Aside0.mk (bb_ BK208.out hb); have n6_ := Aside0.mk (below_step (hb1_ HB.out GE208.out) hb); clear HO_16; clear HO_18; clear HO_98; clear HO246; clear BK208; clear HB; revert n0_ n1_ n2_ n3_ n4_ n5_ n6_; intro HO_16 HO_18 HO_98 HO246 HO249 BK208 HB; (try clear hb)
                     (try clear hb2)
                     (try clear hk)
                     (try clear hi)
                     (try clear ho0)
                     refine hK.out _ _ ⟨(blk_cell BK208.out 0).trans rfl, (blk_cell BK208.out 1).trans rfl, (blk_cell BK208.out 2).trans rfl, (blk_cell BK208.out 3).trans rfl, (blk_cell BK208.out 4).trans rfl, (blk_cell BK208.out 5).trans rfl, (blk_cell BK208.out 6).trans rfl, (blk_cell BK208.out 7).trans rfl⟩ (fun hHeld => ?_); clear hK K; refine norm_ (a' := ?_) ?_ ?_; rotate_left
                     ·
                      show Act.put _ (some 148) _ = _
                      simp only [Act.put, setIfInBounds_toArray, set_cons_zero, set_cons_succ, i64_w, i32_w]; rfl
                     exact norm_ (by first | (simp only [putAll, Act.put, setIfInBounds_toArray, set_cons_zero, set_cons_succ]; done) | (simp only [putAll, Act.put, setIfInBounds_toArray, set_cons_zero, set_cons_succ]; rfl)) (hJ9_12 (v248) _ ⟨hHeld, (by (with_reducible repeat (first | apply Kd.V_alloc | apply Kd.V_drewN | apply Kd.V_drew)); exact Kd.V_mono HO246.out (fun _ hk => ⟨hk.1.1, ⟨hk.2, ⟨hk.1.2.1, ⟨hk.1.2.2.1, ⟨hk.1.2.2.2.1, hk.1.2.2.2.2⟩⟩⟩⟩⟩)), (by (with_reducible repeat (first | apply Kd.R_alloc | apply Kd.R_drewN | apply Kd.R_drew)); exact Kd.R_mono HO249.out (fun _ hk => hk.1)), (kR_ HO_16.out), (kR_ HO_18.out), (by (with_reducible repeat (first | apply Kd.N_alloc | apply Kd.N_drewN | apply Kd.N_drew)); exact Kd.N_mono HO_98.out (fun _ hk => ⟨hk.1.1, ⟨hk.2, ⟨hk.1.2.1, ⟨hk.1.2.2.1, hk.1.2.2.2⟩⟩⟩⟩)), (bk_ BK208.out), (hb1_ HB.out GE208.out)⟩)
                   ·
                    skip
                    rintro v248 w90 ⟨hS_, h0_, h1_, h2_, h3_, h4_, h5_, h6_⟩; have n0_ : Aside0 (Kd.V (Kd.int .u8) 5 w90 w.heap.size (fun k_ => (P2_ k_ ∨ w.heap.size ≤ k_) ∧ some k_ ≠ (v248 : Value).ownBlock ∧ some k_ ≠ (.slice Ao82 t216.length co82 : Value).ownBlock ∧ some k_ ≠ (.slice Ao83 t220.length co83 : Value).ownBlock ∧ some k_ ≠ (.slice Ao34 y224.length co34 : Value).ownBlock ∧ k_ ≠ gb208) v245 t244) := ⟨h0_⟩; have n1_ : Aside0 (Kd.R (Kd.int .u8) 5 w90 w.heap.size (fun k_ => (w.heap.size ≤ k_)) v248 t247) := ⟨h1_⟩; have n2_ : Aside0 (Kd.R (Kd.int .i64) 3 w90 w.heap.size (fun k_ => (w.heap.size ≤ k_) ∧ some k_ ≠ (.slice Ao83 t220.length co83 : Value).ownBlock) (.slice Ao82 t216.length co82) t216) := ⟨h2_⟩; have n3_ : Aside0 (Kd.R (Kd.int .i64) 3 w90 w.heap.size (fun k_ => (w.heap.size ≤ k_) ∧ some k_ ≠ (.slice Ao82 t216.length co82 : Value).ownBlock) (.slice Ao83 t220.length co83) t220) := ⟨h3_⟩; have n4_ : Aside0 (Kd.N (Kd.slice 3 (Kd.int .i64)) 23 w90 w.heap.size (fun k_ => (P2_ k_ ∨ w.heap.size ≤ k_) ∧ some k_ ≠ (v248 : Value).ownBlock ∧ some k_ ≠ (.slice Ao82 t216.length co82 : Value).ownBlock ∧ some k_ ≠ (.slice Ao83 t220.length co83 : Value).ownBlock ∧ k_ ≠ gb208) (.slice Ao34 y224.length co34) y224) := ⟨h4_⟩; have n5_ : Aside0 (w90.heap[gb208]? = some (.cells #[.int .i64 a5_0, .int .i64 a5_1, .slice A5_2 l5_2.length c5_2, .slice A5_3 l5_3.length c5_3, .slice A5_4 l5_4.length c5_4, .slice A5_5 l5_5.length c5_5, .slice A5_6 l5_6.length c5_6, .bool a5_7] 31 (0, 0))) := ⟨h5_⟩; have n6_ : Aside0 (Below w.heap.size w w90) := ⟨h6_⟩; clear HO_16; clear HO_18; clear HO_98; clear BK208; clear HB; clear h0_ h1_ h2_ h3_ h4_ h5_ h6_; revert n0_ n1_ n2_ n3_ n4_ n5_ n6_; intro HO246 HO249 HO_16 HO_18 HO_98 BK208 HB; have hHeld : w90.cell? ⟨gb208, 0, none⟩ = some (.int .i64 a5_0) ∧ w90.cell? ⟨gb208, 1, none⟩ = some (.int .i64 a5_1) ∧ w90.cell? ⟨gb208, 2, none⟩ = some (.slice A5_2 l5_2.length c5_2) ∧ w90.cell? ⟨gb208, 3, none⟩ = some (.slice A5_3 l5_3.length c5_3) ∧ w90.cell? ⟨gb208, 4, none⟩ = some (.slice A5_4 l5_4.length c5_4) ∧ w90.cell? ⟨gb208, 5, none⟩ = some (.slice A5_5 l5_5.length c5_5) ∧ w90.cell? ⟨gb208, 6, none⟩ = some (.slice A5_6 l5_6.length c5_6) ∧ w90.cell? ⟨gb208, 7, none⟩ = some (.bool a5_7) := hS_; refine norm_ (a' := ?_) ?_ ?_; rotate_left
                    ·
                     simp only [putAll, Act.put, setIfInBounds_toArray, set_cons_zero, set_cons_succ]; rfl
                    refine one_ (i := 9) (N := some 145) (mk_ 14 72) rfl rfl (one_of HT_.out (by kernel_rfl)) (by decide) (fun K hK => ?_); have hcv91 := Vstr_ (P := Try.prog) Try.underlying27 Try.underlying5 Try.underlying9 HO246.out; refine value_ (w1 := ?_) (v := ?_) (by rfl) rfl ?_ ?_; rotate_left 2
                    ·
                     go_simp
                     constructor
                     ·
                      rfl
                     ·
                      rfl
                    clear hcv91; refine hK.out _ _ ⟨(blk_cell BK208.out 0).trans rfl, (blk_cell BK208.out 1).trans rfl, (blk_cell BK208.out 2).trans rfl, (blk_cell BK208.out 3).trans rfl, (blk_cell BK208.out 4).trans rfl, (blk_cell BK208.out 5).trans rfl, (blk_cell BK208.out 6).trans rfl, (blk_cell BK208.out 7).trans rfl⟩ (fun hHeld => ?_); clear hK K; refine norm_ (a' := ?_) ?_ ?_; rotate_left
                    ·
                     show Act.put _ (some 145) _ = _
                     simp only [Act.put, setIfInBounds_toArray, set_cons_zero, set_cons_succ, i64_w, i32_w]; rfl
                    refine pu_ 14 (some 150) (mk_ 15 72) HT_ ?_; refine pu_ 15 (some 151) (mk_ 16 72) HT_ ?_; refine pu_ 16 (some 152) (mk_ 17 72) HT_ ?_; refine pu_ 17 (some 153) (mk_ 18 72) HT_ ?_; refine pu_ 18 (some 154) (mk_ 19 72) HT_ ?_; refine pu_ 21 (some 157) (bm_ 72 2621439) HT_ ?_; refine pu_ 22 (some 158) (bm_ 72 6815743) HT_ ?_; exact norm_ (by first | (simp only [putAll, Act.put, setIfInBounds_toArray, set_cons_zero, set_cons_succ]; done) | (simp only [putAll, Act.put, setIfInBounds_toArray, set_cons_zero, set_cons_succ]; rfl)) (hJ9_12_13 (v248) _ ⟨hHeld, (kV_ HO246.out), (kR_ HO249.out), (kR_ HO_16.out), (kR_ HO_18.out), (kN_ HO_98.out), (bk_ BK208.out), (hb1_ HB.out GE208.out)⟩)
                  ·
                   skip
                   rintro v248 w90 ⟨hS_, h0_, h1_, h2_, h3_, h4_, h5_, h6_⟩; have n0_ : Aside0 (Kd.V (Kd.int .u8) 5 w90 w.heap.size (fun k_ => (P2_ k_ ∨ w.heap.size ≤ k_) ∧ some k_ ≠ (v248 : Value).ownBlock ∧ some k_ ≠ (.slice Ao82 t216.length co82 : Value).ownBlock ∧ some k_ ≠ (.slice Ao83 t220.length co83 : Value).ownBlock ∧ some k_ ≠ (.slice Ao34 y224.length co34 : Value).ownBlock ∧ k_ ≠ gb208) v245 t244) := ⟨h0_⟩; have n1_ : Aside0 (Kd.R (Kd.int .u8) 5 w90 w.heap.size (fun k_ => (w.heap.size ≤ k_)) v248 t247) := ⟨h1_⟩; have n2_ : Aside0 (Kd.R (Kd.int .i64) 3 w90 w.heap.size (fun k_ => (w.heap.size ≤ k_) ∧ some k_ ≠ (.slice Ao83 t220.length co83 : Value).ownBlock) (.slice Ao82 t216.length co82) t216) := ⟨h2_⟩; have n3_ : Aside0 (Kd.R (Kd.int .i64) 3 w90 w.heap.size (fun k_ => (w.heap.size ≤ k_) ∧ some k_ ≠ (.slice Ao82 t216.length co82 : Value).ownBlock) (.slice Ao83 t220.length co83) t220) := ⟨h3_⟩; have n4_ : Aside0 (Kd.N (Kd.slice 3 (Kd.int .i64)) 23 w90 w.heap.size (fun k_ => (P2_ k_ ∨ w.heap.size ≤ k_) ∧ some k_ ≠ (v248 : Value).ownBlock ∧ some k_ ≠ (.slice Ao82 t216.length co82 : Value).ownBlock ∧ some k_ ≠ (.slice Ao83 t220.length co83 : Value).ownBlock ∧ k_ ≠ gb208) (.slice Ao34 y224.length co34) y224) := ⟨h4_⟩; have n5_ : Aside0 (w90.heap[gb208]? = some (.cells #[.int .i64 a5_0, .int .i64 a5_1, .slice A5_2 l5_2.length c5_2, .slice A5_3 l5_3.length c5_3, .slice A5_4 l5_4.length c5_4, .slice A5_5 l5_5.length c5_5, .slice A5_6 l5_6.length c5_6, .bool a5_7] 31 (0, 0))) := ⟨h5_⟩; have n6_ : Aside0 (Below w.heap.size w w90) := ⟨h6_⟩; clear HO_16; clear HO_18; clear HO_98; clear BK208; clear HB; clear h0_ h1_ h2_ h3_ h4_ h5_ h6_; revert n0_ n1_ n2_ n3_ n4_ n5_ n6_; intro HO246 HO249 HO_16 HO_18 HO_98 BK208 HB; have hHeld : w90.cell? ⟨gb208, 0, none⟩ = some (.int .i64 a5_0) ∧ w90.cell? ⟨gb208, 1, none⟩ = some (.int .i64 a5_1) ∧ w90.cell? ⟨gb208, 2, none⟩ = some (.slice A5_2 l5_2.length c5_2) ∧ w90.cell? ⟨gb208, 3, none⟩ = some (.slice A5_3 l5_3.length c5_3) ∧ w90.cell? ⟨gb208, 4, none⟩ = some (.slice A5_4 l5_4.length c5_4) ∧ w90.cell? ⟨gb208, 5, none⟩ = some (.slice A5_5 l5_5.length c5_5) ∧ w90.cell? ⟨gb208, 6, none⟩ = some (.slice A5_6 l5_6.length c5_6) ∧ w90.cell? ⟨gb208, 7, none⟩ = some (.bool a5_7) := hS_; refine norm_ (a' := ?_) ?_ ?_; rotate_left
                   ·
                    simp only [putAll, Act.put, setIfInBounds_toArray, set_cons_zero, set_cons_succ]; rfl
                   refine one_ (i := 13) (N := some 149) (mk_ 14 72) rfl rfl (one_of HT_.out (by kernel_rfl)) (by decide) (fun K hK => ?_); have hcv91 := own_string (P := Try.prog) Try.underlying27 Try.underlying5 Try.underlying9 (Kd.own_of_R HO249.out); refine value_ (w1 := ?_) (v := ?_) (by rfl) rfl ?_ ?_; rotate_left 2
                   ·
                    go_simp
                    constructor
                    ·
                     rfl
                    ·
                     rfl
                   clear hcv91; refine hK.out _ _ ⟨(blk_cell BK208.out 0).trans rfl, (blk_cell BK208.out 1).trans rfl, (blk_cell BK208.out 2).trans rfl, (blk_cell BK208.out 3).trans rfl, (blk_cell BK208.out 4).trans rfl, (blk_cell BK208.out 5).trans rfl, (blk_cell BK208.out 6).trans rfl, (blk_cell BK208.out 7).trans rfl⟩ (fun hHeld => ?_); clear hK K; refine norm_ (a' := ?_) ?_ ?_; rotate_left
                   ·
                    show Act.put _ (some 149) _ = _
                    simp only [Act.put, setIfInBounds_toArray, set_cons_zero, set_cons_succ, i64_w, i32_w]; rfl
                   refine pu_ 14 (some 150) (mk_ 15 72) HT_ ?_; refine pu_ 15 (some 151) (mk_ 16 72) HT_ ?_; refine pu_ 16 (some 152) (mk_ 17 72) HT_ ?_; refine pu_ 17 (some 153) (mk_ 18 72) HT_ ?_; refine pu_ 18 (some 154) (mk_ 19 72) HT_ ?_; refine pu_ 21 (some 157) (bm_ 72 2621439) HT_ ?_; refine pu_ 22 (some 158) (bm_ 72 6815743) HT_ ?_; exact norm_ (by first | (simp only [putAll, Act.put, setIfInBounds_toArray, set_cons_zero, set_cons_succ]; done) | (simp only [putAll, Act.put, setIfInBounds_toArray, set_cons_zero, set_cons_succ]; rfl)) (hJ9_12_13 (v248) _ ⟨hHeld, (kV_ HO246.out), (kR_ HO249.out), (kR_ HO_16.out), (kR_ HO_18.out), (kN_ HO_98.out), (bk_ BK208.out), (hb1_ HB.out GE208.out)⟩)
                 ·
                  skip
                  rintro v248 w91 ⟨hS_, h0_, h1_, h2_, h3_, h4_, h5_, h6_⟩; have n0_ : Aside0 (Kd.V (Kd.int .u8) 5 w91 w.heap.size (fun k_ => (P2_ k_ ∨ w.heap.size ≤ k_) ∧ some k_ ≠ (v248 : Value).ownBlock ∧ some k_ ≠ (.slice Ao82 t216.length co82 : Value).ownBlock ∧ some k_ ≠ (.slice Ao83 t220.length co83 : Value).ownBlock ∧ some k_ ≠ (.slice Ao34 y224.length co34 : Value).ownBlock ∧ k_ ≠ gb208) v245 t244) := ⟨h0_⟩; have n1_ : Aside0 (Kd.R (Kd.int .u8) 5 w91 w.heap.size (fun k_ => (w.heap.size ≤ k_)) v248 t247) := ⟨h1_⟩; have n2_ : Aside0 (Kd.R (Kd.int .i64) 3 w91 w.heap.size (fun k_ => (w.heap.size ≤ k_) ∧ some k_ ≠ (.slice Ao83 t220.length co83 : Value).ownBlock) (.slice Ao82 t216.length co82) t216) := ⟨h2_⟩; have n3_ : Aside0 (Kd.R (Kd.int .i64) 3 w91 w.heap.size (fun k_ => (w.heap.size ≤ k_) ∧ some k_ ≠ (.slice Ao82 t216.length co82 : Value).ownBlock) (.slice Ao83 t220.length co83) t220) := ⟨h3_⟩; have n4_ : Aside0 (Kd.N (Kd.slice 3 (Kd.int .i64)) 23 w91 w.heap.size (fun k_ => (P2_ k_ ∨ w.heap.size ≤ k_) ∧ some k_ ≠ (v248 : Value).ownBlock ∧ some k_ ≠ (.slice Ao82 t216.length co82 : Value).ownBlock ∧ some k_ ≠ (.slice Ao83 t220.length co83 : Value).ownBlock ∧ k_ ≠ gb208) (.slice Ao34 y224.length co34) y224) := ⟨h4_⟩; have n5_ : Aside0 (w91.heap[gb208]? = some (.cells #[.int .i64 a5_0, .int .i64 a5_1, .slice A5_2 l5_2.length c5_2, .slice A5_3 l5_3.length c5_3, .slice A5_4 l5_4.length c5_4, .slice A5_5 l5_5.length c5_5, .slice A5_6 l5_6.length c5_6, .bool a5_7] 31 (0, 0))) := ⟨h5_⟩; have n6_ : Aside0 (Below w.heap.size w w91) := ⟨h6_⟩; clear HO_16; clear HO_18; clear HO_98; clear BK208; clear HB; clear h0_ h1_ h2_ h3_ h4_ h5_ h6_; revert n0_ n1_ n2_ n3_ n4_ n5_ n6_; intro HO246 HO249 HO_16 HO_18 HO_98 BK208 HB; have hHeld : w91.cell? ⟨gb208, 0, none⟩ = some (.int .i64 a5_0) ∧ w91.cell? ⟨gb208, 1, none⟩ = some (.int .i64 a5_1) ∧ w91.cell? ⟨gb208, 2, none⟩ = some (.slice A5_2 l5_2.length c5_2) ∧ w91.cell? ⟨gb208, 3, none⟩ = some (.slice A5_3 l5_3.length c5_3) ∧ w91.cell? ⟨gb208, 4, none⟩ = some (.slice A5_4 l5_4.length c5_4) ∧ w91.cell? ⟨gb208, 5, none⟩ = some (.slice A5_5 l5_5.length c5_5) ∧ w91.cell? ⟨gb208, 6, none⟩ = some (.slice A5_6 l5_6.length c5_6) ∧ w91.cell? ⟨gb208, 7, none⟩ = some (.bool a5_7) := hS_; refine norm_ (a' := ?_) ?_ ?_; rotate_left
                  ·
                   simp only [putAll, Act.put, setIfInBounds_toArray, set_cons_zero, set_cons_succ]; rfl
                  refine one_ (i := 19) (N := some 155) (bm_ 72 7340031) rfl rfl (one_of HT_.out (by kernel_rfl)) (by decide) (fun K hK => ?_); refine goes_ Try.func50 (by kernel_rfl) rfl #[.slice A0 l0.length c0, .slice A1 l1.length c1] (by rfl) rfl rfl lm_ ?_; with_reducible refine (mask_And.calls k3 _ _ l0 _ _ l1 t250 _ ?side1 ?side2 ?side3 ?side4 A64.out).mono ?_
                  (case side1 => exact kD_ (Kd.C_below HR0.out HB.out))
                  (case side2 => exact HC0.out)
                  (case side3 => exact kD_ (Kd.C_below HR1.out HB.out))
                  (case side4 => exact HC1.out)
                  rintro e w92 ⟨v251, rfl, ho0, hb⟩; refine ⟨_, rfl, ?_⟩; have n0_ := Aside0.mk (Kd.R_below (kR_ HO_16.out) hb); have n1_ := Aside0.mk (Kd.R_below (kR_ HO_18.out) hb); have n2_ := Aside0.mk (Kd.N_elder' (kN_ HO_98.out) (Kd.R_base ho0) hb); have n3_ := Aside0.mk (Kd.V_elder' (kV_ HO246.out) (Kd.R_base ho0) hb); have n4_ := Aside0.mk (Kd.R_elder' (kR_ HO249.out) (Kd.R_base ho0) hb); have n5_ := Aside0.mk (Kd.R_lower (Kd.R_new' (Kd.R_newM (M := fun k_ => (w.heap.size ≤ k_)) ho0 (below_size (hb1_ HB.out GE208.out)) (fun k_ h_ => h_)) (Kd.R_lt (kR_ HO249.out))) (below_size (hb1_ HB.out GE208.out))); have n6_ := Aside0.mk (bb_ BK208.out hb); have n7_ := Aside0.mk (below_step (hb1_ HB.out GE208.out) hb); clear HO_16; clear HO_18; clear HO_98; clear HO246; clear HO249; clear BK208; clear HB; revert n0_ n1_ n2_ n3_ n4_ n5_ n6_ n7_; intro HO_16 HO_18 HO_98 HO246 HO249 HO252 BK208 HB; (try clear hb)
                  (try clear hb2)
                  (try clear hk)
                  (try clear hi)
                  (try clear ho0)
                  refine hK.out _ _ ⟨(blk_cell BK208.out 0).trans rfl, (blk_cell BK208.out 1).trans rfl, (blk_cell BK208.out 2).trans rfl, (blk_cell BK208.out 3).trans rfl, (blk_cell BK208.out 4).trans rfl, (blk_cell BK208.out 5).trans rfl, (blk_cell BK208.out 6).trans rfl, (blk_cell BK208.out 7).trans rfl⟩ (fun hHeld => ?_); clear hK K; refine norm_ (a' := ?_) ?_ ?_; rotate_left
                  ·
                   show Act.put _ (some 155) _ = _
                   simp only [Act.put, setIfInBounds_toArray, set_cons_zero, set_cons_succ, i64_w, i32_w]; rfl
                  exact norm_ (by first | (simp only [putAll, Act.put, setIfInBounds_toArray, set_cons_zero, set_cons_succ]; done) | (simp only [putAll, Act.put, setIfInBounds_toArray, set_cons_zero, set_cons_succ]; rfl)) (hJ9_12_13_19 (v248, v251) _ ⟨hHeld, (by (with_reducible repeat (first | apply Kd.V_alloc | apply Kd.V_drewN | apply Kd.V_drew)); exact Kd.V_mono HO246.out (fun _ hk => ⟨hk.1.1, ⟨hk.1.2.1, ⟨hk.2, ⟨hk.1.2.2.1, ⟨hk.1.2.2.2.1, ⟨hk.1.2.2.2.2.1, hk.1.2.2.2.2.2⟩⟩⟩⟩⟩⟩)), (kR_ HO249.out), (by (with_reducible repeat (first | apply Kd.R_alloc | apply Kd.R_drewN | apply Kd.R_drew)); exact Kd.R_mono HO252.out (fun _ hk => ⟨hk.1.1, hk.2⟩)), (kR_ HO_16.out), (kR_ HO_18.out), (by (with_reducible repeat (first | apply Kd.N_alloc | apply Kd.N_drewN | apply Kd.N_drew)); exact Kd.N_mono HO_98.out (fun _ hk => ⟨hk.1.1, ⟨hk.1.2.1, ⟨hk.2, ⟨hk.1.2.2.1, ⟨hk.1.2.2.2.1, hk.1.2.2.2.2⟩⟩⟩⟩⟩)), (bk_ BK208.out), (hb1_ HB.out GE208.out)⟩)
                ·
                 skip
                 rintro ⟨v248, v251⟩ w92 ⟨hS_, h0_, h1_, h2_, h3_, h4_, h5_, h6_, h7_⟩; have n0_ : Aside0 (Kd.V (Kd.int .u8) 5 w92 w.heap.size (fun k_ => (P2_ k_ ∨ w.heap.size ≤ k_) ∧ some k_ ≠ (v248 : Value).ownBlock ∧ some k_ ≠ (v251 : Value).ownBlock ∧ some k_ ≠ (.slice Ao82 t216.length co82 : Value).ownBlock ∧ some k_ ≠ (.slice Ao83 t220.length co83 : Value).ownBlock ∧ some k_ ≠ (.slice Ao34 y224.length co34 : Value).ownBlock ∧ k_ ≠ gb208) v245 t244) := ⟨h0_⟩; have n1_ : Aside0 (Kd.R (Kd.int .u8) 5 w92 w.heap.size (fun k_ => (w.heap.size ≤ k_) ∧ some k_ ≠ (v251 : Value).ownBlock) v248 t247) := ⟨h1_⟩; have n2_ : Aside0 (Kd.R (Kd.int .u8) 5 w92 w.heap.size (fun k_ => (w.heap.size ≤ k_) ∧ some k_ ≠ (v248 : Value).ownBlock) v251 t250) := ⟨h2_⟩; have n3_ : Aside0 (Kd.R (Kd.int .i64) 3 w92 w.heap.size (fun k_ => (w.heap.size ≤ k_) ∧ some k_ ≠ (.slice Ao83 t220.length co83 : Value).ownBlock) (.slice Ao82 t216.length co82) t216) := ⟨h3_⟩; have n4_ : Aside0 (Kd.R (Kd.int .i64) 3 w92 w.heap.size (fun k_ => (w.heap.size ≤ k_) ∧ some k_ ≠ (.slice Ao82 t216.length co82 : Value).ownBlock) (.slice Ao83 t220.length co83) t220) := ⟨h4_⟩; have n5_ : Aside0 (Kd.N (Kd.slice 3 (Kd.int .i64)) 23 w92 w.heap.size (fun k_ => (P2_ k_ ∨ w.heap.size ≤ k_) ∧ some k_ ≠ (v248 : Value).ownBlock ∧ some k_ ≠ (v251 : Value).ownBlock ∧ some k_ ≠ (.slice Ao82 t216.length co82 : Value).ownBlock ∧ some k_ ≠ (.slice Ao83 t220.length co83 : Value).ownBlock ∧ k_ ≠ gb208) (.slice Ao34 y224.length co34) y224) := ⟨h5_⟩; have n6_ : Aside0 (w92.heap[gb208]? = some (.cells #[.int .i64 a5_0, .int .i64 a5_1, .slice A5_2 l5_2.length c5_2, .slice A5_3 l5_3.length c5_3, .slice A5_4 l5_4.length c5_4, .slice A5_5 l5_5.length c5_5, .slice A5_6 l5_6.length c5_6, .bool a5_7] 31 (0, 0))) := ⟨h6_⟩; have n7_ : Aside0 (Below w.heap.size w w92) := ⟨h7_⟩; clear HO_16; clear HO_18; clear HO_98; clear BK208; clear HB; clear h0_ h1_ h2_ h3_ h4_ h5_ h6_ h7_; revert n0_ n1_ n2_ n3_ n4_ n5_ n6_ n7_; intro HO246 HO249 HO252 HO_16 HO_18 HO_98 BK208 HB; have hHeld : w92.cell? ⟨gb208, 0, none⟩ = some (.int .i64 a5_0) ∧ w92.cell? ⟨gb208, 1, none⟩ = some (.int .i64 a5_1) ∧ w92.cell? ⟨gb208, 2, none⟩ = some (.slice A5_2 l5_2.length c5_2) ∧ w92.cell? ⟨gb208, 3, none⟩ = some (.slice A5_3 l5_3.length c5_3) ∧ w92.cell? ⟨gb208, 4, none⟩ = some (.slice A5_4 l5_4.length c5_4) ∧ w92.cell? ⟨gb208, 5, none⟩ = some (.slice A5_5 l5_5.length c5_5) ∧ w92.cell? ⟨gb208, 6, none⟩ = some (.slice A5_6 l5_6.length c5_6) ∧ w92.cell? ⟨gb208, 7, none⟩ = some (.bool a5_7) := hS_; refine norm_ (a' := ?_) ?_ ?_; rotate_left
                 ·
                  simp only [putAll, Act.put, setIfInBounds_toArray, set_cons_zero, set_cons_succ]; rfl
                 refine two_ (i := 20) (j := 23) (Ni := some 156) (Nj := some 159) (mk_ 23 72) (bm_ 72 15728639) rfl rfl rfl rfl (two_of HT_.out (by kernel_rfl)) (by decide) (by decide) (fun K hK => ?_) (fun K hK => ?_)
                 ·
                  skip
                  have hcv93 := own_string (P := Try.prog) Try.underlying27 Try.underlying5 Try.underlying9 (Kd.own_of_R HO252.out); refine value_ (w1 := ?_) (v := ?_) (by rfl) rfl ?_ ?_; rotate_left 2
                  ·
                   go_simp
                   constructor
                   ·
                    rfl
                   ·
                    rfl
                  clear hcv93; refine hK.out _ _ ⟨(blk_cell BK208.out 0).trans rfl, (blk_cell BK208.out 1).trans rfl, (blk_cell BK208.out 2).trans rfl, (blk_cell BK208.out 3).trans rfl, (blk_cell BK208.out 4).trans rfl, (blk_cell BK208.out 5).trans rfl, (blk_cell BK208.out 6).trans rfl, (blk_cell BK208.out 7).trans rfl⟩ (fun hHeld => ?_); clear hK K; refine norm_ (a' := ?_) ?_ ?_; rotate_left
                  ·
                   show Act.put _ (some 156) _ = _
                   simp only [Act.put, setIfInBounds_toArray, set_cons_zero, set_cons_succ, i64_w, i32_w]; rfl
                  exact norm_ (by first | (simp only [putAll, Act.put, setIfInBounds_toArray, set_cons_zero, set_cons_succ]; done) | (simp only [putAll, Act.put, setIfInBounds_toArray, set_cons_zero, set_cons_succ]; rfl)) (hJ9_12_13_19_20 (v248, v251) _ ⟨hHeld, (kV_ HO246.out), (kR_ HO249.out), (kR_ HO252.out), (kR_ HO_16.out), (kR_ HO_18.out), (kN_ HO_98.out), (bk_ BK208.out), (hb1_ HB.out GE208.out)⟩)
                 ·
                  skip
                  refine goes_ Try.func58 (by kernel_rfl) rfl #[.slice A0 l0.length c0, .slice A1 l1.length c1] (by rfl) rfl rfl lm_ ?_; with_reducible refine (ref15_And.calls k3 _ _ l0 _ _ l1 t253 _ ?side1 ?side2 ?side3 ?side4 A65.out).mono ?_
                  (case side1 => exact kD_ (Kd.C_below HR0.out HB.out))
                  (case side2 => exact HC0.out)
                  (case side3 => exact kD_ (Kd.C_below HR1.out HB.out))
                  (case side4 => exact HC1.out)
                  rintro e w93 ⟨v254, rfl, ho0, hb⟩; refine ⟨_, rfl, ?_⟩; have n0_ := Aside0.mk (Kd.R_below (kR_ HO_16.out) hb); have n1_ := Aside0.mk (Kd.R_below (kR_ HO_18.out) hb); have n2_ := Aside0.mk (Kd.N_elder' (kN_ HO_98.out) (Kd.R_base ho0) hb); have n3_ := Aside0.mk (Kd.V_elder' (kV_ HO246.out) (Kd.R_base ho0) hb); have n4_ := Aside0.mk (Kd.R_elder' (kR_ HO249.out) (Kd.R_base ho0) hb); have n5_ := Aside0.mk (Kd.R_elder' (kR_ HO252.out) (Kd.R_base ho0) hb); have n6_ := Aside0.mk (Kd.R_lower (Kd.R_new' (Kd.R_new' (Kd.R_newM (M := fun k_ => (w.heap.size ≤ k_)) ho0 (below_size (hb1_ HB.out GE208.out)) (fun k_ h_ => h_)) (Kd.R_lt (kR_ HO249.out))) (Kd.R_lt (kR_ HO252.out))) (below_size (hb1_ HB.out GE208.out))); have n7_ := Aside0.mk (bb_ BK208.out hb); have n8_ := Aside0.mk (below_step (hb1_ HB.out GE208.out) hb); clear HO_16; clear HO_18; clear HO_98; clear HO246; clear HO249; clear HO252; clear BK208; clear HB; revert n0_ n1_ n2_ n3_ n4_ n5_ n6_ n7_ n8_; intro HO_16 HO_18 HO_98 HO246 HO249 HO252 HO255 BK208 HB; (try clear hb)
                  (try clear hb2)
                  (try clear hk)
                  (try clear hi)
                  (try clear ho0)
                  refine hK.out _ _ ⟨(blk_cell BK208.out 0).trans rfl, (blk_cell BK208.out 1).trans rfl, (blk_cell BK208.out 2).trans rfl, (blk_cell BK208.out 3).trans rfl, (blk_cell BK208.out 4).trans rfl, (blk_cell BK208.out 5).trans rfl, (blk_cell BK208.out 6).trans rfl, (blk_cell BK208.out 7).trans rfl⟩ (fun hHeld => ?_); clear hK K; refine norm_ (a' := ?_) ?_ ?_; rotate_left
                  ·
                   show Act.put _ (some 159) _ = _
                   simp only [Act.put, setIfInBounds_toArray, set_cons_zero, set_cons_succ, i64_w, i32_w]; rfl
                  exact norm_ (by first | (simp only [putAll, Act.put, setIfInBounds_toArray, set_cons_zero, set_cons_succ]; done) | (simp only [putAll, Act.put, setIfInBounds_toArray, set_cons_zero, set_cons_succ]; rfl)) (hJ9_12_13_19_23 (v248, v251, v254) _ ⟨hHeld, (by (with_reducible repeat (first | apply Kd.V_alloc | apply Kd.V_drewN | apply Kd.V_drew)); exact Kd.V_mono HO246.out (fun _ hk => ⟨hk.1.1, ⟨hk.1.2.1, ⟨hk.1.2.2.1, ⟨hk.2, ⟨hk.1.2.2.2.1, ⟨hk.1.2.2.2.2.1, ⟨hk.1.2.2.2.2.2.1, hk.1.2.2.2.2.2.2⟩⟩⟩⟩⟩⟩⟩)), (by (with_reducible repeat (first | apply Kd.R_alloc | apply Kd.R_drewN | apply Kd.R_drew)); exact Kd.R_mono HO249.out (fun _ hk => ⟨hk.1.1, ⟨hk.1.2, hk.2⟩⟩)), (by (with_reducible repeat (first | apply Kd.R_alloc | apply Kd.R_drewN | apply Kd.R_drew)); exact Kd.R_mono HO252.out (fun _ hk => ⟨hk.1.1, ⟨hk.1.2, hk.2⟩⟩)), (by (with_reducible repeat (first | apply Kd.R_alloc | apply Kd.R_drewN | apply Kd.R_drew)); exact Kd.R_mono HO255.out (fun _ hk => ⟨hk.1.1.1, ⟨hk.1.2, hk.2⟩⟩)), (kR_ HO_16.out), (kR_ HO_18.out), (by (with_reducible repeat (first | apply Kd.N_alloc | apply Kd.N_drewN | apply Kd.N_drew)); exact Kd.N_mono HO_98.out (fun _ hk => ⟨hk.1.1, ⟨hk.1.2.1, ⟨hk.1.2.2.1, ⟨hk.2, ⟨hk.1.2.2.2.1, ⟨hk.1.2.2.2.2.1, hk.1.2.2.2.2.2⟩⟩⟩⟩⟩⟩)), (bk_ BK208.out), (hb1_ HB.out GE208.out)⟩)
               ·
                skip
                rintro ⟨v248, v251, v254⟩ w93 ⟨hS_, h0_, h1_, h2_, h3_, h4_, h5_, h6_, h7_, h8_⟩; have n0_ : Aside0 (Kd.V (Kd.int .u8) 5 w93 w.heap.size (fun k_ => (P2_ k_ ∨ w.heap.size ≤ k_) ∧ some k_ ≠ (v248 : Value).ownBlock ∧ some k_ ≠ (v251 : Value).ownBlock ∧ some k_ ≠ (v254 : Value).ownBlock ∧ some k_ ≠ (.slice Ao82 t216.length co82 : Value).ownBlock ∧ some k_ ≠ (.slice Ao83 t220.length co83 : Value).ownBlock ∧ some k_ ≠ (.slice Ao34 y224.length co34 : Value).ownBlock ∧ k_ ≠ gb208) v245 t244) := ⟨h0_⟩; have n1_ : Aside0 (Kd.R (Kd.int .u8) 5 w93 w.heap.size (fun k_ => (w.heap.size ≤ k_) ∧ some k_ ≠ (v251 : Value).ownBlock ∧ some k_ ≠ (v254 : Value).ownBlock) v248 t247) := ⟨h1_⟩; have n2_ : Aside0 (Kd.R (Kd.int .u8) 5 w93 w.heap.size (fun k_ => (w.heap.size ≤ k_) ∧ some k_ ≠ (v248 : Value).ownBlock ∧ some k_ ≠ (v254 : Value).ownBlock) v251 t250) := ⟨h2_⟩; have n3_ : Aside0 (Kd.R (Kd.int .u8) 5 w93 w.heap.size (fun k_ => (w.heap.size ≤ k_) ∧ some k_ ≠ (v248 : Value).ownBlock ∧ some k_ ≠ (v251 : Value).ownBlock) v254 t253) := ⟨h3_⟩; have n4_ : Aside0 (Kd.R (Kd.int .i64) 3 w93 w.heap.size (fun k_ => (w.heap.size ≤ k_) ∧ some k_ ≠ (.slice Ao83 t220.length co83 : Value).ownBlock) (.slice Ao82 t216.length co82) t216) := ⟨h4_⟩; have n5_ : Aside0 (Kd.R (Kd.int .i64) 3 w93 w.heap.size (fun k_ => (w.heap.size ≤ k_) ∧ some k_ ≠ (.slice Ao82 t216.length co82 : Value).ownBlock) (.slice Ao83 t220.length co83) t220) := ⟨h5_⟩; have n6_ : Aside0 (Kd.N (Kd.slice 3 (Kd.int .i64)) 23 w93 w.heap.size (fun k_ => (P2_ k_ ∨ w.heap.size ≤ k_) ∧ some k_ ≠ (v248 : Value).ownBlock ∧ some k_ ≠ (v251 : Value).ownBlock ∧ some k_ ≠ (v254 : Value).ownBlock ∧ some k_ ≠ (.slice Ao82 t216.length co82 : Value).ownBlock ∧ some k_ ≠ (.slice Ao83 t220.length co83 : Value).ownBlock ∧ k_ ≠ gb208) (.slice Ao34 y224.length co34) y224) := ⟨h6_⟩; have n7_ : Aside0 (w93.heap[gb208]? = some (.cells #[.int .i64 a5_0, .int .i64 a5_1, .slice A5_2 l5_2.length c5_2, .slice A5_3 l5_3.length c5_3, .slice A5_4 l5_4.length c5_4, .slice A5_5 l5_5.length c5_5, .slice A5_6 l5_6.length c5_6, .bool a5_7] 31 (0, 0))) := ⟨h7_⟩; have n8_ : Aside0 (Below w.heap.size w w93) := ⟨h8_⟩; clear HO_16; clear HO_18; clear HO_98; clear BK208; clear HB; clear h0_ h1_ h2_ h3_ h4_ h5_ h6_ h7_ h8_; revert n0_ n1_ n2_ n3_ n4_ n5_ n6_ n7_ n8_; intro HO246 HO249 HO252 HO255 HO_16 HO_18 HO_98 BK208 HB; have hHeld : w93.cell? ⟨gb208, 0, none⟩ = some (.int .i64 a5_0) ∧ w93.cell? ⟨gb208, 1, none⟩ = some (.int .i64 a5_1) ∧ w93.cell? ⟨gb208, 2, none⟩ = some (.slice A5_2 l5_2.length c5_2) ∧ w93.cell? ⟨gb208, 3, none⟩ = some (.slice A5_3 l5_3.length c5_3) ∧ w93.cell? ⟨gb208, 4, none⟩ = some (.slice A5_4 l5_4.length c5_4) ∧ w93.cell? ⟨gb208, 5, none⟩ = some (.slice A5_5 l5_5.length c5_5) ∧ w93.cell? ⟨gb208, 6, none⟩ = some (.slice A5_6 l5_6.length c5_6) ∧ w93.cell? ⟨gb208, 7, none⟩ = some (.bool a5_7) := hS_; refine norm_ (a' := ?_) ?_ ?_; rotate_left
                ·
                 simp only [putAll, Act.put, setIfInBounds_toArray, set_cons_zero, set_cons_succ]; rfl
                refine two_ (i := 20) (j := 24) (Ni := some 156) (Nj := some 160) (mk_ 24 72) (bm_ 72 32505855) rfl rfl rfl rfl (two_of HT_.out (by kernel_rfl)) (by decide) (by decide) (fun K hK => ?_) (fun K hK => ?_)
                ·
                 skip
                 have hcv94 := own_string (P := Try.prog) Try.underlying27 Try.underlying5 Try.underlying9 (Kd.own_of_R HO252.out); refine value_ (w1 := ?_) (v := ?_) (by rfl) rfl ?_ ?_; rotate_left 2
                 ·
                  go_simp
                  constructor
                  ·
                   rfl
                  ·
                   rfl
                 clear hcv94; refine hK.out _ _ ⟨(blk_cell BK208.out 0).trans rfl, (blk_cell BK208.out 1).trans rfl, (blk_cell BK208.out 2).trans rfl, (blk_cell BK208.out 3).trans rfl, (blk_cell BK208.out 4).trans rfl, (blk_cell BK208.out 5).trans rfl, (blk_cell BK208.out 6).trans rfl, (blk_cell BK208.out 7).trans rfl⟩ (fun hHeld => ?_); clear hK K; refine norm_ (a' := ?_) ?_ ?_; rotate_left
                 ·
                  show Act.put _ (some 156) _ = _
                  simp only [Act.put, setIfInBounds_toArray, set_cons_zero, set_cons_succ, i64_w, i32_w]; rfl
                 exact norm_ (by first | (simp only [putAll, Act.put, setIfInBounds_toArray, set_cons_zero, set_cons_succ]; done) | (simp only [putAll, Act.put, setIfInBounds_toArray, set_cons_zero, set_cons_succ]; rfl)) (hJ9_12_13_19_20_23 (v248, v251, v254) _ ⟨hHeld, (kV_ HO246.out), (kR_ HO249.out), (kR_ HO252.out), (kR_ HO255.out), (kR_ HO_16.out), (kR_ HO_18.out), (kN_ HO_98.out), (bk_ BK208.out), (hb1_ HB.out GE208.out)⟩)
                ·
                 skip
                 have hcv94 := own_string (P := Try.prog) Try.underlying27 Try.underlying5 Try.underlying9 (Kd.own_of_R HO255.out); refine value_ (w1 := ?_) (v := ?_) (by rfl) rfl ?_ ?_; rotate_left 2
                 ·
                  go_simp
                  constructor
                  ·
                   rfl
                  ·
                   rfl
                 clear hcv94; refine hK.out _ _ ⟨(blk_cell BK208.out 0).trans rfl, (blk_cell BK208.out 1).trans rfl, (blk_cell BK208.out 2).trans rfl, (blk_cell BK208.out 3).trans rfl, (blk_cell BK208.out 4).trans rfl, (blk_cell BK208.out 5).trans rfl, (blk_cell BK208.out 6).trans rfl, (blk_cell BK208.out 7).trans rfl⟩ (fun hHeld => ?_); clear hK K; refine norm_ (a' := ?_) ?_ ?_; rotate_left
                 ·
                  show Act.put _ (some 160) _ = _
                  simp only [Act.put, setIfInBounds_toArray, set_cons_zero, set_cons_succ, i64_w, i32_w]; rfl
                 exact norm_ (by first | (simp only [putAll, Act.put, setIfInBounds_toArray, set_cons_zero, set_cons_succ]; done) | (simp only [putAll, Act.put, setIfInBounds_toArray, set_cons_zero, set_cons_succ]; rfl)) (hJ9_12_13_19_23_24 (v248, v251, v254) _ ⟨hHeld, (kV_ HO246.out), (kR_ HO249.out), (kR_ HO252.out), (kR_ HO255.out), (kR_ HO_16.out), (kR_ HO_18.out), (kN_ HO_98.out), (bk_ BK208.out), (hb1_ HB.out GE208.out)⟩)
              ·
               skip
               rintro ⟨v248, v251⟩ w93 ⟨hS_, h0_, h1_, h2_, h3_, h4_, h5_, h6_, h7_⟩; have n0_ : Aside0 (Kd.V (Kd.int .u8) 5 w93 w.heap.size (fun k_ => (P2_ k_ ∨ w.heap.size ≤ k_) ∧ some k_ ≠ (v248 : Value).ownBlock ∧ some k_ ≠ (v251 : Value).ownBlock ∧ some k_ ≠ (.slice Ao82 t216.length co82 : Value).ownBlock ∧ some k_ ≠ (.slice Ao83 t220.length co83 : Value).ownBlock ∧ some k_ ≠ (.slice Ao34 y224.length co34 : Value).ownBlock ∧ k_ ≠ gb208) v245 t244) := ⟨h0_⟩; have n1_ : Aside0 (Kd.R (Kd.int .u8) 5 w93 w.heap.size (fun k_ => (w.heap.size ≤ k_) ∧ some k_ ≠ (v251 : Value).ownBlock) v248 t247) := ⟨h1_⟩; have n2_ : Aside0 (Kd.R (Kd.int .u8) 5 w93 w.heap.size (fun k_ => (w.heap.size ≤ k_) ∧ some k_ ≠ (v248 : Value).ownBlock) v251 t250) := ⟨h2_⟩; have n3_ : Aside0 (Kd.R (Kd.int .i64) 3 w93 w.heap.size (fun k_ => (w.heap.size ≤ k_) ∧ some k_ ≠ (.slice Ao83 t220.length co83 : Value).ownBlock) (.slice Ao82 t216.length co82) t216) := ⟨h3_⟩; have n4_ : Aside0 (Kd.R (Kd.int .i64) 3 w93 w.heap.size (fun k_ => (w.heap.size ≤ k_) ∧ some k_ ≠ (.slice Ao82 t216.length co82 : Value).ownBlock) (.slice Ao83 t220.length co83) t220) := ⟨h4_⟩; have n5_ : Aside0 (Kd.N (Kd.slice 3 (Kd.int .i64)) 23 w93 w.heap.size (fun k_ => (P2_ k_ ∨ w.heap.size ≤ k_) ∧ some k_ ≠ (v248 : Value).ownBlock ∧ some k_ ≠ (v251 : Value).ownBlock ∧ some k_ ≠ (.slice Ao82 t216.length co82 : Value).ownBlock ∧ some k_ ≠ (.slice Ao83 t220.length co83 : Value).ownBlock ∧ k_ ≠ gb208) (.slice Ao34 y224.length co34) y224) := ⟨h5_⟩; have n6_ : Aside0 (w93.heap[gb208]? = some (.cells #[.int .i64 a5_0, .int .i64 a5_1, .slice A5_2 l5_2.length c5_2, .slice A5_3 l5_3.length c5_3, .slice A5_4 l5_4.length c5_4, .slice A5_5 l5_5.length c5_5, .slice A5_6 l5_6.length c5_6, .bool a5_7] 31 (0, 0))) := ⟨h6_⟩; have n7_ : Aside0 (Below w.heap.size w w93) := ⟨h7_⟩; clear HO_16; clear HO_18; clear HO_98; clear BK208; clear HB; clear h0_ h1_ h2_ h3_ h4_ h5_ h6_ h7_; revert n0_ n1_ n2_ n3_ n4_ n5_ n6_ n7_; intro HO246 HO249 HO252 HO_16 HO_18 HO_98 BK208 HB; have hHeld : w93.cell? ⟨gb208, 0, none⟩ = some (.int .i64 a5_0) ∧ w93.cell? ⟨gb208, 1, none⟩ = some (.int .i64 a5_1) ∧ w93.cell? ⟨gb208, 2, none⟩ = some (.slice A5_2 l5_2.length c5_2) ∧ w93.cell? ⟨gb208, 3, none⟩ = some (.slice A5_3 l5_3.length c5_3) ∧ w93.cell? ⟨gb208, 4, none⟩ = some (.slice A5_4 l5_4.length c5_4) ∧ w93.cell? ⟨gb208, 5, none⟩ = some (.slice A5_5 l5_5.length c5_5) ∧ w93.cell? ⟨gb208, 6, none⟩ = some (.slice A5_6 l5_6.length c5_6) ∧ w93.cell? ⟨gb208, 7, none⟩ = some (.bool a5_7) := hS_; refine norm_ (a' := ?_) ?_ ?_; rotate_left
               ·
                simp only [putAll, Act.put, setIfInBounds_toArray, set_cons_zero, set_cons_succ]; rfl
               refine one_ (i := 23) (N := some 159) (mk_ 24 72) rfl rfl (one_of HT_.out (by kernel_rfl)) (by decide) (fun K hK => ?_); refine goes_ Try.func58 (by kernel_rfl) rfl #[.slice A0 l0.length c0, .slice A1 l1.length c1] (by rfl) rfl rfl lm_ ?_; with_reducible refine (ref15_And.calls k3 _ _ l0 _ _ l1 t253 _ ?side1 ?side2 ?side3 ?side4 A65.out).mono ?_
               (case side1 => exact kD_ (Kd.C_below HR0.out HB.out))
               (case side2 => exact HC0.out)
               (case side3 => exact kD_ (Kd.C_below HR1.out HB.out))
               (case side4 => exact HC1.out)
               rintro e w94 ⟨v254, rfl, ho0, hb⟩; refine ⟨_, rfl, ?_⟩; have n0_ := Aside0.mk (Kd.R_below (kR_ HO_16.out) hb); have n1_ := Aside0.mk (Kd.R_below (kR_ HO_18.out) hb); have n2_ := Aside0.mk (Kd.N_elder' (kN_ HO_98.out) (Kd.R_base ho0) hb); have n3_ := Aside0.mk (Kd.V_elder' (kV_ HO246.out) (Kd.R_base ho0) hb); have n4_ := Aside0.mk (Kd.R_elder' (kR_ HO249.out) (Kd.R_base ho0) hb); have n5_ := Aside0.mk (Kd.R_elder' (kR_ HO252.out) (Kd.R_base ho0) hb); have n6_ := Aside0.mk (Kd.R_lower (Kd.R_new' (Kd.R_new' (Kd.R_newM (M := fun k_ => (w.heap.size ≤ k_)) ho0 (below_size (hb1_ HB.out GE208.out)) (fun k_ h_ => h_)) (Kd.R_lt (kR_ HO249.out))) (Kd.R_lt (kR_ HO252.out))) (below_size (hb1_ HB.out GE208.out))); have n7_ := Aside0.mk (bb_ BK208.out hb); have n8_ := Aside0.mk (below_step (hb1_ HB.out GE208.out) hb); clear HO_16; clear HO_18; clear HO_98; clear HO246; clear HO249; clear HO252; clear BK208; clear HB; revert n0_ n1_ n2_ n3_ n4_ n5_ n6_ n7_ n8_; intro HO_16 HO_18 HO_98 HO246 HO249 HO252 HO255 BK208 HB; (try clear hb)
               (try clear hb2)
               (try clear hk)
               (try clear hi)
               (try clear ho0)
               refine hK.out _ _ ⟨(blk_cell BK208.out 0).trans rfl, (blk_cell BK208.out 1).trans rfl, (blk_cell BK208.out 2).trans rfl, (blk_cell BK208.out 3).trans rfl, (blk_cell BK208.out 4).trans rfl, (blk_cell BK208.out 5).trans rfl, (blk_cell BK208.out 6).trans rfl, (blk_cell BK208.out 7).trans rfl⟩ (fun hHeld => ?_); clear hK K; refine norm_ (a' := ?_) ?_ ?_; rotate_left
               ·
                show Act.put _ (some 159) _ = _
                simp only [Act.put, setIfInBounds_toArray, set_cons_zero, set_cons_succ, i64_w, i32_w]; rfl
               exact norm_ (by first | (simp only [putAll, Act.put, setIfInBounds_toArray, set_cons_zero, set_cons_succ]; done) | (simp only [putAll, Act.put, setIfInBounds_toArray, set_cons_zero, set_cons_succ]; rfl)) (hJ9_12_13_19_20_23 (v248, v251, v254) _ ⟨hHeld, (by (with_reducible repeat (first | apply Kd.V_alloc | apply Kd.V_drewN | apply Kd.V_drew)); exact Kd.V_mono HO246.out (fun _ hk => ⟨hk.1.1, ⟨hk.1.2.1, ⟨hk.1.2.2.1, ⟨hk.2, ⟨hk.1.2.2.2.1, ⟨hk.1.2.2.2.2.1, ⟨hk.1.2.2.2.2.2.1, hk.1.2.2.2.2.2.2⟩⟩⟩⟩⟩⟩⟩)), (by (with_reducible repeat (first | apply Kd.R_alloc | apply Kd.R_drewN | apply Kd.R_drew)); exact Kd.R_mono HO249.out (fun _ hk => ⟨hk.1.1, ⟨hk.1.2, hk.2⟩⟩)), (by (with_reducible repeat (first | apply Kd.R_alloc | apply Kd.R_drewN | apply Kd.R_drew)); exact Kd.R_mono HO252.out (fun _ hk => ⟨hk.1.1, ⟨hk.1.2, hk.2⟩⟩)), (by (with_reducible repeat (first | apply Kd.R_alloc | apply Kd.R_drewN | apply Kd.R_drew)); exact Kd.R_mono HO255.out (fun _ hk => ⟨hk.1.1.1, ⟨hk.1.2, hk.2⟩⟩)), (kR_ HO_16.out), (kR_ HO_18.out), (by (with_reducible repeat (first | apply Kd.N_alloc | apply Kd.N_drewN | apply Kd.N_drew)); exact Kd.N_mono HO_98.out (fun _ hk => ⟨hk.1.1, ⟨hk.1.2.1, ⟨hk.1.2.2.1, ⟨hk.2, ⟨hk.1.2.2.2.1, ⟨hk.1.2.2.2.2.1, hk.1.2.2.2.2.2⟩⟩⟩⟩⟩⟩)), (bk_ BK208.out), (hb1_ HB.out GE208.out)⟩)
             ·
              skip
              rintro ⟨v248, v251, v254⟩ w94 ⟨hS_, h0_, h1_, h2_, h3_, h4_, h5_, h6_, h7_, h8_⟩; have n0_ : Aside0 (Kd.V (Kd.int .u8) 5 w94 w.heap.size (fun k_ => (P2_ k_ ∨ w.heap.size ≤ k_) ∧ some k_ ≠ (v248 : Value).ownBlock ∧ some k_ ≠ (v251 : Value).ownBlock ∧ some k_ ≠ (v254 : Value).ownBlock ∧ some k_ ≠ (.slice Ao82 t216.length co82 : Value).ownBlock ∧ some k_ ≠ (.slice Ao83 t220.length co83 : Value).ownBlock ∧ some k_ ≠ (.slice Ao34 y224.length co34 : Value).ownBlock ∧ k_ ≠ gb208) v245 t244) := ⟨h0_⟩; have n1_ : Aside0 (Kd.R (Kd.int .u8) 5 w94 w.heap.size (fun k_ => (w.heap.size ≤ k_) ∧ some k_ ≠ (v251 : Value).ownBlock ∧ some k_ ≠ (v254 : Value).ownBlock) v248 t247) := ⟨h1_⟩; have n2_ : Aside0 (Kd.R (Kd.int .u8) 5 w94 w.heap.size (fun k_ => (w.heap.size ≤ k_) ∧ some k_ ≠ (v248 : Value).ownBlock ∧ some k_ ≠ (v254 : Value).ownBlock) v251 t250) := ⟨h2_⟩; have n3_ : Aside0 (Kd.R (Kd.int .u8) 5 w94 w.heap.size (fun k_ => (w.heap.size ≤ k_) ∧ some k_ ≠ (v248 : Value).ownBlock ∧ some k_ ≠ (v251 : Value).ownBlock) v254 t253) := ⟨h3_⟩; have n4_ : Aside0 (Kd.R (Kd.int .i64) 3 w94 w.heap.size (fun k_ => (w.heap.size ≤ k_) ∧ some k_ ≠ (.slice Ao83 t220.length co83 : Value).ownBlock) (.slice Ao82 t216.length co82) t216) := ⟨h4_⟩; have n5_ : Aside0 (Kd.R (Kd.int .i64) 3 w94 w.heap.size (fun k_ => (w.heap.size ≤ k_) ∧ some k_ ≠ (.slice Ao82 t216.length co82 : Value).ownBlock) (.slice Ao83 t220.length co83) t220) := ⟨h5_⟩; have n6_ : Aside0 (Kd.N (Kd.slice 3 (Kd.int .i64)) 23 w94 w.heap.size (fun k_ => (P2_ k_ ∨ w.heap.size ≤ k_) ∧ some k_ ≠ (v248 : Value).ownBlock ∧ some k_ ≠ (v251 : Value).ownBlock ∧ some k_ ≠ (v254 : Value).ownBlock ∧ some k_ ≠ (.slice Ao82 t216.length co82 : Value).ownBlock ∧ some k_ ≠ (.slice Ao83 t220.length co83 : Value).ownBlock ∧ k_ ≠ gb208) (.slice Ao34 y224.length co34) y224) := ⟨h6_⟩; have n7_ : Aside0 (w94.heap[gb208]? = some (.cells #[.int .i64 a5_0, .int .i64 a5_1, .slice A5_2 l5_2.length c5_2, .slice A5_3 l5_3.length c5_3, .slice A5_4 l5_4.length c5_4, .slice A5_5 l5_5.length c5_5, .slice A5_6 l5_6.length c5_6, .bool a5_7] 31 (0, 0))) := ⟨h7_⟩; have n8_ : Aside0 (Below w.heap.size w w94) := ⟨h8_⟩; clear HO_16; clear HO_18; clear HO_98; clear BK208; clear HB; clear h0_ h1_ h2_ h3_ h4_ h5_ h6_ h7_ h8_; revert n0_ n1_ n2_ n3_ n4_ n5_ n6_ n7_ n8_; intro HO246 HO249 HO252 HO255 HO_16 HO_18 HO_98 BK208 HB; have hHeld : w94.cell? ⟨gb208, 0, none⟩ = some (.int .i64 a5_0) ∧ w94.cell? ⟨gb208, 1, none⟩ = some (.int .i64 a5_1) ∧ w94.cell? ⟨gb208, 2, none⟩ = some (.slice A5_2 l5_2.length c5_2) ∧ w94.cell? ⟨gb208, 3, none⟩ = some (.slice A5_3 l5_3.length c5_3) ∧ w94.cell? ⟨gb208, 4, none⟩ = some (.slice A5_4 l5_4.length c5_4) ∧ w94.cell? ⟨gb208, 5, none⟩ = some (.slice A5_5 l5_5.length c5_5) ∧ w94.cell? ⟨gb208, 6, none⟩ = some (.slice A5_6 l5_6.length c5_6) ∧ w94.cell? ⟨gb208, 7, none⟩ = some (.bool a5_7) := hS_; refine norm_ (a' := ?_) ?_ ?_; rotate_left
              ·
               simp only [putAll, Act.put, setIfInBounds_toArray, set_cons_zero, set_cons_succ]; rfl
              refine one_ (i := 20) (N := some 156) (mk_ 25 72) rfl rfl (one_of HT_.out (by kernel_rfl)) (by decide) (fun K hK => ?_); have hcv95 := own_string (P := Try.prog) Try.underlying27 Try.underlying5 Try.underlying9 (Kd.own_of_R HO252.out); refine value_ (w1 := ?_) (v := ?_) (by rfl) rfl ?_ ?_; rotate_left 2
              ·
               go_simp
               constructor
               ·
                rfl
               ·
                rfl
              clear hcv95; refine hK.out _ _ ⟨(blk_cell BK208.out 0).trans rfl, (blk_cell BK208.out 1).trans rfl, (blk_cell BK208.out 2).trans rfl, (blk_cell BK208.out 3).trans rfl, (blk_cell BK208.out 4).trans rfl, (blk_cell BK208.out 5).trans rfl, (blk_cell BK208.out 6).trans rfl, (blk_cell BK208.out 7).trans rfl⟩ (fun hHeld => ?_); clear hK K; refine norm_ (a' := ?_) ?_ ?_; rotate_left
              ·
               show Act.put _ (some 156) _ = _
               simp only [Act.put, setIfInBounds_toArray, set_cons_zero, set_cons_succ, i64_w, i32_w]; rfl
              exact norm_ (by first | (simp only [putAll, Act.put, setIfInBounds_toArray, set_cons_zero, set_cons_succ]; done) | (simp only [putAll, Act.put, setIfInBounds_toArray, set_cons_zero, set_cons_succ]; rfl)) (hJ9_12_13_19_20_23_24 (v248, v251, v254) _ ⟨hHeld, (kV_ HO246.out), (kR_ HO249.out), (kR_ HO252.out), (kR_ HO255.out), (kR_ HO_16.out), (kR_ HO_18.out), (kN_ HO_98.out), (bk_ BK208.out), (hb1_ HB.out GE208.out)⟩)
            ·
             skip
             rintro ⟨v248, v251, v254⟩ w94 ⟨hS_, h0_, h1_, h2_, h3_, h4_, h5_, h6_, h7_, h8_⟩; have n0_ : Aside0 (Kd.V (Kd.int .u8) 5 w94 w.heap.size (fun k_ => (P2_ k_ ∨ w.heap.size ≤ k_) ∧ some k_ ≠ (v248 : Value).ownBlock ∧ some k_ ≠ (v251 : Value).ownBlock ∧ some k_ ≠ (v254 : Value).ownBlock ∧ some k_ ≠ (.slice Ao82 t216.length co82 : Value).ownBlock ∧ some k_ ≠ (.slice Ao83 t220.length co83 : Value).ownBlock ∧ some k_ ≠ (.slice Ao34 y224.length co34 : Value).ownBlock ∧ k_ ≠ gb208) v245 t244) := ⟨h0_⟩; have n1_ : Aside0 (Kd.R (Kd.int .u8) 5 w94 w.heap.size (fun k_ => (w.heap.size ≤ k_) ∧ some k_ ≠ (v251 : Value).ownBlock ∧ some k_ ≠ (v254 : Value).ownBlock) v248 t247) := ⟨h1_⟩; have n2_ : Aside0 (Kd.R (Kd.int .u8) 5 w94 w.heap.size (fun k_ => (w.heap.size ≤ k_) ∧ some k_ ≠ (v248 : Value).ownBlock ∧ some k_ ≠ (v254 : Value).ownBlock) v251 t250) := ⟨h2_⟩; have n3_ : Aside0 (Kd.R (Kd.int .u8) 5 w94 w.heap.size (fun k_ => (w.heap.size ≤ k_) ∧ some k_ ≠ (v248 : Value).ownBlock ∧ some k_ ≠ (v251 : Value).ownBlock) v254 t253) := ⟨h3_⟩; have n4_ : Aside0 (Kd.R (Kd.int .i64) 3 w94 w.heap.size (fun k_ => (w.heap.size ≤ k_) ∧ some k_ ≠ (.slice Ao83 t220.length co83 : Value).ownBlock) (.slice Ao82 t216.length co82) t216) := ⟨h4_⟩; have n5_ : Aside0 (Kd.R (Kd.int .i64) 3 w94 w.heap.size (fun k_ => (w.heap.size ≤ k_) ∧ some k_ ≠ (.slice Ao82 t216.length co82 : Value).ownBlock) (.slice Ao83 t220.length co83) t220) := ⟨h5_⟩; have n6_ : Aside0 (Kd.N (Kd.slice 3 (Kd.int .i64)) 23 w94 w.heap.size (fun k_ => (P2_ k_ ∨ w.heap.size ≤ k_) ∧ some k_ ≠ (v248 : Value).ownBlock ∧ some k_ ≠ (v251 : Value).ownBlock ∧ some k_ ≠ (v254 : Value).ownBlock ∧ some k_ ≠ (.slice Ao82 t216.length co82 : Value).ownBlock ∧ some k_ ≠ (.slice Ao83 t220.length co83 : Value).ownBlock ∧ k_ ≠ gb208) (.slice Ao34 y224.length co34) y224) := ⟨h6_⟩; have n7_ : Aside0 (w94.heap[gb208]? = some (.cells #[.int .i64 a5_0, .int .i64 a5_1, .slice A5_2 l5_2.length c5_2, .slice A5_3 l5_3.length c5_3, .slice A5_4 l5_4.length c5_4, .slice A5_5 l5_5.length c5_5, .slice A5_6 l5_6.length c5_6, .bool a5_7] 31 (0, 0))) := ⟨h7_⟩; have n8_ : Aside0 (Below w.heap.size w w94) := ⟨h8_⟩; clear HO_16; clear HO_18; clear HO_98; clear BK208; clear HB; clear h0_ h1_ h2_ h3_ h4_ h5_ h6_ h7_ h8_; revert n0_ n1_ n2_ n3_ n4_ n5_ n6_ n7_ n8_; intro HO246 HO249 HO252 HO255 HO_16 HO_18 HO_98 BK208 HB; have hHeld : w94.cell? ⟨gb208, 0, none⟩ = some (.int .i64 a5_0) ∧ w94.cell? ⟨gb208, 1, none⟩ = some (.int .i64 a5_1) ∧ w94.cell? ⟨gb208, 2, none⟩ = some (.slice A5_2 l5_2.length c5_2) ∧ w94.cell? ⟨gb208, 3, none⟩ = some (.slice A5_3 l5_3.length c5_3) ∧ w94.cell? ⟨gb208, 4, none⟩ = some (.slice A5_4 l5_4.length c5_4) ∧ w94.cell? ⟨gb208, 5, none⟩ = some (.slice A5_5 l5_5.length c5_5) ∧ w94.cell? ⟨gb208, 6, none⟩ = some (.slice A5_6 l5_6.length c5_6) ∧ w94.cell? ⟨gb208, 7, none⟩ = some (.bool a5_7) := hS_; refine norm_ (a' := ?_) ?_ ?_; rotate_left
             ·
              simp only [putAll, Act.put, setIfInBounds_toArray, set_cons_zero, set_cons_succ]; rfl
             refine one_ (i := 24) (N := some 160) (mk_ 25 72) rfl rfl (one_of HT_.out (by kernel_rfl)) (by decide) (fun K hK => ?_); have hcv95 := own_string (P := Try.prog) Try.underlying27 Try.underlying5 Try.underlying9 (Kd.own_of_R HO255.out); refine value_ (w1 := ?_) (v := ?_) (by rfl) rfl ?_ ?_; rotate_left 2
             ·
              go_simp
              constructor
              ·
               rfl
              ·
               rfl
             clear hcv95; refine hK.out _ _ ⟨(blk_cell BK208.out 0).trans rfl, (blk_cell BK208.out 1).trans rfl, (blk_cell BK208.out 2).trans rfl, (blk_cell BK208.out 3).trans rfl, (blk_cell BK208.out 4).trans rfl, (blk_cell BK208.out 5).trans rfl, (blk_cell BK208.out 6).trans rfl, (blk_cell BK208.out 7).trans rfl⟩ (fun hHeld => ?_); clear hK K; refine norm_ (a' := ?_) ?_ ?_; rotate_left
             ·
              show Act.put _ (some 160) _ = _
              simp only [Act.put, setIfInBounds_toArray, set_cons_zero, set_cons_succ, i64_w, i32_w]; rfl
             exact norm_ (by first | (simp only [putAll, Act.put, setIfInBounds_toArray, set_cons_zero, set_cons_succ]; done) | (simp only [putAll, Act.put, setIfInBounds_toArray, set_cons_zero, set_cons_succ]; rfl)) (hJ9_12_13_19_20_23_24 (v248, v251, v254) _ ⟨hHeld, (kV_ HO246.out), (kR_ HO249.out), (kR_ HO252.out), (kR_ HO255.out), (kR_ HO_16.out), (kR_ HO_18.out), (kN_ HO_98.out), (bk_ BK208.out), (hb1_ HB.out GE208.out)⟩)
           rintro ⟨v248, v251, v254⟩ w95 ⟨hS_, h0_, h1_, h2_, h3_, h4_, h5_, h6_, h7_, h8_⟩; have n0_ : Aside0 (Kd.V (Kd.int .u8) 5 w95 w.heap.size (fun k_ => (P2_ k_ ∨ w.heap.size ≤ k_) ∧ some k_ ≠ (v248 : Value).ownBlock ∧ some k_ ≠ (v251 : Value).ownBlock ∧ some k_ ≠ (v254 : Value).ownBlock ∧ some k_ ≠ (.slice Ao82 t216.length co82 : Value).ownBlock ∧ some k_ ≠ (.slice Ao83 t220.length co83 : Value).ownBlock ∧ some k_ ≠ (.slice Ao34 y224.length co34 : Value).ownBlock ∧ k_ ≠ gb208) v245 t244) := ⟨h0_⟩; have n1_ : Aside0 (Kd.R (Kd.int .u8) 5 w95 w.heap.size (fun k_ => (w.heap.size ≤ k_) ∧ some k_ ≠ (v251 : Value).ownBlock ∧ some k_ ≠ (v254 : Value).ownBlock) v248 t247) := ⟨h1_⟩; have n2_ : Aside0 (Kd.R (Kd.int .u8) 5 w95 w.heap.size (fun k_ => (w.heap.size ≤ k_) ∧ some k_ ≠ (v248 : Value).ownBlock ∧ some k_ ≠ (v254 : Value).ownBlock) v251 t250) := ⟨h2_⟩; have n3_ : Aside0 (Kd.R (Kd.int .u8) 5 w95 w.heap.size (fun k_ => (w.heap.size ≤ k_) ∧ some k_ ≠ (v248 : Value).ownBlock ∧ some k_ ≠ (v251 : Value).ownBlock) v254 t253) := ⟨h3_⟩; have n4_ : Aside0 (Kd.R (Kd.int .i64) 3 w95 w.heap.size (fun k_ => (w.heap.size ≤ k_) ∧ some k_ ≠ (.slice Ao83 t220.length co83 : Value).ownBlock) (.slice Ao82 t216.length co82) t216) := ⟨h4_⟩; have n5_ : Aside0 (Kd.R (Kd.int .i64) 3 w95 w.heap.size (fun k_ => (w.heap.size ≤ k_) ∧ some k_ ≠ (.slice Ao82 t216.length co82 : Value).ownBlock) (.slice Ao83 t220.length co83) t220) := ⟨h5_⟩; have n6_ : Aside0 (Kd.N (Kd.slice 3 (Kd.int .i64)) 23 w95 w.heap.size (fun k_ => (P2_ k_ ∨ w.heap.size ≤ k_) ∧ some k_ ≠ (v248 : Value).ownBlock ∧ some k_ ≠ (v251 : Value).ownBlock ∧ some k_ ≠ (v254 : Value).ownBlock ∧ some k_ ≠ (.slice Ao82 t216.length co82 : Value).ownBlock ∧ some k_ ≠ (.slice Ao83 t220.length co83 : Value).ownBlock ∧ k_ ≠ gb208) (.slice Ao34 y224.length co34) y224) := ⟨h6_⟩; have n7_ : Aside0 (w95.heap[gb208]? = some (.cells #[.int .i64 a5_0, .int .i64 a5_1, .slice A5_2 l5_2.length c5_2, .slice A5_3 l5_3.length c5_3, .slice A5_4 l5_4.length c5_4, .slice A5_5 l5_5.length c5_5, .slice A5_6 l5_6.length c5_6, .bool a5_7] 31 (0, 0))) := ⟨h7_⟩; have n8_ : Aside0 (Below w.heap.size w w95) := ⟨h8_⟩; clear HO_16; clear HO_18; clear HO_98; clear BK208; clear HB; clear h0_ h1_ h2_ h3_ h4_ h5_ h6_ h7_ h8_; revert n0_ n1_ n2_ n3_ n4_ n5_ n6_ n7_ n8_; intro HO246 HO249 HO252 HO255 HO_16 HO_18 HO_98 BK208 HB; have hHeld : w95.cell? ⟨gb208, 0, none⟩ = some (.int .i64 a5_0) ∧ w95.cell? ⟨gb208, 1, none⟩ = some (.int .i64 a5_1) ∧ w95.cell? ⟨gb208, 2, none⟩ = some (.slice A5_2 l5_2.length c5_2) ∧ w95.cell? ⟨gb208, 3, none⟩ = some (.slice A5_3 l5_3.length c5_3) ∧ w95.cell? ⟨gb208, 4, none⟩ = some (.slice A5_4 l5_4.length c5_4) ∧ w95.cell? ⟨gb208, 5, none⟩ = some (.slice A5_5 l5_5.length c5_5) ∧ w95.cell? ⟨gb208, 6, none⟩ = some (.slice A5_6 l5_6.length c5_6) ∧ w95.cell? ⟨gb208, 7, none⟩ = some (.bool a5_7) := hS_; refine norm_ (a' := ?_) ?_ ?_; rotate_left
           ·
            simp only [putAll, Act.put, setIfInBounds_toArray, set_cons_zero, set_cons_succ]; rfl
           refine pu_ 25 (some 161) (mk_ 26 72) HT_ ?_; refine pu_ 26 (some 162) (mk_ 27 72) HT_ ?_; refine pu_ 27 (some 163) (mk_ 28 72) HT_ ?_; refine pu_ 28 (some 164) (mk_ 29 72) HT_ ?_; refine pu_ 30 (some 166) (bm_ 72 1610612735) HT_ ?_; refine one_ (i := 29) (N := some 165) (mk_ 31 72) rfl rfl (one_of HT_.out (by kernel_rfl)) (by decide) (fun K hK => ?_); refine goes_ Try.func45 (by kernel_rfl) rfl #[.slice A0 l0.length c0] (by rfl) rfl rfl lm_ ?_; with_reducible refine (mask_Count.calls k3 _ _ l0 t256 _ ?side1 ?side2 A67.out).mono ?_
           (case side1 => exact kD_ (Kd.C_below HR0.out HB.out))
           (case side2 => exact HC0.out)
           rintro e w' ⟨rfl, ⟨nd, rfl⟩⟩; refine ⟨_, rfl, ?_⟩; refine hK.out _ _ ⟨(blk_cell BK208.out 0).trans rfl, (blk_cell BK208.out 1).trans rfl, (blk_cell BK208.out 2).trans rfl, (blk_cell BK208.out 3).trans rfl, (blk_cell BK208.out 4).trans rfl, (blk_cell BK208.out 5).trans rfl, (blk_cell BK208.out 6).trans rfl, (blk_cell BK208.out 7).trans rfl⟩ (fun hHeld => ?_); clear hK K; refine norm_ (a' := ?_) ?_ ?_; rotate_left
           ·
            show Act.put _ (some 165) _ = _
            simp only [Act.put, setIfInBounds_toArray, set_cons_zero, set_cons_succ, i64_w, i32_w]; rfl
           refine one_ (i := 31) (N := some 167) (mk_ 32 72) rfl rfl (one_of HT_.out (by kernel_rfl)) (by decide) (fun K hK => ?_); refine goes_ Try.func32 (by kernel_rfl) rfl #[.slice A0 l0.length c0] (by rfl) rfl rfl lm_ ?_; with_reducible refine (ref15_Count.calls k3 _ _ l0 t257 _ ?side1 ?side2 A68.out).mono ?_
           (case side1 => exact kD_ (Kd.C_below HR0.out (hb1_ HB.out GE208.out)))
           (case side2 => exact HC0.out)
           rintro e w' ⟨rfl, ⟨nd, rfl⟩⟩; refine ⟨_, rfl, ?_⟩; refine hK.out _ _ ⟨(blk_cell BK208.out 0).trans rfl, (blk_cell BK208.out 1).trans rfl, (blk_cell BK208.out 2).trans rfl, (blk_cell BK208.out 3).trans rfl, (blk_cell BK208.out 4).trans rfl, (blk_cell BK208.out 5).trans rfl, (blk_cell BK208.out 6).trans rfl, (blk_cell BK208.out 7).trans rfl⟩ (fun hHeld => ?_); clear hK K; refine norm_ (a' := ?_) ?_ ?_; rotate_left
           ·
            show Act.put _ (some 167) _ = _
            simp only [Act.put, setIfInBounds_toArray, set_cons_zero, set_cons_succ, i64_w, i32_w]; rfl
           refine pu_ 32 (some 168) (mk_ 33 72) HT_ ?_; refine pu_ 33 (some 169) (mk_ 34 72) HT_ ?_; refine pu_ 34 (some 170) (mk_ 35 72) HT_ ?_; refine pu_ 35 (some 171) (mk_ 36 72) HT_ ?_; refine pu_ 36 (some 172) (mk_ 37 72) HT_ ?_; refine pu_ 37 (some 173) (mk_ 38 72) HT_ ?_; refine pu_ 38 (some 174) (mk_ 39 72) HT_ ?_; refine pu_ 39 (some 175) (mk_ 40 72) HT_ ?_; refine pu_ 40 (some 176) (mk_ 41 72) HT_ ?_; refine pu_ 41 (some 177) (mk_ 42 72) HT_ ?_; refine one_ (i := 42) (N := some 178) (mk_ 43 72) rfl rfl (one_of HT_.out (by kernel_rfl)) (by decide) (fun K hK => ?_); refine goes_ Try.func59 (by kernel_rfl) rfl #[.slice Ao82 t216.length co82, .slice Ao83 t220.length co83] (by rfl) rfl rfl lm_ ?_; with_reducible refine (law15_ints.calls k3 _ _ t216 _ _ t220 true _ ?side1 ?side2 ?side3 ?side4 A71.out).mono ?_
           (case side1 => exact kD_ (Kd.R_reads' HO_16.out).2.2)
           (case side2 => exact (Kd.R_reads' HO_16.out).2.1)
           (case side3 => exact kD_ (Kd.R_reads' HO_18.out).2.2)
           (case side4 => exact (Kd.R_reads' HO_18.out).2.1)
           rintro e w' ⟨rfl, ⟨nd, rfl⟩⟩; refine ⟨_, rfl, ?_⟩; refine hK.out _ _ ⟨(blk_cell BK208.out 0).trans rfl, (blk_cell BK208.out 1).trans rfl, (blk_cell BK208.out 2).trans rfl, (blk_cell BK208.out 3).trans rfl, (blk_cell BK208.out 4).trans rfl, (blk_cell BK208.out 5).trans rfl, (blk_cell BK208.out 6).trans rfl, (blk_cell BK208.out 7).trans rfl⟩ (fun hHeld => ?_); clear hK K; refine norm_ (a' := ?_) ?_ ?_; rotate_left
           ·
            show Act.put _ (some 178) _ = _
            simp only [Act.put, setIfInBounds_toArray, set_cons_zero, set_cons_succ, i64_w, i32_w]; rfl
           refine pu_ 43 (some 179) (mk_ 44 72) HT_ ?_; refine pu_ 44 (some 180) (mk_ 45 72) HT_ ?_; refine pu_ 45 (some 181) (mk_ 46 72) HT_ ?_; refine pu_ 46 (some 182) (mk_ 47 72) HT_ ?_; refine pu_ 48 (some 184) (bm_ 72 422212465065983) HT_ ?_; refine pu_ 49 (some 185) (bm_ 72 985162418487295) HT_ ?_; refine one_ (i := 47) (N := some 183) (mk_ 50 72) rfl rfl (one_of HT_.out (by kernel_rfl)) (by decide) (fun K hK => ?_); refine goes_ Try.func51 (by kernel_rfl) rfl #[.slice A0 l0.length c0, .slice A1 l1.length c1] (by rfl) rfl rfl lm_ ?_; with_reducible refine (mask_Fits.calls k3 _ _ l0 _ _ l1 t259 _ ?side1 ?side2 ?side3 ?side4 A73.out).mono ?_
           (case side1 => exact kD_ (Kd.C_below HR0.out (hb1_ HB.out GE208.out)))
           (case side2 => exact HC0.out)
           (case side3 => exact kD_ (Kd.C_below HR1.out (hb1_ HB.out GE208.out)))
           (case side4 => exact HC1.out)
           rintro e w96 ⟨rfl, hb⟩; refine ⟨_, rfl, ?_⟩; have n0_ := Aside0.mk (Kd.R_below (kR_ HO_16.out) hb); have n1_ := Aside0.mk (Kd.R_below (kR_ HO_18.out) hb); have n2_ := Aside0.mk (Kd.N_below (kN_ HO_98.out) hb); have n3_ := Aside0.mk (Kd.V_below (kV_ HO246.out) hb); have n4_ := Aside0.mk (Kd.R_below (kR_ HO249.out) hb); have n5_ := Aside0.mk (Kd.R_below (kR_ HO252.out) hb); have n6_ := Aside0.mk (Kd.R_below (kR_ HO255.out) hb); have n7_ := Aside0.mk (bb_ BK208.out hb); have n8_ := Aside0.mk (below_step (hb1_ HB.out GE208.out) hb); clear HO_16; clear HO_18; clear HO_98; clear HO246; clear HO249; clear HO252; clear HO255; clear BK208; clear HB; revert n0_ n1_ n2_ n3_ n4_ n5_ n6_ n7_ n8_; intro HO_16 HO_18 HO_98 HO246 HO249 HO252 HO255 BK208 HB; (try clear hb)
           (try clear hb2)
           (try clear hk)
           (try clear hi)
           refine hK.out _ _ ⟨(blk_cell BK208.out 0).trans rfl, (blk_cell BK208.out 1).trans rfl, (blk_cell BK208.out 2).trans rfl, (blk_cell BK208.out 3).trans rfl, (blk_cell BK208.out 4).trans rfl, (blk_cell BK208.out 5).trans rfl, (blk_cell BK208.out 6).trans rfl, (blk_cell BK208.out 7).trans rfl⟩ (fun hHeld => ?_); clear hK K; refine norm_ (a' := ?_) ?_ ?_; rotate_left
           ·
            show Act.put _ (some 183) _ = _
            simp only [Act.put, setIfInBounds_toArray, set_cons_zero, set_cons_succ, i64_w, i32_w]; rfl
           refine one_ (i := 50) (N := some 186) (mk_ 51 72) rfl rfl (one_of HT_.out (by kernel_rfl)) (by decide) (fun K hK => ?_); refine goes_ Try.func41 (by kernel_rfl) rfl #[.slice A0 l0.length c0, .slice A1 l1.length c1] (by rfl) rfl rfl lm_ ?_; with_reducible refine (ref15_Fits.calls k3 _ _ l0 _ _ l1 t260 _ ?side1 ?side2 ?side3 ?side4 A74.out).mono ?_
           (case side1 => exact kD_ (Kd.C_below HR0.out HB.out))
           (case side2 => exact HC0.out)
           (case side3 => exact kD_ (Kd.C_below HR1.out HB.out))
           (case side4 => exact HC1.out)
           rintro e w' ⟨rfl, ⟨nd, rfl⟩⟩; refine ⟨_, rfl, ?_⟩; refine hK.out _ _ ⟨(blk_cell BK208.out 0).trans rfl, (blk_cell BK208.out 1).trans rfl, (blk_cell BK208.out 2).trans rfl, (blk_cell BK208.out 3).trans rfl, (blk_cell BK208.out 4).trans rfl, (blk_cell BK208.out 5).trans rfl, (blk_cell BK208.out 6).trans rfl, (blk_cell BK208.out 7).trans rfl⟩ (fun hHeld => ?_); clear hK K; refine norm_ (a' := ?_) ?_ ?_; rotate_left
           ·
            show Act.put _ (some 186) _ = _
            simp only [Act.put, setIfInBounds_toArray, set_cons_zero, set_cons_succ, i64_w, i32_w]; rfl
           refine pu_ 51 (some 187) (mk_ 52 72) HT_ ?_; refine pu_ 52 (some 188) (mk_ 53 72) HT_ ?_; refine pu_ 53 (some 189) (mk_ 54 72) HT_ ?_; refine pu_ 54 (some 190) (mk_ 55 72) HT_ ?_; refine pu_ 55 (some 191) (mk_ 56 72) HT_ ?_; refine pu_ 56 (some 192) (mk_ 57 72) HT_ ?_; refine pu_ 57 (some 193) (mk_ 58 72) HT_ ?_; refine pu_ 60 (some 196) (bm_ 72 1441151880758558719) HT_ ?_; refine pu_ 61 (some 197) (bm_ 72 3746994889972252671) HT_ ?_; refine pu_ 62 (some 198) (bm_ 72 8358680908399640575) HT_ ?_; refine pu_ 63 (some 199) (bm_ 72 17582052945254416383) HT_ ?_; refine one_ (i := 58) (N := some 194) (bm_ 72 17870283321406128127) rfl rfl (one_of HT_.out (by kernel_rfl)) (by decide) (fun K hK => ?_); refine goes_ Try.func46 (by kernel_rfl) rfl #[.slice A1 l1.length c1, .int .i64 (l0.length : Int)] (by rfl) rfl rfl lm_ ?_; with_reducible refine (Extend.calls _ _ l1 (l0.length : Int) t261 _ ?side1 ?side2 A76.out).mono ?_
           (case side1 => exact kD_ (Kd.C_below HR1.out (hb1_ HB.out GE208.out)))
           (case side2 => exact HC1.out)
           rintro e w97 ⟨v262, rfl, ho0, hb⟩; refine ⟨_, rfl, ?_⟩; have n0_ := Aside0.mk (Kd.R_below (kR_ HO_16.out) hb); have n1_ := Aside0.mk (Kd.R_below (kR_ HO_18.out) hb); have n2_ := Aside0.mk (Kd.N_below (kN_ HO_98.out) hb); have n3_ := Aside0.mk (Kd.V_below (kV_ HO246.out) hb); have n4_ := Aside0.mk (Kd.R_below (kR_ HO249.out) hb); have n5_ := Aside0.mk (Kd.R_below (kR_ HO252.out) hb); have n6_ := Aside0.mk (Kd.R_below (kR_ HO255.out) hb); have n7_ := Aside0.mk (Kd.V_lower (Kd.V_mono (ok' := fun k_ => (P2_ k_ ∨ w.heap.size ≤ k_) ∧ some k_ ≠ (.slice Ao82 t216.length co82 : Value).ownBlock ∧ some k_ ≠ (.slice Ao83 t220.length co83 : Value).ownBlock ∧ some k_ ≠ (.slice Ao34 y224.length co34 : Value).ownBlock ∧ some k_ ≠ (v248 : Value).ownBlock ∧ some k_ ≠ (v251 : Value).ownBlock ∧ some k_ ≠ (v254 : Value).ownBlock ∧ k_ ≠ gb208) ho0 (fun k_ hk_ => ⟨(.inr (Nat.le_trans (below_size (hb1_ HB.out GE208.out)) hk_)), (Kd.fresh' (Kd.R_lt (kR_ HO_16.out)) k_ hk_), (Kd.fresh' (Kd.R_lt (kR_ HO_18.out)) k_ hk_), (Kd.fresh' (Kd.N_lt (kN_ HO_98.out)) k_ hk_), (Kd.fresh' (Kd.R_lt (kR_ HO249.out)) k_ hk_), (Kd.fresh' (Kd.R_lt (kR_ HO252.out)) k_ hk_), (Kd.fresh' (Kd.R_lt (kR_ HO255.out)) k_ hk_), (fB_ BK208.out k_ hk_)⟩)) (below_size (hb1_ HB.out GE208.out))); have n8_ := Aside0.mk (bb_ BK208.out hb); have n9_ := Aside0.mk (below_step (hb1_ HB.out GE208.out) hb); clear HO_16; clear HO_18; clear HO_98; clear HO246; clear HO249; clear HO252; clear HO255; clear BK208; clear HB; revert n0_ n1_ n2_ n3_ n4_ n5_ n6_ n7_ n8_ n9_; intro HO_16 HO_18 HO_98 HO246 HO249 HO252 HO255 HO263 BK208 HB; (try clear hb)
           (try clear hb2)
           (try clear hk)
           (try clear hi)
           (try clear ho0)
           obtain ⟨Ao98, co98, eo98⟩ := Kd.V_slice HO263.out; (first | subst eo98 | (injection eo98 with f1_ f2_ f3_; have f4_ := f1_.symm; have f5_ := f3_.symm; clear f1_ f2_ f3_; subst f4_; subst f5_))
           refine hK.out _ _ ⟨(blk_cell BK208.out 0).trans rfl, (blk_cell BK208.out 1).trans rfl, (blk_cell BK208.out 2).trans rfl, (blk_cell BK208.out 3).trans rfl, (blk_cell BK208.out 4).trans rfl, (blk_cell BK208.out 5).trans rfl, (blk_cell BK208.out 6).trans rfl, (blk_cell BK208.out 7).trans rfl⟩ (fun hHeld => ?_); clear hK K; refine norm_ (a' := ?_) ?_ ?_; rotate_left
           ·
            show Act.put _ (some 194) _ = _
            simp only [Act.put, setIfInBounds_toArray, set_cons_zero, set_cons_succ, i64_w, i32_w]; rfl
           refine one_ (i := 59) (N := some 195) (mk_ 64 72) rfl rfl (one_of HT_.out (by kernel_rfl)) (by decide) (fun K hK => ?_); refine goes_ Try.func51 (by kernel_rfl) rfl #[.slice A0 l0.length c0, .slice Ao98 t261.length co98] (by rfl) rfl rfl lm_ ?_; with_reducible refine (mask_Fits.calls k3 _ _ l0 _ _ t261 t264 _ ?side1 ?side2 ?side3 ?side4 A77.out).mono ?_
           (case side1 => exact kD_ (Kd.C_below HR0.out HB.out))
           (case side2 => exact HC0.out)
           (case side3 => exact kD_ (Kd.V_reads' HO263.out).2.2)
           (case side4 => exact (Kd.V_reads' HO263.out).2.1)
           rintro e w99 ⟨rfl, hb⟩; refine ⟨_, rfl, ?_⟩; have n0_ := Aside0.mk (Kd.R_below (kR_ HO_16.out) hb); have n1_ := Aside0.mk (Kd.R_below (kR_ HO_18.out) hb); have n2_ := Aside0.mk (Kd.N_below (kN_ HO_98.out) hb); have n3_ := Aside0.mk (Kd.V_below (kV_ HO246.out) hb); have n4_ := Aside0.mk (Kd.R_below (kR_ HO249.out) hb); have n5_ := Aside0.mk (Kd.R_below (kR_ HO252.out) hb); have n6_ := Aside0.mk (Kd.R_below (kR_ HO255.out) hb); have n7_ := Aside0.mk (Kd.V_below (kV_ HO263.out) hb); have n8_ := Aside0.mk (bb_ BK208.out hb); have n9_ := Aside0.mk (below_step (hb1_ HB.out GE208.out) hb); clear HO_16; clear HO_18; clear HO_98; clear HO246; clear HO249; clear HO252; clear HO255; clear HO263; clear BK208; clear HB; revert n0_ n1_ n2_ n3_ n4_ n5_ n6_ n7_ n8_ n9_; intro HO_16 HO_18 HO_98 HO246 HO249 HO252 HO255 HO263 BK208 HB; (try clear hb)
           (try clear hb2)
           (try clear hk)
           (try clear hi)
           refine hK.out _ _ ⟨(blk_cell BK208.out 0).trans rfl, (blk_cell BK208.out 1).trans rfl, (blk_cell BK208.out 2).trans rfl, (blk_cell BK208.out 3).trans rfl, (blk_cell BK208.out 4).trans rfl, (blk_cell BK208.out 5).trans rfl, (blk_cell BK208.out 6).trans rfl, (blk_cell BK208.out 7).trans rfl⟩ (fun hHeld => ?_); clear hK K; refine norm_ (a' := ?_) ?_ ?_; rotate_left
           ·
            show Act.put _ (some 195) _ = _
            simp only [Act.put, setIfInBounds_toArray, set_cons_zero, set_cons_succ, i64_w, i32_w]; rfl
           refine one_ (i := 64) (N := some 200) (mk_ 65 72) rfl rfl (one_of HT_.out (by kernel_rfl)) (by decide) (fun K hK => ?_); refine goes_ Try.func57 (by kernel_rfl) rfl #[.slice A1 l1.length c1, .int .i64 (l0.length : Int)] (by rfl) rfl rfl lm_ ?_; with_reducible refine (ref15_Extend.calls k3 _ _ l1 (l0.length : Int) t265 _ ?side1 ?side2 A78.out).mono ?_
           (case side1 => exact kD_ (Kd.C_below HR1.out HB.out))
           (case side2 => exact HC1.out)
           rintro e w100 ⟨v266, rfl, ho0, hb⟩; refine ⟨_, rfl, ?_⟩; have n0_ := Aside0.mk (Kd.R_below (kR_ HO_16.out) hb); have n1_ := Aside0.mk (Kd.R_below (kR_ HO_18.out) hb); have n2_ := Aside0.mk (Kd.N_elder' (kN_ HO_98.out) (Kd.R_base ho0) hb); have n3_ := Aside0.mk (Kd.V_elder' (kV_ HO246.out) (Kd.R_base ho0) hb); have n4_ := Aside0.mk (Kd.R_elder' (kR_ HO249.out) (Kd.R_base ho0) hb); have n5_ := Aside0.mk (Kd.R_elder' (kR_ HO252.out) (Kd.R_base ho0) hb); have n6_ := Aside0.mk (Kd.R_elder' (kR_ HO255.out) (Kd.R_base ho0) hb); have n7_ := Aside0.mk (Kd.V_elder' (kV_ HO263.out) (Kd.R_base ho0) hb); have n8_ := Aside0.mk (Kd.R_lower (Kd.R_new' (Kd.R_new' (Kd.R_new' (Kd.R_newM (M := fun k_ => (w.heap.size ≤ k_)) ho0 (below_size (hb1_ HB.out GE208.out)) (fun k_ h_ => h_)) (Kd.R_lt (kR_ HO249.out))) (Kd.R_lt (kR_ HO252.out))) (Kd.R_lt (kR_ HO255.out))) (below_size (hb1_ HB.out GE208.out))); have n9_ := Aside0.mk (bb_ BK208.out hb); have n10_ := Aside0.mk (below_step (hb1_ HB.out GE208.out) hb); clear HO_16; clear HO_18; clear HO_98; clear HO246; clear HO249; clear HO252; clear HO255; clear HO263; clear BK208; clear HB; revert n0_ n1_ n2_ n3_ n4_ n5_ n6_ n7_ n8_ n9_ n10_; intro HO_16 HO_18 HO_98 HO246 HO249 HO252 HO255 HO263 HO267 BK208 HB; (try clear hb)
           (try clear hb2)
           (try clear hk)
           (try clear hi)
           (try clear ho0)
           obtain ⟨Ao101, co101, eo101⟩ := Kd.R_slice HO267.out; (first | subst eo101 | (injection eo101 with f1_ f2_ f3_; have f4_ := f1_.symm; have f5_ := f3_.symm; clear f1_ f2_ f3_; subst f4_; subst f5_))
           refine hK.out _ _ ⟨(blk_cell BK208.out 0).trans rfl, (blk_cell BK208.out 1).trans rfl, (blk_cell BK208.out 2).trans rfl, (blk_cell BK208.out 3).trans rfl, (blk_cell BK208.out 4).trans rfl, (blk_cell BK208.out 5).trans rfl, (blk_cell BK208.out 6).trans rfl, (blk_cell BK208.out 7).trans rfl⟩ (fun hHeld => ?_); clear hK K; refine norm_ (a' := ?_) ?_ ?_; rotate_left
           ·
            show Act.put _ (some 200) _ = _
            simp only [Act.put, setIfInBounds_toArray, set_cons_zero, set_cons_succ, i64_w, i32_w]; rfl
           refine one_ (i := 65) (N := some 201) (mk_ 66 72) rfl rfl (one_of HT_.out (by kernel_rfl)) (by decide) (fun K hK => ?_); refine goes_ Try.func41 (by kernel_rfl) rfl #[.slice A0 l0.length c0, .slice Ao101 t265.length co101] (by rfl) rfl rfl lm_ ?_; with_reducible refine (ref15_Fits.calls k3 _ _ l0 _ _ t265 t268 _ ?side1 ?side2 ?side3 ?side4 A79.out).mono ?_
           (case side1 => exact kD_ (Kd.C_below HR0.out HB.out))
           (case side2 => exact HC0.out)
           (case side3 => exact kD_ (Kd.R_reads' HO267.out).2.2)
           (case side4 => exact (Kd.R_reads' HO267.out).2.1)
           rintro e w' ⟨rfl, ⟨nd, rfl⟩⟩; refine ⟨_, rfl, ?_⟩; refine hK.out _ _ ⟨(blk_cell BK208.out 0).trans rfl, (blk_cell BK208.out 1).trans rfl, (blk_cell BK208.out 2).trans rfl, (blk_cell BK208.out 3).trans rfl, (blk_cell BK208.out 4).trans rfl, (blk_cell BK208.out 5).trans rfl, (blk_cell BK208.out 6).trans rfl, (blk_cell BK208.out 7).trans rfl⟩ (fun hHeld => ?_); clear hK K; refine norm_ (a' := ?_) ?_ ?_; rotate_left
           ·
            show Act.put _ (some 201) _ = _
            simp only [Act.put, setIfInBounds_toArray, set_cons_zero, set_cons_succ, i64_w, i32_w]; rfl
           refine pu_ 66 (some 202) (mk_ 67 72) HT_ ?_; refine pu_ 67 (some 203) (mk_ 68 72) HT_ ?_; refine pu_ 68 (some 204) (mk_ 69 72) HT_ ?_; refine one_ (i := 69) (N := some 205) (mk_ 70 72) rfl rfl (one_of HT_.out (by kernel_rfl)) (by decide) (fun K hK => ?_); refine goes_ Try.func43 (by kernel_rfl) rfl #[] (by rfl) rfl rfl lm_ ?_; with_reducible refine (law15_awake.calls k3  t269 _ A81.out).mono ?_
           rintro e w102 ⟨rfl, hb⟩; refine ⟨_, rfl, ?_⟩; have n0_ := Aside0.mk (Kd.R_below (kR_ HO_16.out) hb); have n1_ := Aside0.mk (Kd.R_below (kR_ HO_18.out) hb); have n2_ := Aside0.mk (Kd.N_below (kN_ HO_98.out) hb); have n3_ := Aside0.mk (Kd.V_below (kV_ HO246.out) hb); have n4_ := Aside0.mk (Kd.R_below (kR_ HO249.out) hb); have n5_ := Aside0.mk (Kd.R_below (kR_ HO252.out) hb); have n6_ := Aside0.mk (Kd.R_below (kR_ HO255.out) hb); have n7_ := Aside0.mk (Kd.V_below (kV_ HO263.out) hb); have n8_ := Aside0.mk (Kd.R_below (kR_ HO267.out) hb); have n9_ := Aside0.mk (bb_ BK208.out hb); have n10_ := Aside0.mk (below_step (hb1_ HB.out GE208.out) hb); clear HO_16; clear HO_18; clear HO_98; clear HO246; clear HO249; clear HO252; clear HO255; clear HO263; clear HO267; clear BK208; clear HB; revert n0_ n1_ n2_ n3_ n4_ n5_ n6_ n7_ n8_ n9_ n10_; intro HO_16 HO_18 HO_98 HO246 HO249 HO252 HO255 HO263 HO267 BK208 HB; (try clear hb)
           (try clear hb2)
           (try clear hk)
           (try clear hi)
           refine hK.out _ _ ⟨(blk_cell BK208.out 0).trans rfl, (blk_cell BK208.out 1).trans rfl, (blk_cell BK208.out 2).trans rfl, (blk_cell BK208.out 3).trans rfl, (blk_cell BK208.out 4).trans rfl, (blk_cell BK208.out 5).trans rfl, (blk_cell BK208.out 6).trans rfl, (blk_cell BK208.out 7).trans rfl⟩ (fun hHeld => ?_); clear hK K; refine norm_ (a' := ?_) ?_ ?_; rotate_left
           ·
            show Act.put _ (some 205) _ = _
            simp only [Act.put, setIfInBounds_toArray, set_cons_zero, set_cons_succ, i64_w, i32_w]; rfl
           refine pu_ 70 (some 206) (mk_ 71 72) HT_ ?_; refine pu_ 71 (some 12) (mk_ 72 72) HT_ ?_; refine done_ (done_of HT_.out (by kernel_rfl)) ?_; try go_wp2
           go_ret
           exact ⟨by first | rfl | (simp [errW_none, errW_some] <;> rfl) | (simp [*, errW_none, errW_some] <;> rfl), (hb1_ HB.out GE208.out)⟩
    ·
     rw [if_neg c16] at H; exact absurd H (by simp)
def law15_MaskLooks.Pure : Prop := ∀ (l0 l1 l2 : List Int) (a3 a4 a5_0 a5_1 : Int) (l5_2 l5_3 : List Int) (l5_4 : List S101) (l5_5 : List S79) (l5_6 : List Int) (a5_7 : Bool), (∀ x ∈ l0, (Lit.int .u8 x).wf = true) → (∀ x ∈ l1, (Lit.int .u8 x).wf = true) → (∀ x ∈ l2, (Lit.int .i64 x).wf = true) → ∃ k, law15_MaskLooks.f k l0 l1 l2 a3 a4 a5_0 a5_1 l5_2 l5_3 l5_4 l5_5 l5_6 a5_7 = some true

end Go.Proofs.Ytpcephbhnbfcmaa.M
