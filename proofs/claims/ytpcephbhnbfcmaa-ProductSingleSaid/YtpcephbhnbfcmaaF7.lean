-- Written by this session's program fork.py: a Lean function for each Go function and its walk. Not trusted: Lean checks it.
import Derived.Test.YtpcephbhnbfcmaaF0
import Derived.Test.YtpcephbhnbfcmaaF1
import Derived.Test.YtpcephbhnbfcmaaF2
import Derived.Test.YtpcephbhnbfcmaaF3
import Derived.Test.YtpcephbhnbfcmaaF4
import Derived.Test.YtpcephbhnbfcmaaF6
namespace Go.Proofs.Ytpcephbhnbfcmaa.F
open Go.RowKit Go.Proofs.YtpcephbhnbfcmaaW.PrintWords Go.Proofs.YtpcephbhnbfcmaaW.PrintLast Go.Proofs.YtpcephbhnbfcmaaW.PrintMore
attribute [local go_sem] max2_int min2_int max_two min_two max_three min_three max_four min_four   -- for this text's walks alone
set_option linter.unusedVariables false
set_option linter.unusedSimpArgs false

open List (setIfInBounds_toArray set_cons_zero set_cons_succ)
/-! ### law16_ProductSingle: function 5 -/
mutual
def law16_ProductSingle.j0 : Nat → List Int → Int → Option (Bool)
 | 0, _, _ => none
 | k + 1, x240000, x240001 => (made_Dice_Next.f x240000 x240001 9).bind fun bt285 => (law16_ProductSingle.l0 k ([] : List (S31)) ([] : List (S31)) 0 bt285.1 x240000 bt285.2)
def law16_ProductSingle.l0 : Nat → List (S31) → List (S31) → Int → Int → List Int → Int → Option (Bool)
 | 0, _, _, _, _, _, _ => none
 | k + 1, x7, x8, x9, x10, x240000, x240001 => if x10 > 0 then ((made_Dice_Bytes.f k x240000 x240001 9).bind fun bt287 => ((some (([(⟨(bt287.1.length : Int), 1, bt287.1, ([] : List Int), ([] : List (S101)), ([] : List (S79)), ([] : List Int), false⟩ : S31)] : List (S31)) : List (S31))).bind fun y292 => (if x7.length + y292.length < 977343669134 then ((some (([(⟨(bt287.1.length : Int), 1, bt287.1, ([] : List Int), ([] : List (S101)), ([] : List (S79)), ([] : List Int), false⟩ : S31)] : List (S31)) : List (S31))).bind fun y298 => (if y298.length + x8.length < 977343669134 then (law16_ProductSingle.l0 k (x7 ++ y292) (y298 ++ x8) (wrap64 (x9 + (bt287.1.length : Int))) (wrap64 (x10 - 1)) x240000 bt287.2) else (none))) else (none)))) else ((product_Lay.f k x7).bind fun bt304 => ((product_Lay.f k x8).bind fun bt324 => (if bt304.2.2.2.2.2.2.2.2 = 0 then (if bt324.2.2.2.2.2.2.2.2 = 0 then (if bt304.1 = x9 then (if bt324.1 = x9 then (if bt304.2.1 = 1 then ((Awake16.f).bind fun t344 => (some t344)) else (some false)) else (some false)) else (some false)) else (some false)) else (some false))))
end
def law16_ProductSingle.f (k : Nat) (l0 : List Int) : Option (Bool) := (made_Light.f l0).bind fun t235 => (if t235 = true then ((made_Roll.f l0).bind fun bt237 => ((made_Dice_Layout.f k bt237.1 bt237.2).bind fun bt240 => ((ref15_Valid.f bt240.1 bt240.2.1 bt240.2.2.1 bt240.2.2.2.1 bt240.2.2.2.2.1 bt240.2.2.2.2.2.1 bt240.2.2.2.2.2.2.1 bt240.2.2.2.2.2.2.2.1).bind fun t260 => (if t260 = true then ((product_Lay.f k (([(⟨bt240.1, bt240.2.1, bt240.2.2.1, bt240.2.2.2.1, bt240.2.2.2.2.1, bt240.2.2.2.2.2.1, bt240.2.2.2.2.2.2.1, bt240.2.2.2.2.2.2.2.1⟩ : S31)] : List (S31)))).bind fun bt264 => (if bt264.2.2.2.2.2.2.2.2 = 0 then (if bt264.1 = bt240.1 then (if bt264.2.1 = bt240.2.1 then (if (strOfNums bt264.2.2.1).toList = (strOfNums bt240.2.2.1).toList then (if (bt264.2.2.2.1.length : Int) = 1 then (if 0 < (bt264.2.2.2.1.length : Int) then (if (rd bt264.2.2.2.1 0) = 0 then (law16_ProductSingle.j0 k bt237.1 bt240.2.2.2.2.2.2.2.2) else (some false)) else (none)) else (some false)) else (some false)) else (some false)) else (some false)) else (some false))) else (law16_ProductSingle.j0 k bt237.1 bt240.2.2.2.2.2.2.2.2))))) else ((Awake16.f).bind fun t236 => (some t236)))
theorem law16_ProductSingle.mono_l : ∀ k, (∀ y0 y1, LeO (law16_ProductSingle.j0 k y0 y1) (law16_ProductSingle.j0 (k + 1) y0 y1)) ∧ (∀ y0 y1 y2 y3 y4 y5, LeO (law16_ProductSingle.l0 k y0 y1 y2 y3 y4 y5) (law16_ProductSingle.l0 (k + 1) y0 y1 y2 y3 y4 y5))
 | 0 => ⟨fun _ _ r h => by simp [law16_ProductSingle.j0] at h, fun _ _ _ _ _ _ r h => by simp [law16_ProductSingle.l0] at h⟩
 | k + 1 => by
  obtain ⟨ih0, ih1⟩ := law16_ProductSingle.mono_l k
  refine ⟨?_, ?_⟩
  ·
   intro y0 y1
   unfold law16_ProductSingle.j0
   repeat' first
   | (with_reducible exact ih0 _ _)
   | (with_reducible exact ih1 _ _ _ _ _ _)
   | (with_reducible exact made_Dice_Bytes.mono _ _ _ _)
   | (with_reducible exact made_Dice_Layout.mono _ _ _)
   | (with_reducible exact product_Lay.mono _ _)
   | (with_reducible exact LeO.refl _)
   | (with_reducible exact LeO.none _)
   | (with_reducible refine LeO.ite ?_ ?_)
   | (with_reducible refine LeO.bind ?_ (fun _ => ?_))
   | exact ih0 _ _
   | exact ih1 _ _ _ _ _ _
   | exact made_Dice_Bytes.mono _ _ _ _
   | exact made_Dice_Layout.mono _ _ _
   | exact product_Lay.mono _ _
   | exact LeO.none _
   | refine LeO.ite ?_ ?_
   | refine LeO.bind ?_ (fun _ => ?_)
  ·
   intro y0 y1 y2 y3 y4 y5
   unfold law16_ProductSingle.l0
   repeat' first
   | (with_reducible exact ih0 _ _)
   | (with_reducible exact ih1 _ _ _ _ _ _)
   | (with_reducible exact made_Dice_Bytes.mono _ _ _ _)
   | (with_reducible exact made_Dice_Layout.mono _ _ _)
   | (with_reducible exact product_Lay.mono _ _)
   | (with_reducible exact LeO.refl _)
   | (with_reducible exact LeO.none _)
   | (with_reducible refine LeO.ite ?_ ?_)
   | (with_reducible refine LeO.bind ?_ (fun _ => ?_))
   | exact ih0 _ _
   | exact ih1 _ _ _ _ _ _
   | exact made_Dice_Bytes.mono _ _ _ _
   | exact made_Dice_Layout.mono _ _ _
   | exact product_Lay.mono _ _
   | exact LeO.none _
   | refine LeO.ite ?_ ?_
   | refine LeO.bind ?_ (fun _ => ?_)
theorem law16_ProductSingle.mono : ∀ a0 k, LeO (law16_ProductSingle.f k a0) (law16_ProductSingle.f (k + 1) a0) := by
 intro a0 k
 obtain ⟨ih0, ih1⟩ := law16_ProductSingle.mono_l k
 unfold law16_ProductSingle.f
 repeat' first
   | (with_reducible exact ih0 _ _)
   | (with_reducible exact ih1 _ _ _ _ _ _)
   | (with_reducible exact made_Dice_Bytes.mono _ _ _ _)
   | (with_reducible exact made_Dice_Layout.mono _ _ _)
   | (with_reducible exact product_Lay.mono _ _)
   | (with_reducible exact LeO.refl _)
   | (with_reducible exact LeO.none _)
   | (with_reducible refine LeO.ite ?_ ?_)
   | (with_reducible refine LeO.bind ?_ (fun _ => ?_))
   | exact ih0 _ _
   | exact ih1 _ _ _ _ _ _
   | exact made_Dice_Bytes.mono _ _ _ _
   | exact made_Dice_Layout.mono _ _ _
   | exact product_Lay.mono _ _
   | exact LeO.none _
   | refine LeO.ite ?_ ?_
   | refine LeO.bind ?_ (fun _ => ?_)
def law16_ProductSingle.T16 : Bool × List (List Nat × List Nat) := (true, [([], []), ([], []), ([1], [1]), ([0, 2], [0, 2]), ([], []), ([4], [4]), ([], []), ([5, 6, 3], [5, 6]), ([], []), ([], []), ([9], [9]), ([8, 10], [8, 10]), ([3, 7, 0, 1, 2, 3], [0, 3]), ([7, 12, 0, 1, 2, 3, 4, 5, 6, 7, 12], [6, 7]), ([11, 13, 0, 1, 2, 3, 4, 5, 6, 7, 8, 9, 10, 11, 12, 13], [8, 11])])
def law16_ProductSingle.B16 : List Nat := [0, 0, 2, 7, 0, 16, 0, 127, 0, 0, 512, 1792, 255, 4351, 16383]
theorem law16_ProductSingle.tab16 : rtab .any (opsOf Try.f5 16) = law16_ProductSingle.T16 := by kernel_rfl
theorem law16_ProductSingle.bits16 : waitsOk law16_ProductSingle.T16.2 law16_ProductSingle.B16 = true := by kernel_rfl
set_option maxHeartbeats 8000000 in
set_option maxRecDepth 100000 in
theorem law16_ProductSingle.calls (k : Nat) (A0 : Option Addr) (c0 : Nat) (l0 : List Int) (r : Bool) (w : World) (hr0 : Kd.C (Kd.int .i64) w A0 l0.length l0) (hc0 : l0.length ≤ c0) (h : law16_ProductSingle.f k l0 = some r) (hr_ : r = true) :
  Calls Try.prog 5 #[.slice A0 l0.length c0] w fun e w' => e = .returned (.bool r) ∧ Below w.heap.size w w' := by
 have hu31 := Try.underlying31
 have HR0 := Aside0.mk hr0
 have HC0 := Aside0.mk hc0
 clear hr0 hc0
 have HB := Aside0.mk (Below.refl w.heap.size w)
 have H : ((made_Light.f l0).bind fun t235 => (if t235 = true then ((made_Roll.f l0).bind fun bt237 => ((made_Dice_Layout.f k bt237.1 bt237.2).bind fun bt240 => ((ref15_Valid.f bt240.1 bt240.2.1 bt240.2.2.1 bt240.2.2.2.1 bt240.2.2.2.2.1 bt240.2.2.2.2.2.1 bt240.2.2.2.2.2.2.1 bt240.2.2.2.2.2.2.2.1).bind fun t260 => (if t260 = true then ((product_Lay.f k (([(⟨bt240.1, bt240.2.1, bt240.2.2.1, bt240.2.2.2.1, bt240.2.2.2.2.1, bt240.2.2.2.2.2.1, bt240.2.2.2.2.2.2.1, bt240.2.2.2.2.2.2.2.1⟩ : S31)] : List (S31)))).bind fun bt264 => (if bt264.2.2.2.2.2.2.2.2 = 0 then (if bt264.1 = bt240.1 then (if bt264.2.1 = bt240.2.1 then (if (strOfNums bt264.2.2.1).toList = (strOfNums bt240.2.2.1).toList then (if (bt264.2.2.2.1.length : Int) = 1 then (if 0 < (bt264.2.2.2.1.length : Int) then (if (rd bt264.2.2.2.1 0) = 0 then (law16_ProductSingle.j0 k bt237.1 bt240.2.2.2.2.2.2.2.2) else (some false)) else (none)) else (some false)) else (some false)) else (some false)) else (some false)) else (some false))) else (law16_ProductSingle.j0 k bt237.1 bt240.2.2.2.2.2.2.2.2))))) else ((Awake16.f).bind fun t236 => (some t236)))) = some r := h
 clear h
 replace H := Option.bind_eq_some_iff.mp H
 obtain ⟨t235, A20, H⟩ := H
 replace H : (if t235 = true then ((made_Roll.f l0).bind fun bt237 => ((made_Dice_Layout.f k bt237.1 bt237.2).bind fun bt240 => ((ref15_Valid.f bt240.1 bt240.2.1 bt240.2.2.1 bt240.2.2.2.1 bt240.2.2.2.2.1 bt240.2.2.2.2.2.1 bt240.2.2.2.2.2.2.1 bt240.2.2.2.2.2.2.2.1).bind fun t260 => (if t260 = true then ((product_Lay.f k (([(⟨bt240.1, bt240.2.1, bt240.2.2.1, bt240.2.2.2.1, bt240.2.2.2.2.1, bt240.2.2.2.2.2.1, bt240.2.2.2.2.2.2.1, bt240.2.2.2.2.2.2.2.1⟩ : S31)] : List (S31)))).bind fun bt264 => (if bt264.2.2.2.2.2.2.2.2 = 0 then (if bt264.1 = bt240.1 then (if bt264.2.1 = bt240.2.1 then (if (strOfNums bt264.2.2.1).toList = (strOfNums bt240.2.2.1).toList then (if (bt264.2.2.2.1.length : Int) = 1 then (if 0 < (bt264.2.2.2.1.length : Int) then (if (rd bt264.2.2.2.1 0) = 0 then (law16_ProductSingle.j0 k bt237.1 bt240.2.2.2.2.2.2.2.2) else (some false)) else (none)) else (some false)) else (some false)) else (some false)) else (some false)) else (some false))) else (law16_ProductSingle.j0 k bt237.1 bt240.2.2.2.2.2.2.2.2))))) else ((Awake16.f).bind fun t236 => (some t236))) = some r := H
 have A2 := Aside0.mk A20
 clear A20
 by_cases c3 : t235 = true
 ·
  subst c3
  have H1 : ((made_Roll.f l0).bind fun bt237 => ((made_Dice_Layout.f k bt237.1 bt237.2).bind fun bt240 => ((ref15_Valid.f bt240.1 bt240.2.1 bt240.2.2.1 bt240.2.2.2.1 bt240.2.2.2.2.1 bt240.2.2.2.2.2.1 bt240.2.2.2.2.2.2.1 bt240.2.2.2.2.2.2.2.1).bind fun t260 => (if t260 = true then ((product_Lay.f k (([(⟨bt240.1, bt240.2.1, bt240.2.2.1, bt240.2.2.2.1, bt240.2.2.2.2.1, bt240.2.2.2.2.2.1, bt240.2.2.2.2.2.2.1, bt240.2.2.2.2.2.2.2.1⟩ : S31)] : List (S31)))).bind fun bt264 => (if bt264.2.2.2.2.2.2.2.2 = 0 then (if bt264.1 = bt240.1 then (if bt264.2.1 = bt240.2.1 then (if (strOfNums bt264.2.2.1).toList = (strOfNums bt240.2.2.1).toList then (if (bt264.2.2.2.1.length : Int) = 1 then (if 0 < (bt264.2.2.2.1.length : Int) then (if (rd bt264.2.2.2.1 0) = 0 then (law16_ProductSingle.j0 k bt237.1 bt240.2.2.2.2.2.2.2.2) else (some false)) else (none)) else (some false)) else (some false)) else (some false)) else (some false)) else (some false))) else (law16_ProductSingle.j0 k bt237.1 bt240.2.2.2.2.2.2.2.2))))) = some r := by rw [if_pos rfl] at H; exact H
  clear H
  have H := H1
  clear H1
  replace H := Option.bind_eq_some_iff.mp H
  obtain ⟨⟨t237, t238⟩, A40, H⟩ := H
  replace H : ((made_Dice_Layout.f k t237 t238).bind fun bt240 => ((ref15_Valid.f bt240.1 bt240.2.1 bt240.2.2.1 bt240.2.2.2.1 bt240.2.2.2.2.1 bt240.2.2.2.2.2.1 bt240.2.2.2.2.2.2.1 bt240.2.2.2.2.2.2.2.1).bind fun t260 => (if t260 = true then ((product_Lay.f k (([(⟨bt240.1, bt240.2.1, bt240.2.2.1, bt240.2.2.2.1, bt240.2.2.2.2.1, bt240.2.2.2.2.2.1, bt240.2.2.2.2.2.2.1, bt240.2.2.2.2.2.2.2.1⟩ : S31)] : List (S31)))).bind fun bt264 => (if bt264.2.2.2.2.2.2.2.2 = 0 then (if bt264.1 = bt240.1 then (if bt264.2.1 = bt240.2.1 then (if (strOfNums bt264.2.2.1).toList = (strOfNums bt240.2.2.1).toList then (if (bt264.2.2.2.1.length : Int) = 1 then (if 0 < (bt264.2.2.2.1.length : Int) then (if (rd bt264.2.2.2.1 0) = 0 then (law16_ProductSingle.j0 k t237 bt240.2.2.2.2.2.2.2.2) else (some false)) else (none)) else (some false)) else (some false)) else (some false)) else (some false)) else (some false))) else (law16_ProductSingle.j0 k t237 bt240.2.2.2.2.2.2.2.2)))) = some r := H
  have A4 := Aside0.mk A40
  clear A40
  replace H := Option.bind_eq_some_iff.mp H
  obtain ⟨⟨t240, t241, t242, t245, t248, t251, t254, t257, t258⟩, A50, H⟩ := H
  replace H : ((ref15_Valid.f t240 t241 t242 t245 t248 t251 t254 t257).bind fun t260 => (if t260 = true then ((product_Lay.f k (([(⟨t240, t241, t242, t245, t248, t251, t254, t257⟩ : S31)] : List (S31)))).bind fun bt264 => (if bt264.2.2.2.2.2.2.2.2 = 0 then (if bt264.1 = t240 then (if bt264.2.1 = t241 then (if (strOfNums bt264.2.2.1).toList = (strOfNums t242).toList then (if (bt264.2.2.2.1.length : Int) = 1 then (if 0 < (bt264.2.2.2.1.length : Int) then (if (rd bt264.2.2.2.1 0) = 0 then (law16_ProductSingle.j0 k t237 t258) else (some false)) else (none)) else (some false)) else (some false)) else (some false)) else (some false)) else (some false))) else (law16_ProductSingle.j0 k t237 t258))) = some r := H
  have A5 := Aside0.mk A50
  clear A50
  replace H := Option.bind_eq_some_iff.mp H
  obtain ⟨t260, A60, H⟩ := H
  replace H : (if t260 = true then ((product_Lay.f k (([(⟨t240, t241, t242, t245, t248, t251, t254, t257⟩ : S31)] : List (S31)))).bind fun bt264 => (if bt264.2.2.2.2.2.2.2.2 = 0 then (if bt264.1 = t240 then (if bt264.2.1 = t241 then (if (strOfNums bt264.2.2.1).toList = (strOfNums t242).toList then (if (bt264.2.2.2.1.length : Int) = 1 then (if 0 < (bt264.2.2.2.1.length : Int) then (if (rd bt264.2.2.2.1 0) = 0 then (law16_ProductSingle.j0 k t237 t258) else (some false)) else (none)) else (some false)) else (some false)) else (some false)) else (some false)) else (some false))) else (law16_ProductSingle.j0 k t237 t258)) = some r := H
  have A6 := Aside0.mk A60
  clear A60
  have HC7 := Aside0.mk H
  clear H
  go_enter Try.func5, Try.ntmps5
  go_upto_if 26 with (first | ((with_reducible refine gate_callee (f := 18) rfl ?_); refine goesL_ (some 18) rfl rfl Try.func18 (by kernel_rfl) rfl #[.slice A0 l0.length c0] rfl (by (try simp only [List.map_toArray, List.map_cons, List.map_nil]); first | done | rfl | (simp only [List.length_drop, List.length_take]; rfl)) ?_; (with_reducible refine (made_Light.calls _ _ l0 true _ ?side1 ?side2 A2.out).mono ?_); (case side1 => repeat (first | exact HR0.out | (with_reducible refine Kd.C_alloc ?_ _) | (with_reducible refine Kd.C_drewN ?_ _) | (with_reducible refine Kd.C_drew ?_))); (case side2 => exact HC0.out); rintro e w' ⟨rfl, ⟨nd, rfl⟩⟩; refine ⟨_, rfl, ?_⟩) | ((with_reducible refine gate_callee (f := 20) rfl ?_); refine goesL_ (some 22) rfl rfl Try.func20 (by kernel_rfl) rfl #[.slice A0 l0.length c0] rfl (by (try simp only [List.map_toArray, List.map_cons, List.map_nil]); first | done | rfl | (simp only [List.length_drop, List.length_take]; rfl)) ?_; (with_reducible refine (made_Roll.calls _ _ l0 t237 t238 w _ ?side1 ?side2 ?side3 A4.out).mono ?_); (case side1 => repeat (first | (with_reducible first | exact HB.out | apply below_alloc | apply pw_below_drewN | apply below_drew1) | exact HB.out)); (case side2 => exact HR0.out); (case side3 => exact HC0.out); rintro e w8 ⟨g239, rfl, hi, hb, hb2⟩; refine ⟨_, rfl, ?_⟩; have n0_ := Aside0.mk (hb); have n1_ := Aside0.mk (hi); clear HB; have HB := n0_; have HI239 := n1_; clear n0_ n1_; (try clear hb); (try clear hb2); (try clear hk); (try clear hi)) | ((with_reducible refine gate_callee (f := 22) rfl ?_); refine goesL_ (some 24) rfl rfl Try.func22 (by kernel_rfl) rfl #[.pointer (some ⟨g239, 0, none⟩)] rfl (by (try simp only [List.map_toArray, List.map_cons, List.map_nil]); first | done | rfl | (simp only [List.length_drop, List.length_take]; rfl)) ?_; (with_reducible refine (made_Dice_Layout.calls k g239 t237 t238 t240 t241 t242 t245 t248 t251 t254 t257 t258 w _ ?side1 ?side2 A5.out).mono ?_); (case side1 => repeat (first | (with_reducible first | exact HI239.out | apply IsS84.alloc | apply IsS84.drewN | apply IsS84.drew | apply IsS84.set_1) | exact HI239.out)); (case side2 => repeat (first | (with_reducible first | exact HB.out | apply below_alloc | apply pw_below_drewN | apply below_drew1 | refine below_set ?_ (IsS84.ge HI239.out)) | exact HB.out)); rintro e w9 ⟨v243, v246, v249, v252, v255, rfl, ho0, ho1, ho2, ho3, ho4, hi, hb, hk⟩; refine ⟨_, rfl, ?_⟩; have n0_ := Aside0.mk (Kd.R_lower (Kd.R_mono (ok' := fun k_ => True) ho0 (fun _ hk_ => trivial)) (below_size (by repeat (first | (with_reducible first | exact HB.out | apply below_alloc | apply pw_below_drewN | apply below_drew1 | refine below_set ?_ (IsS84.ge HI239.out)) | exact HB.out)))); have n1_ := Aside0.mk (Kd.R_lower (Kd.R_mono (ok' := fun k_ => some k_ ≠ (v255 : Value).ownBlock) ho1 (fun _ hk_ => hk_.2)) (below_size (by repeat (first | (with_reducible first | exact HB.out | apply below_alloc | apply pw_below_drewN | apply below_drew1 | refine below_set ?_ (IsS84.ge HI239.out)) | exact HB.out)))); have n2_ := Aside0.mk (Kd.N_lower (Kd.N_mono (ok' := fun k_ => some k_ ≠ (v243 : Value).ownBlock ∧ some k_ ≠ (v246 : Value).ownBlock ∧ some k_ ≠ (v252 : Value).ownBlock ∧ some k_ ≠ (v255 : Value).ownBlock ∧ k_ ≠ g239) ho2 (fun k_ hk_ => ⟨hk_.2.1, hk_.2.2.1, hk_.2.2.2.1, hk_.2.2.2.2, (IsS84.fresh (by repeat (first | (with_reducible first | exact HI239.out | apply IsS84.alloc | apply IsS84.drewN | apply IsS84.drew | apply IsS84.set_1) | exact HI239.out)) k_ hk_.1)⟩)) (below_size (by repeat (first | (with_reducible first | exact HB.out | apply below_alloc | apply pw_below_drewN | apply below_drew1 | refine below_set ?_ (IsS84.ge HI239.out)) | exact HB.out)))); have n3_ := Aside0.mk (Kd.N_lower (Kd.N_mono (ok' := fun k_ => some k_ ≠ (v243 : Value).ownBlock ∧ some k_ ≠ (v246 : Value).ownBlock ∧ some k_ ≠ (v249 : Value).ownBlock ∧ some k_ ≠ (v255 : Value).ownBlock ∧ k_ ≠ g239) ho3 (fun k_ hk_ => ⟨hk_.2.1, hk_.2.2.1, hk_.2.2.2.1, hk_.2.2.2.2, (IsS84.fresh (by repeat (first | (with_reducible first | exact HI239.out | apply IsS84.alloc | apply IsS84.drewN | apply IsS84.drew | apply IsS84.set_1) | exact HI239.out)) k_ hk_.1)⟩)) (below_size (by repeat (first | (with_reducible first | exact HB.out | apply below_alloc | apply pw_below_drewN | apply below_drew1 | refine below_set ?_ (IsS84.ge HI239.out)) | exact HB.out)))); have n4_ := Aside0.mk (Kd.R_lower (Kd.R_mono (ok' := fun k_ => some k_ ≠ (v246 : Value).ownBlock) ho4 (fun _ hk_ => hk_.2)) (below_size (by repeat (first | (with_reducible first | exact HB.out | apply below_alloc | apply pw_below_drewN | apply below_drew1 | refine below_set ?_ (IsS84.ge HI239.out)) | exact HB.out)))); have n5_ := Aside0.mk (hb); have n6_ := Aside0.mk (hi); clear HB HI239; have HO244 := n0_; have HO247 := n1_; have HO250 := n2_; have HO253 := n3_; have HO256 := n4_; have HB := n5_; have HI239 := n6_; clear n0_ n1_ n2_ n3_ n4_ n5_ n6_; (try clear hb); (try clear hb2); (try clear hk); (try clear hi); (try clear ho0); (try clear ho1); (try clear ho2); (try clear ho3); (try clear ho4)) | ((with_reducible refine gate_dst (N := 4) rfl ?_); (try (refine gate_guard (by rfl) ?_; dsimp only)); refine box_event ?hg (N := 4) ?hd (cs := #[.int .i64 0, .int .i64 0, .slice none 0 0, .slice none 0 0, .slice none 0 0, .slice none 0 0, .slice none 0 0, .bool false]) (t := 31) ?hr ?_; (case hd => rfl); (case hg => rfl); (case hr => first | (go_simp; done) | (go_simp; rfl)); intro gb259 hg w10 hbox hb; have n0_ := Aside0.mk (Kd.R_below (kR_ HO244.out) hb); have n1_ := Aside0.mk (Kd.R_below (kR_ HO247.out) hb); have n2_ := Aside0.mk (Kd.N_below (Kd.N_elderB (kN_ HO250.out) gb259 (Nat.le_of_eq hg.symm)) hb); have n3_ := Aside0.mk (Kd.N_below (Kd.N_elderB (kN_ HO253.out) gb259 (Nat.le_of_eq hg.symm)) hb); have n4_ := Aside0.mk (Kd.R_below (kR_ HO256.out) hb); have n5_ := Aside0.mk (IsS84.below (by repeat (first | (with_reducible first | exact HI239.out | apply IsS84.alloc | apply IsS84.drewN | apply IsS84.drew | apply IsS84.set_1) | exact HI239.out)) hb); have n6_ := Aside0.mk (below_step (by repeat (first | (with_reducible first | exact HB.out | apply below_alloc | apply pw_below_drewN | apply below_drew1 | refine below_set ?_ (IsS84.ge HI239.out)) | exact HB.out)) hb); have n7_ := Aside0.mk (hbox); have n8_ := Aside0.mk ((by rw [hg]; exact (below_size (by repeat (first | (with_reducible first | exact HB.out | apply below_alloc | apply pw_below_drewN | apply below_drew1 | refine below_set ?_ (IsS84.ge HI239.out)) | exact HB.out))) : w.heap.size ≤ gb259)); have n9_ := Aside0.mk ((by rw [hg]; exact (below_size (by repeat (first | (with_reducible first | exact HB.out | apply below_alloc | apply pw_below_drewN | apply below_drew1 | refine below_set ?_ (IsS84.ge HI239.out)) | exact HB.out))) : w.heap.size ≤ gb259)); have n10_ := Aside0.mk ((by rw [hg]; exact Nat.ne_of_lt (IsS84.lt (show IsS84 w _ g239 t237 t258 from by repeat (first | (with_reducible first | exact HI239.out | apply IsS84.alloc | apply IsS84.drewN | apply IsS84.drew | apply IsS84.set_1) | exact HI239.out))) : g239 ≠ gb259)); have n11_ := Aside0.mk ((by rw [hg]; exact Nat.ne_of_gt (IsS84.lt (show IsS84 w _ g239 t237 t258 from by repeat (first | (with_reducible first | exact HI239.out | apply IsS84.alloc | apply IsS84.drewN | apply IsS84.drew | apply IsS84.set_1) | exact HI239.out))) : gb259 ≠ g239)); clear HO244 HO247 HO250 HO253 HO256 HI239 HB; have HO244 := n0_; have HO247 := n1_; have HO250 := n2_; have HO253 := n3_; have HO256 := n4_; have HI239 := n5_; have HB := n6_; have BK259 := n7_; have GW259 := n8_; have GE259 := n9_; have NB239_259 := n10_; have NB259_239 := n11_; clear n0_ n1_ n2_ n3_ n4_ n5_ n6_ n7_ n8_ n9_ n10_ n11_ hb hbox hg; have hnb11 := NB259_239.out; have hnc11 := NB239_259.out; have hcz12_0 : w10.cell? ⟨gb259, 0, none⟩ = some (.int .i64 0) := (blk_cell BK259.out 0).trans rfl; have hcz12_1 : w10.cell? ⟨gb259, 1, none⟩ = some (.int .i64 0) := (blk_cell BK259.out 1).trans rfl; have hcz12_2 : w10.cell? ⟨gb259, 2, none⟩ = some (.slice none 0 0) := (blk_cell BK259.out 2).trans rfl; have hcz12_3 : w10.cell? ⟨gb259, 3, none⟩ = some (.slice none 0 0) := (blk_cell BK259.out 3).trans rfl; have hcz12_4 : w10.cell? ⟨gb259, 4, none⟩ = some (.slice none 0 0) := (blk_cell BK259.out 4).trans rfl; have hcz12_5 : w10.cell? ⟨gb259, 5, none⟩ = some (.slice none 0 0) := (blk_cell BK259.out 5).trans rfl; have hcz12_6 : w10.cell? ⟨gb259, 6, none⟩ = some (.slice none 0 0) := (blk_cell BK259.out 6).trans rfl; have hcz12_7 : w10.cell? ⟨gb259, 7, none⟩ = some (.bool false) := (blk_cell BK259.out 7).trans rfl; have hfz12_0 := blk_frozen BK259.out 0; have hfz12_1 := blk_frozen BK259.out 1; have hfz12_2 := blk_frozen BK259.out 2; have hfz12_3 := blk_frozen BK259.out 3; have hfz12_4 := blk_frozen BK259.out 4; have hfz12_5 := blk_frozen BK259.out 5; have hfz12_6 := blk_frozen BK259.out 6; have hfz12_7 := blk_frozen BK259.out 7; obtain ⟨Ao13, co13, eo13⟩ := Kd.R_slice HO244.out; subst eo13; obtain ⟨Ao14, co14, eo14⟩ := Kd.R_slice HO247.out; subst eo14; obtain ⟨Ao15, co15, eo15⟩ := Kd.N_slice HO250.out; subst eo15; obtain ⟨Ao16, co16, eo16⟩ := Kd.N_slice HO253.out; subst eo16; obtain ⟨Ao17, co17, eo17⟩ := Kd.R_slice HO256.out; subst eo17) | ((with_reducible refine gate_callee (f := 27) rfl ?_); refine goesL_ (some 26) rfl rfl Try.func27 (by kernel_rfl) rfl #[.agg #[.int .i64 t240, .int .i64 t241, .slice Ao13 t242.length co13, .slice Ao14 t245.length co14, .slice Ao15 t248.length co15, .slice Ao16 t251.length co16, .slice Ao17 t254.length co17, .bool t257]] rfl (by (try simp only [List.map_toArray, List.map_cons, List.map_nil]); first | done | rfl | (simp only [List.length_drop, List.length_take]; rfl)) ?_; (with_reducible refine (ref15_Valid.calls t240 t241 _ _ t242 _ _ t245 _ _ t248 _ _ t251 _ _ t254 t257 t260 _ ?side1 ?side2 ?side3 ?side4 ?side5 ?side6 ?side7 ?side8 ?side9 ?side10 A6.out).mono ?_); (case side1 => refine (Kd.R_reads' (e := 5) (base := w.heap.size) (ok := fun k_ => True) (n := t242.length) (c := co13) ?_).2.2; exact (by (with_reducible repeat (first | apply Kd.R_alloc | apply Kd.R_drewN | apply Kd.R_drew)); exact (Kd.R_mono (Kd.R_far (p := ⟨gb259, 7, none⟩) (Kd.R_far (p := ⟨gb259, 6, none⟩) (Kd.R_far (p := ⟨gb259, 5, none⟩) (Kd.R_far (p := ⟨gb259, 4, none⟩) (Kd.R_far (p := ⟨gb259, 3, none⟩) (Kd.R_far (p := ⟨gb259, 2, none⟩) (Kd.R_far (p := ⟨gb259, 1, none⟩) (Kd.R_far (p := ⟨gb259, 0, none⟩) (Kd.R_types HO244.out BK259.out (by decide)) (fun _ hk => hk.2) (.int .i64 t240)) (fun _ hk => hk.2) (.int .i64 t241)) (fun _ hk => hk.2) (.slice Ao13 t242.length co13)) (fun _ hk => hk.2) (.slice Ao14 t245.length co14)) (fun _ hk => hk.2) (.slice Ao15 t248.length co15)) (fun _ hk => hk.2) (.slice Ao16 t251.length co16)) (fun _ hk => hk.2) (.slice Ao17 t254.length co17)) (fun _ hk => hk.2) (.bool t257)) (fun _ h_ => h_.1)))); (case side2 => exact (Kd.R_reads' HO244.out).2.1); (case side3 => refine (Kd.R_reads' (e := 3) (base := w.heap.size) (ok := fun k_ => some k_ ≠ (.slice Ao17 t254.length co17 : Value).ownBlock) (n := t245.length) (c := co14) ?_).2.2; exact (by (with_reducible repeat (first | apply Kd.R_alloc | apply Kd.R_drewN | apply Kd.R_drew)); exact (Kd.R_mono (Kd.R_far (p := ⟨gb259, 7, none⟩) (Kd.R_far (p := ⟨gb259, 6, none⟩) (Kd.R_far (p := ⟨gb259, 5, none⟩) (Kd.R_far (p := ⟨gb259, 4, none⟩) (Kd.R_far (p := ⟨gb259, 3, none⟩) (Kd.R_far (p := ⟨gb259, 2, none⟩) (Kd.R_far (p := ⟨gb259, 1, none⟩) (Kd.R_far (p := ⟨gb259, 0, none⟩) (Kd.R_types HO247.out BK259.out (by decide)) (fun _ hk => hk.2) (.int .i64 t240)) (fun _ hk => hk.2) (.int .i64 t241)) (fun _ hk => hk.2) (.slice Ao13 t242.length co13)) (fun _ hk => hk.2) (.slice Ao14 t245.length co14)) (fun _ hk => hk.2) (.slice Ao15 t248.length co15)) (fun _ hk => hk.2) (.slice Ao16 t251.length co16)) (fun _ hk => hk.2) (.slice Ao17 t254.length co17)) (fun _ hk => hk.2) (.bool t257)) (fun _ h_ => h_.1)))); (case side4 => exact (Kd.R_reads' HO247.out).2.1); (case side5 => refine (Kd.N_reads' (e := 101) (base := w.heap.size) (ok := fun k_ => ((some k_ ≠ (.slice Ao13 t242.length co13 : Value).ownBlock ∧ (some k_ ≠ (.slice Ao14 t245.length co14 : Value).ownBlock ∧ (some k_ ≠ (.slice Ao16 t251.length co16 : Value).ownBlock ∧ (some k_ ≠ (.slice Ao17 t254.length co17 : Value).ownBlock ∧ k_ ≠ g239)))) ∧ k_ ≠ gb259)) (n := t248.length) (c := co15) ?_).2.2; exact (by (with_reducible repeat (first | apply Kd.N_alloc | apply Kd.N_drewN | apply Kd.N_drew)); exact (Kd.N_mono (Kd.N_far (p := ⟨gb259, 7, none⟩) (Kd.N_far (p := ⟨gb259, 6, none⟩) (Kd.N_far (p := ⟨gb259, 5, none⟩) (Kd.N_far (p := ⟨gb259, 4, none⟩) (Kd.N_far (p := ⟨gb259, 3, none⟩) (Kd.N_far (p := ⟨gb259, 2, none⟩) (Kd.N_far (p := ⟨gb259, 1, none⟩) (Kd.N_far (p := ⟨gb259, 0, none⟩) (Kd.N_mono HO250.out (fun k_ hk => (⟨hk, hk.2⟩ : _ ∧ k_ ≠ gb259))) (fun _ hk => hk.2) (.int .i64 t240)) (fun _ hk => hk.2) (.int .i64 t241)) (fun _ hk => hk.2) (.slice Ao13 t242.length co13)) (fun _ hk => hk.2) (.slice Ao14 t245.length co14)) (fun _ hk => hk.2) (.slice Ao15 t248.length co15)) (fun _ hk => hk.2) (.slice Ao16 t251.length co16)) (fun _ hk => hk.2) (.slice Ao17 t254.length co17)) (fun _ hk => hk.2) (.bool t257)) (fun _ h_ => h_.1)))); (case side6 => exact (Kd.N_reads' HO250.out).2.1); (case side7 => refine (Kd.N_reads' (e := 79) (base := w.heap.size) (ok := fun k_ => ((some k_ ≠ (.slice Ao13 t242.length co13 : Value).ownBlock ∧ (some k_ ≠ (.slice Ao14 t245.length co14 : Value).ownBlock ∧ (some k_ ≠ (.slice Ao15 t248.length co15 : Value).ownBlock ∧ (some k_ ≠ (.slice Ao17 t254.length co17 : Value).ownBlock ∧ k_ ≠ g239)))) ∧ k_ ≠ gb259)) (n := t251.length) (c := co16) ?_).2.2; exact (by (with_reducible repeat (first | apply Kd.N_alloc | apply Kd.N_drewN | apply Kd.N_drew)); exact (Kd.N_mono (Kd.N_far (p := ⟨gb259, 7, none⟩) (Kd.N_far (p := ⟨gb259, 6, none⟩) (Kd.N_far (p := ⟨gb259, 5, none⟩) (Kd.N_far (p := ⟨gb259, 4, none⟩) (Kd.N_far (p := ⟨gb259, 3, none⟩) (Kd.N_far (p := ⟨gb259, 2, none⟩) (Kd.N_far (p := ⟨gb259, 1, none⟩) (Kd.N_far (p := ⟨gb259, 0, none⟩) (Kd.N_mono HO253.out (fun k_ hk => (⟨hk, hk.2⟩ : _ ∧ k_ ≠ gb259))) (fun _ hk => hk.2) (.int .i64 t240)) (fun _ hk => hk.2) (.int .i64 t241)) (fun _ hk => hk.2) (.slice Ao13 t242.length co13)) (fun _ hk => hk.2) (.slice Ao14 t245.length co14)) (fun _ hk => hk.2) (.slice Ao15 t248.length co15)) (fun _ hk => hk.2) (.slice Ao16 t251.length co16)) (fun _ hk => hk.2) (.slice Ao17 t254.length co17)) (fun _ hk => hk.2) (.bool t257)) (fun _ h_ => h_.1)))); (case side8 => exact (Kd.N_reads' HO253.out).2.1); (case side9 => refine (Kd.R_reads' (e := 3) (base := w.heap.size) (ok := fun k_ => some k_ ≠ (.slice Ao14 t245.length co14 : Value).ownBlock) (n := t254.length) (c := co17) ?_).2.2; exact (by (with_reducible repeat (first | apply Kd.R_alloc | apply Kd.R_drewN | apply Kd.R_drew)); exact (Kd.R_mono (Kd.R_far (p := ⟨gb259, 7, none⟩) (Kd.R_far (p := ⟨gb259, 6, none⟩) (Kd.R_far (p := ⟨gb259, 5, none⟩) (Kd.R_far (p := ⟨gb259, 4, none⟩) (Kd.R_far (p := ⟨gb259, 3, none⟩) (Kd.R_far (p := ⟨gb259, 2, none⟩) (Kd.R_far (p := ⟨gb259, 1, none⟩) (Kd.R_far (p := ⟨gb259, 0, none⟩) (Kd.R_types HO256.out BK259.out (by decide)) (fun _ hk => hk.2) (.int .i64 t240)) (fun _ hk => hk.2) (.int .i64 t241)) (fun _ hk => hk.2) (.slice Ao13 t242.length co13)) (fun _ hk => hk.2) (.slice Ao14 t245.length co14)) (fun _ hk => hk.2) (.slice Ao15 t248.length co15)) (fun _ hk => hk.2) (.slice Ao16 t251.length co16)) (fun _ hk => hk.2) (.slice Ao17 t254.length co17)) (fun _ hk => hk.2) (.bool t257)) (fun _ h_ => h_.1)))); (case side10 => exact (Kd.R_reads' HO256.out).2.1); rintro e w18 ⟨rfl, hb⟩; refine ⟨_, rfl, ?_⟩; have n0_ := Aside0.mk (Kd.R_below (by (with_reducible repeat (first | apply Kd.R_alloc | apply Kd.R_drewN | apply Kd.R_drew)); exact (Kd.R_mono (Kd.R_far (p := ⟨gb259, 7, none⟩) (Kd.R_far (p := ⟨gb259, 6, none⟩) (Kd.R_far (p := ⟨gb259, 5, none⟩) (Kd.R_far (p := ⟨gb259, 4, none⟩) (Kd.R_far (p := ⟨gb259, 3, none⟩) (Kd.R_far (p := ⟨gb259, 2, none⟩) (Kd.R_far (p := ⟨gb259, 1, none⟩) (Kd.R_far (p := ⟨gb259, 0, none⟩) (Kd.R_types HO244.out BK259.out (by decide)) (fun _ hk => hk.2) (.int .i64 t240)) (fun _ hk => hk.2) (.int .i64 t241)) (fun _ hk => hk.2) (.slice Ao13 t242.length co13)) (fun _ hk => hk.2) (.slice Ao14 t245.length co14)) (fun _ hk => hk.2) (.slice Ao15 t248.length co15)) (fun _ hk => hk.2) (.slice Ao16 t251.length co16)) (fun _ hk => hk.2) (.slice Ao17 t254.length co17)) (fun _ hk => hk.2) (.bool t257)) (fun _ h_ => h_.1))) hb); have n1_ := Aside0.mk (Kd.R_below (by (with_reducible repeat (first | apply Kd.R_alloc | apply Kd.R_drewN | apply Kd.R_drew)); exact (Kd.R_mono (Kd.R_far (p := ⟨gb259, 7, none⟩) (Kd.R_far (p := ⟨gb259, 6, none⟩) (Kd.R_far (p := ⟨gb259, 5, none⟩) (Kd.R_far (p := ⟨gb259, 4, none⟩) (Kd.R_far (p := ⟨gb259, 3, none⟩) (Kd.R_far (p := ⟨gb259, 2, none⟩) (Kd.R_far (p := ⟨gb259, 1, none⟩) (Kd.R_far (p := ⟨gb259, 0, none⟩) (Kd.R_types HO247.out BK259.out (by decide)) (fun _ hk => hk.2) (.int .i64 t240)) (fun _ hk => hk.2) (.int .i64 t241)) (fun _ hk => hk.2) (.slice Ao13 t242.length co13)) (fun _ hk => hk.2) (.slice Ao14 t245.length co14)) (fun _ hk => hk.2) (.slice Ao15 t248.length co15)) (fun _ hk => hk.2) (.slice Ao16 t251.length co16)) (fun _ hk => hk.2) (.slice Ao17 t254.length co17)) (fun _ hk => hk.2) (.bool t257)) (fun _ h_ => h_.1))) hb); have n2_ := Aside0.mk (Kd.N_below (by (with_reducible repeat (first | apply Kd.N_alloc | apply Kd.N_drewN | apply Kd.N_drew)); exact (Kd.N_mono (Kd.N_far (p := ⟨gb259, 7, none⟩) (Kd.N_far (p := ⟨gb259, 6, none⟩) (Kd.N_far (p := ⟨gb259, 5, none⟩) (Kd.N_far (p := ⟨gb259, 4, none⟩) (Kd.N_far (p := ⟨gb259, 3, none⟩) (Kd.N_far (p := ⟨gb259, 2, none⟩) (Kd.N_far (p := ⟨gb259, 1, none⟩) (Kd.N_far (p := ⟨gb259, 0, none⟩) (Kd.N_mono HO250.out (fun k_ hk => (⟨hk, hk.2⟩ : _ ∧ k_ ≠ gb259))) (fun _ hk => hk.2) (.int .i64 t240)) (fun _ hk => hk.2) (.int .i64 t241)) (fun _ hk => hk.2) (.slice Ao13 t242.length co13)) (fun _ hk => hk.2) (.slice Ao14 t245.length co14)) (fun _ hk => hk.2) (.slice Ao15 t248.length co15)) (fun _ hk => hk.2) (.slice Ao16 t251.length co16)) (fun _ hk => hk.2) (.slice Ao17 t254.length co17)) (fun _ hk => hk.2) (.bool t257)) (fun _ h_ => h_.1))) hb); have n3_ := Aside0.mk (Kd.N_below (by (with_reducible repeat (first | apply Kd.N_alloc | apply Kd.N_drewN | apply Kd.N_drew)); exact (Kd.N_mono (Kd.N_far (p := ⟨gb259, 7, none⟩) (Kd.N_far (p := ⟨gb259, 6, none⟩) (Kd.N_far (p := ⟨gb259, 5, none⟩) (Kd.N_far (p := ⟨gb259, 4, none⟩) (Kd.N_far (p := ⟨gb259, 3, none⟩) (Kd.N_far (p := ⟨gb259, 2, none⟩) (Kd.N_far (p := ⟨gb259, 1, none⟩) (Kd.N_far (p := ⟨gb259, 0, none⟩) (Kd.N_mono HO253.out (fun k_ hk => (⟨hk, hk.2⟩ : _ ∧ k_ ≠ gb259))) (fun _ hk => hk.2) (.int .i64 t240)) (fun _ hk => hk.2) (.int .i64 t241)) (fun _ hk => hk.2) (.slice Ao13 t242.length co13)) (fun _ hk => hk.2) (.slice Ao14 t245.length co14)) (fun _ hk => hk.2) (.slice Ao15 t248.length co15)) (fun _ hk => hk.2) (.slice Ao16 t251.length co16)) (fun _ hk => hk.2) (.slice Ao17 t254.length co17)) (fun _ hk => hk.2) (.bool t257)) (fun _ h_ => h_.1))) hb); have n4_ := Aside0.mk (Kd.R_below (by (with_reducible repeat (first | apply Kd.R_alloc | apply Kd.R_drewN | apply Kd.R_drew)); exact (Kd.R_mono (Kd.R_far (p := ⟨gb259, 7, none⟩) (Kd.R_far (p := ⟨gb259, 6, none⟩) (Kd.R_far (p := ⟨gb259, 5, none⟩) (Kd.R_far (p := ⟨gb259, 4, none⟩) (Kd.R_far (p := ⟨gb259, 3, none⟩) (Kd.R_far (p := ⟨gb259, 2, none⟩) (Kd.R_far (p := ⟨gb259, 1, none⟩) (Kd.R_far (p := ⟨gb259, 0, none⟩) (Kd.R_types HO256.out BK259.out (by decide)) (fun _ hk => hk.2) (.int .i64 t240)) (fun _ hk => hk.2) (.int .i64 t241)) (fun _ hk => hk.2) (.slice Ao13 t242.length co13)) (fun _ hk => hk.2) (.slice Ao14 t245.length co14)) (fun _ hk => hk.2) (.slice Ao15 t248.length co15)) (fun _ hk => hk.2) (.slice Ao16 t251.length co16)) (fun _ hk => hk.2) (.slice Ao17 t254.length co17)) (fun _ hk => hk.2) (.bool t257)) (fun _ h_ => h_.1))) hb); have n5_ := Aside0.mk (IsS84.below (show IsS84 w ((((((((w10.setCell ⟨gb259, 0, none⟩ (.int .i64 t240)).setCell ⟨gb259, 1, none⟩ (.int .i64 t241)).setCell ⟨gb259, 2, none⟩ (.slice Ao13 t242.length co13)).setCell ⟨gb259, 3, none⟩ (.slice Ao14 t245.length co14)).setCell ⟨gb259, 4, none⟩ (.slice Ao15 t248.length co15)).setCell ⟨gb259, 5, none⟩ (.slice Ao16 t251.length co16)).setCell ⟨gb259, 6, none⟩ (.slice Ao17 t254.length co17)).setCell ⟨gb259, 7, none⟩ (.bool t257)) g239 t237 t258 from by repeat (first | (with_reducible first | exact HI239.out | apply IsS84.alloc | apply IsS84.drewN | apply IsS84.drew | apply IsS84.set_1 | refine IsS84.far ?_ NB239_259.out _) | exact HI239.out)) hb); have n6_ := Aside0.mk (blk_below (g := gb259) (o := .cells #[.int .i64 t240, .int .i64 t241, .slice Ao13 t242.length co13, .slice Ao14 t245.length co14, .slice Ao15 t248.length co15, .slice Ao16 t251.length co16, .slice Ao17 t254.length co17, .bool t257] 31 (0, 0)) (by (with_reducible repeat (first | refine blk_drewN ?_ _ | refine blk_drew ?_ | refine blk_alloc ?_ _)); refine blk_put (cs := #[.int .i64 t240, .int .i64 t241, .slice Ao13 t242.length co13, .slice Ao14 t245.length co14, .slice Ao15 t248.length co15, .slice Ao16 t251.length co16, .slice Ao17 t254.length co17, .bool false]) ?_ 7 _ rfl; (with_reducible repeat (first | refine blk_drewN ?_ _ | refine blk_drew ?_ | refine blk_alloc ?_ _)); refine blk_put (cs := #[.int .i64 t240, .int .i64 t241, .slice Ao13 t242.length co13, .slice Ao14 t245.length co14, .slice Ao15 t248.length co15, .slice Ao16 t251.length co16, .slice none 0 0, .bool false]) ?_ 6 _ rfl; (with_reducible repeat (first | refine blk_drewN ?_ _ | refine blk_drew ?_ | refine blk_alloc ?_ _)); refine blk_put (cs := #[.int .i64 t240, .int .i64 t241, .slice Ao13 t242.length co13, .slice Ao14 t245.length co14, .slice Ao15 t248.length co15, .slice none 0 0, .slice none 0 0, .bool false]) ?_ 5 _ rfl; (with_reducible repeat (first | refine blk_drewN ?_ _ | refine blk_drew ?_ | refine blk_alloc ?_ _)); refine blk_put (cs := #[.int .i64 t240, .int .i64 t241, .slice Ao13 t242.length co13, .slice Ao14 t245.length co14, .slice none 0 0, .slice none 0 0, .slice none 0 0, .bool false]) ?_ 4 _ rfl; (with_reducible repeat (first | refine blk_drewN ?_ _ | refine blk_drew ?_ | refine blk_alloc ?_ _)); refine blk_put (cs := #[.int .i64 t240, .int .i64 t241, .slice Ao13 t242.length co13, .slice none 0 0, .slice none 0 0, .slice none 0 0, .slice none 0 0, .bool false]) ?_ 3 _ rfl; (with_reducible repeat (first | refine blk_drewN ?_ _ | refine blk_drew ?_ | refine blk_alloc ?_ _)); refine blk_put (cs := #[.int .i64 t240, .int .i64 t241, .slice none 0 0, .slice none 0 0, .slice none 0 0, .slice none 0 0, .slice none 0 0, .bool false]) ?_ 2 _ rfl; (with_reducible repeat (first | refine blk_drewN ?_ _ | refine blk_drew ?_ | refine blk_alloc ?_ _)); refine blk_put (cs := #[.int .i64 t240, .int .i64 0, .slice none 0 0, .slice none 0 0, .slice none 0 0, .slice none 0 0, .slice none 0 0, .bool false]) ?_ 1 _ rfl; (with_reducible repeat (first | refine blk_drewN ?_ _ | refine blk_drew ?_ | refine blk_alloc ?_ _)); refine blk_put (cs := #[.int .i64 0, .int .i64 0, .slice none 0 0, .slice none 0 0, .slice none 0 0, .slice none 0 0, .slice none 0 0, .bool false]) ?_ 0 _ rfl; (with_reducible repeat (first | refine blk_drewN ?_ _ | refine blk_drew ?_ | refine blk_alloc ?_ _)); exact BK259.out) hb); have n7_ := Aside0.mk (below_step (by repeat (first | (with_reducible first | exact HB.out | apply below_alloc | apply pw_below_drewN | apply below_drew1 | refine below_set ?_ (IsS84.ge HI239.out) | refine below_set ?_ GE259.out) | exact HB.out)) hb); clear HO244 HO247 HO250 HO253 HO256 HI239 BK259 HB; have HO244 := n0_; have HO247 := n1_; have HO250 := n2_; have HO253 := n3_; have HO256 := n4_; have HI239 := n5_; have BK259 := n6_; have HB := n7_; clear n0_ n1_ n2_ n3_ n4_ n5_ n6_ n7_; (try clear hb); (try clear hb2); (try clear hk); (try clear hi)))
  (try simp only [Act.put, setIfInBounds_toArray, set_cons_zero, set_cons_succ])
  go_cut [] (fun wc => ∃ (kq : Nat), Aside0 (law16_ProductSingle.j0 kq t237 t258 = some r) ∧ Aside0 (kq ≤ k) ∧ Aside0 (IsS84 w wc g239 t237 t258) ∧ Aside0 (Below w.heap.size w wc))
  case first =>
   have H := HC7.out
   clear HC7
   by_cases c19 : t260 = true
   ·
    subst c19
    have H1 : ((product_Lay.f k (([(⟨t240, t241, t242, t245, t248, t251, t254, t257⟩ : S31)] : List (S31)))).bind fun bt264 => (if bt264.2.2.2.2.2.2.2.2 = 0 then (if bt264.1 = t240 then (if bt264.2.1 = t241 then (if (strOfNums bt264.2.2.1).toList = (strOfNums t242).toList then (if (bt264.2.2.2.1.length : Int) = 1 then (if 0 < (bt264.2.2.2.1.length : Int) then (if (rd bt264.2.2.2.1 0) = 0 then (law16_ProductSingle.j0 k t237 t258) else (some false)) else (none)) else (some false)) else (some false)) else (some false)) else (some false)) else (some false))) = some r := by rw [if_pos rfl] at H; exact H
    clear H
    have H := H1
    clear H1
    obtain ⟨y261, hy261⟩ : ∃ y_ : List (S31), y_ = (([(⟨t240, t241, t242, t245, t248, t251, t254, t257⟩ : S31)] : List (S31))) := ⟨_, rfl⟩
    replace H : ((product_Lay.f k y261).bind fun bt264 => (if bt264.2.2.2.2.2.2.2.2 = 0 then (if bt264.1 = t240 then (if bt264.2.1 = t241 then (if (strOfNums bt264.2.2.1).toList = (strOfNums t242).toList then (if (bt264.2.2.2.1.length : Int) = 1 then (if 0 < (bt264.2.2.2.1.length : Int) then (if (rd bt264.2.2.2.1 0) = 0 then (law16_ProductSingle.j0 k t237 t258) else (some false)) else (none)) else (some false)) else (some false)) else (some false)) else (some false)) else (some false))) = some r := by first | (rw [hy261]; with_reducible exact H) | (have H2_ := (Option.bind_some _ _).symm.trans H; rw [hy261]; with_reducible exact H2_) | (have H2_ := (Option.bind_some _ _).symm.trans H; with_reducible exact H2_) | with_reducible exact H | (rw [hy261]; exact H) | exact H
    have Ny261 := Aside0.mk hy261
    clear hy261
    replace H := Option.bind_eq_some_iff.mp H
    obtain ⟨⟨t264, t265, t266, t269, t272, t275, t278, t281, t282⟩, A200, H⟩ := H
    replace H : (if t282 = 0 then (if t264 = t240 then (if t265 = t241 then (if (strOfNums t266).toList = (strOfNums t242).toList then (if (t269.length : Int) = 1 then (if 0 < (t269.length : Int) then (if (rd t269 0) = 0 then (law16_ProductSingle.j0 k t237 t258) else (some false)) else (none)) else (some false)) else (some false)) else (some false)) else (some false)) else (some false)) = some r := H
    have A20 := Aside0.mk A200
    clear A200
    by_cases c21 : t282 = 0
    rotate_left
    ·
     rw [if_neg c21] at H
     have c21b0 : (t282 == 0) = false := beq_eq_false_iff_ne.mpr c21
     have c21b1 : (t282 != 0) = true := bne_iff_ne.mpr c21
     (first | rw [c21b0] | (simp only [i64_w, i32_w]; rw [c21b0]) | skip)
     exact absurd ((Option.some.inj H).trans hr_) (by decide)
    rw [if_pos c21] at H
    have c21b0 : (t282 == 0) = true := beq_iff_eq.mpr c21
    have c21b1 : (t282 != 0) = false := bne_eq_false_iff_eq.mpr c21
    clear c21
    (first | rw [c21b0] | (simp only [i64_w, i32_w]; rw [c21b0]) | skip)
    by_cases c22 : t264 = t240
    rotate_left
    ·
     rw [if_neg c22] at H
     have c22b0 : (t264 == t240) = false := beq_eq_false_iff_ne.mpr c22
     have c22b1 : (t264 != t240) = true := bne_iff_ne.mpr c22
     exact absurd ((Option.some.inj H).trans hr_) (by decide)
    rw [if_pos c22] at H
    have c22b0 : (t264 == t240) = true := beq_iff_eq.mpr c22
    have c22b1 : (t264 != t240) = false := bne_eq_false_iff_eq.mpr c22
    clear c22
    by_cases c23 : t265 = t241
    rotate_left
    ·
     rw [if_neg c23] at H
     have c23b0 : (t265 == t241) = false := beq_eq_false_iff_ne.mpr c23
     have c23b1 : (t265 != t241) = true := bne_iff_ne.mpr c23
     exact absurd ((Option.some.inj H).trans hr_) (by decide)
    rw [if_pos c23] at H
    have c23b0 : (t265 == t241) = true := beq_iff_eq.mpr c23
    have c23b1 : (t265 != t241) = false := bne_eq_false_iff_eq.mpr c23
    clear c23
    by_cases c24 : (strOfNums t266).toList = (strOfNums t242).toList
    rotate_left
    ·
     rw [if_neg c24] at H
     have c24b0 : ((strOfNums t266).toList == (strOfNums t242).toList) = false := beq_eq_false_iff_ne.mpr c24
     have c24b1 : ((strOfNums t266).toList != (strOfNums t242).toList) = true := bne_iff_ne.mpr c24
     exact absurd ((Option.some.inj H).trans hr_) (by decide)
    rw [if_pos c24] at H
    have c24b0 : ((strOfNums t266).toList == (strOfNums t242).toList) = true := beq_iff_eq.mpr c24
    have c24b1 : ((strOfNums t266).toList != (strOfNums t242).toList) = false := bne_eq_false_iff_eq.mpr c24
    clear c24
    by_cases c25 : (t269.length : Int) = 1
    rotate_left
    ·
     rw [if_neg c25] at H
     have c25b0 : ((t269.length : Int) == 1) = false := beq_eq_false_iff_ne.mpr c25
     have c25b1 : ((t269.length : Int) != 1) = true := bne_iff_ne.mpr c25
     exact absurd ((Option.some.inj H).trans hr_) (by decide)
    rw [if_pos c25] at H
    have c25b0 : ((t269.length : Int) == 1) = true := beq_iff_eq.mpr c25
    have c25b1 : ((t269.length : Int) != 1) = false := bne_eq_false_iff_eq.mpr c25
    clear c25
    by_cases c26 : 0 < (t269.length : Int)
    rotate_left
    ·
     rw [if_neg c26] at H
     exact absurd H (by simp)
    rw [if_pos c26] at H
    have c26b0 : decide (0 < (t269.length : Int)) = true := decide_eq_true c26
    have c26b1 : decide (0 < t269.length) = true := decide_eq_true (by omega)
    clear c26
    by_cases c27 : (rd t269 0) = 0
    rotate_left
    ·
     rw [if_neg c27] at H
     have c27b0 : ((rd t269 0) == 0) = false := beq_eq_false_iff_ne.mpr c27
     have c27b1 : ((rd t269 0) != 0) = true := bne_iff_ne.mpr c27
     exact absurd ((Option.some.inj H).trans hr_) (by decide)
    rw [if_pos c27] at H
    have c27b0 : ((rd t269 0) == 0) = true := beq_iff_eq.mpr c27
    have c27b1 : ((rd t269 0) != 0) = false := bne_eq_false_iff_eq.mpr c27
    clear c27
    have H' := Aside0.mk H
    clear H
    have hnb28 := NB259_239.out
    have hnc28 := NB239_259.out
    have hcz29_0 : w18.cell? ⟨gb259, 0, none⟩ = some (.int .i64 t240) := (blk_cell BK259.out 0).trans rfl
    have hcz29_1 : w18.cell? ⟨gb259, 1, none⟩ = some (.int .i64 t241) := (blk_cell BK259.out 1).trans rfl
    have hcz29_2 : w18.cell? ⟨gb259, 2, none⟩ = some (.slice Ao13 t242.length co13) := (blk_cell BK259.out 2).trans rfl
    have hcz29_3 : w18.cell? ⟨gb259, 3, none⟩ = some (.slice Ao14 t245.length co14) := (blk_cell BK259.out 3).trans rfl
    have hcz29_4 : w18.cell? ⟨gb259, 4, none⟩ = some (.slice Ao15 t248.length co15) := (blk_cell BK259.out 4).trans rfl
    have hcz29_5 : w18.cell? ⟨gb259, 5, none⟩ = some (.slice Ao16 t251.length co16) := (blk_cell BK259.out 5).trans rfl
    have hcz29_6 : w18.cell? ⟨gb259, 6, none⟩ = some (.slice Ao17 t254.length co17) := (blk_cell BK259.out 6).trans rfl
    have hcz29_7 : w18.cell? ⟨gb259, 7, none⟩ = some (.bool t257) := (blk_cell BK259.out 7).trans rfl
    have hfz29_0 := blk_frozen BK259.out 0
    have hfz29_1 := blk_frozen BK259.out 1
    have hfz29_2 := blk_frozen BK259.out 2
    have hfz29_3 := blk_frozen BK259.out 3
    have hfz29_4 := blk_frozen BK259.out 4
    have hfz29_5 := blk_frozen BK259.out 5
    have hfz29_6 := blk_frozen BK259.out 6
    have hfz29_7 := blk_frozen BK259.out 7
    have n_ := Aside0.mk (Kd.V_mono (base := w.heap.size) (ok' := (fun k_ => some k_ ≠ (.slice Ao14 t245.length co14 : Value).ownBlock ∧ some k_ ≠ (.slice Ao15 t248.length co15 : Value).ownBlock ∧ some k_ ≠ (.slice Ao16 t251.length co16 : Value).ownBlock ∧ some k_ ≠ (.slice Ao17 t254.length co17 : Value).ownBlock ∧ k_ ≠ gb259 ∧ k_ ≠ g239)) (Kd.R_V (Kd.R_tight rfl (IsS84.apart HI239.out (Kd.R_types (Kd.R_apart' (Kd.R_apart' (Kd.R_apart' (Kd.R_apart' (HO244.out) (Kd.R_typed HO247.out) (by decide)) (Kd.N_typed HO250.out) (by decide)) (Kd.N_typed HO253.out) (by decide)) (Kd.R_typed HO256.out) (by decide)) BK259.out (by decide)) (by decide)))) (fun k_ hk => ⟨((IsS84.apart HI239.out (Kd.R_types (Kd.R_apart' (Kd.R_apart' (Kd.R_apart' (Kd.R_apart' (HO244.out) (Kd.R_typed HO247.out) (by decide)) (Kd.N_typed HO250.out) (by decide)) (Kd.N_typed HO253.out) (by decide)) (Kd.R_typed HO256.out) (by decide)) BK259.out (by decide)) (by decide)).1 k_ hk.symm).1.1.1.1.1.2, ⟨((IsS84.apart HI239.out (Kd.R_types (Kd.R_apart' (Kd.R_apart' (Kd.R_apart' (Kd.R_apart' (HO244.out) (Kd.R_typed HO247.out) (by decide)) (Kd.N_typed HO250.out) (by decide)) (Kd.N_typed HO253.out) (by decide)) (Kd.R_typed HO256.out) (by decide)) BK259.out (by decide)) (by decide)).1 k_ hk.symm).1.1.1.1.2, ⟨((IsS84.apart HI239.out (Kd.R_types (Kd.R_apart' (Kd.R_apart' (Kd.R_apart' (Kd.R_apart' (HO244.out) (Kd.R_typed HO247.out) (by decide)) (Kd.N_typed HO250.out) (by decide)) (Kd.N_typed HO253.out) (by decide)) (Kd.R_typed HO256.out) (by decide)) BK259.out (by decide)) (by decide)).1 k_ hk.symm).1.1.1.2, ⟨((IsS84.apart HI239.out (Kd.R_types (Kd.R_apart' (Kd.R_apart' (Kd.R_apart' (Kd.R_apart' (HO244.out) (Kd.R_typed HO247.out) (by decide)) (Kd.N_typed HO250.out) (by decide)) (Kd.N_typed HO253.out) (by decide)) (Kd.R_typed HO256.out) (by decide)) BK259.out (by decide)) (by decide)).1 k_ hk.symm).1.1.2, ⟨((IsS84.apart HI239.out (Kd.R_types (Kd.R_apart' (Kd.R_apart' (Kd.R_apart' (Kd.R_apart' (HO244.out) (Kd.R_typed HO247.out) (by decide)) (Kd.N_typed HO250.out) (by decide)) (Kd.N_typed HO253.out) (by decide)) (Kd.R_typed HO256.out) (by decide)) BK259.out (by decide)) (by decide)).1 k_ hk.symm).1.2, ((IsS84.apart HI239.out (Kd.R_types (Kd.R_apart' (Kd.R_apart' (Kd.R_apart' (Kd.R_apart' (HO244.out) (Kd.R_typed HO247.out) (by decide)) (Kd.N_typed HO250.out) (by decide)) (Kd.N_typed HO253.out) (by decide)) (Kd.R_typed HO256.out) (by decide)) BK259.out (by decide)) (by decide)).1 k_ hk.symm).2⟩⟩⟩⟩⟩))
    clear HO244
    have HO244 := n_
    clear n_
    go_wp2_with (first | ((with_reducible refine gate_dst (N := 29) rfl ?_); (try (refine gate_guard (by rfl) ?_; dsimp only)); refine Kd.N_lit k31 _ 31 ?hg (N' := 29) ?hd (xs := ([(⟨t240, t241, t242, t245, t248, t251, t254, t257⟩ : S31)] : List (S31))) (inner := [.int .i64 t240, .int .i64 t241, .slice Ao13 t242.length co13, .slice Ao14 t245.length co14, .slice Ao15 t248.length co15, .slice Ao16 t251.length co16, .slice Ao17 t254.length co17, .bool t257]) (ok := (fun k_ => k_ ≠ gb259 ∧ k_ ≠ g239)) (okp := (fun k_ => k_ ≠ gb259 ∧ k_ ≠ g239)) ?hr ?hp (fun _ hk => hk) ((show ∀ k_, w18.heap.size ≤ k_ → (fun k_ => k_ ≠ gb259 ∧ k_ ≠ g239) k_ from fun k_ hk => ⟨Kd.freshB (g := gb259) (o := .cells #[.int .i64 t240, .int .i64 t241, .slice Ao13 t242.length co13, .slice Ao14 t245.length co14, .slice Ao15 t248.length co15, .slice Ao16 t251.length co16, .slice Ao17 t254.length co17, .bool t257] 31 (0, 0)) (bk_ BK259.out) k_ hk, IsS84.fresh (by repeat (first | (with_reducible first | exact HI239.out | apply IsS84.alloc | apply IsS84.drewN | apply IsS84.drew | apply IsS84.set_1 | refine IsS84.far ?_ NB239_259.out _) | exact HI239.out)) k_ hk⟩) _ (Nat.le_refl _)) (Below.refl _ _) (Nat.le_refl _) (by simp) ?_; (case hd => rfl); (case hg => rfl); (case hr => first | (go_simp; done) | (go_simp; rfl)); (case hp => exact (Reps.c8 (show Kd.FK k31 _ _ (⟨t240, t241, t242, t245, t248, t251, t254, t257⟩ : S31) [.int .i64 t240, .int .i64 t241, .slice Ao13 t242.length co13, .slice Ao14 t245.length co14, .slice Ao15 t248.length co15, .slice Ao16 t251.length co16, .slice Ao17 t254.length co17, .bool t257] from (k31_mkF _ _ (⟨t240, t241, t242, t245, t248, t251, t254, t257⟩ : S31) (Kd.V_reads' (Kd.V_mono (ok' := (fun k_ => k_ ≠ gb259 ∧ k_ ≠ g239)) (HO244.out) (fun k_ hk => ⟨hk.2.2.2.2.1, hk.2.2.2.2.2⟩))).2.1 (Kd.V_F (Kd.V_mono (ok' := (fun k_ => k_ ≠ gb259 ∧ k_ ≠ g239)) (HO244.out) (fun k_ hk => ⟨hk.2.2.2.2.1, hk.2.2.2.2.2⟩))) (Kd.R_reads' (Kd.R_mono (ok' := (fun k_ => k_ ≠ gb259 ∧ k_ ≠ g239)) (IsS84.apart HI239.out (Kd.R_types (HO247.out) BK259.out (by decide)) (by decide)) (fun k_ hk => ⟨hk.1.2, hk.2⟩))).2.1 (Kd.R_F (Kd.R_mono (ok' := (fun k_ => k_ ≠ gb259 ∧ k_ ≠ g239)) (IsS84.apart HI239.out (Kd.R_types (HO247.out) BK259.out (by decide)) (by decide)) (fun k_ hk => ⟨hk.1.2, hk.2⟩))) (Kd.N_reads' (Kd.N_mono (ok' := (fun k_ => k_ ≠ gb259 ∧ k_ ≠ g239)) (HO250.out) (fun k_ hk => ⟨hk.2, hk.1.2.2.2.2⟩))).2.1 (Kd.N_F (Kd.N_mono (ok' := (fun k_ => k_ ≠ gb259 ∧ k_ ≠ g239)) (HO250.out) (fun k_ hk => ⟨hk.2, hk.1.2.2.2.2⟩))) (Kd.N_reads' (Kd.N_mono (ok' := (fun k_ => k_ ≠ gb259 ∧ k_ ≠ g239)) (HO253.out) (fun k_ hk => ⟨hk.2, hk.1.2.2.2.2⟩))).2.1 (Kd.N_F (Kd.N_mono (ok' := (fun k_ => k_ ≠ gb259 ∧ k_ ≠ g239)) (HO253.out) (fun k_ hk => ⟨hk.2, hk.1.2.2.2.2⟩))) (Kd.R_reads' (Kd.R_mono (ok' := (fun k_ => k_ ≠ gb259 ∧ k_ ≠ g239)) (IsS84.apart HI239.out (Kd.R_types (HO256.out) BK259.out (by decide)) (by decide)) (fun k_ hk => ⟨hk.1.2, hk.2⟩))).2.1 (Kd.R_F (Kd.R_mono (ok' := (fun k_ => k_ ≠ gb259 ∧ k_ ≠ g239)) (IsS84.apart HI239.out (Kd.R_types (HO256.out) BK259.out (by decide)) (by decide)) (fun k_ hk => ⟨hk.1.2, hk.2⟩))))) (Reps.none _ _))); intro v262 w30 ho31 hb hg_ hnew_; clear hg_ hnew_; (first | rw [← Ny261.out] at ho31 | (simp only [Int.reduceToNat] at ho31; rw [← Ny261.out] at ho31)); have n0_ := Aside0.mk (Kd.V_elder' (kV_ HO244.out) (Kd.N_base ho31) hb); have n1_ := Aside0.mk (Kd.N_lower ho31 (below_size (by repeat (first | (with_reducible first | exact HB.out | apply below_alloc | apply pw_below_drewN | apply below_drew1 | refine below_set ?_ (IsS84.ge HI239.out) | refine below_set ?_ GE259.out) | exact HB.out)))); have n2_ := Aside0.mk (IsS84.below (by repeat (first | (with_reducible first | exact HI239.out | apply IsS84.alloc | apply IsS84.drewN | apply IsS84.drew | apply IsS84.set_1 | refine IsS84.far ?_ NB239_259.out _) | exact HI239.out)) hb); have n3_ := Aside0.mk (blk_below (g := gb259) (o := .cells #[.int .i64 t240, .int .i64 t241, .slice Ao13 t242.length co13, .slice Ao14 t245.length co14, .slice Ao15 t248.length co15, .slice Ao16 t251.length co16, .slice Ao17 t254.length co17, .bool t257] 31 (0, 0)) (bk_ BK259.out) hb); have n4_ := Aside0.mk (below_step (by repeat (first | (with_reducible first | exact HB.out | apply below_alloc | apply pw_below_drewN | apply below_drew1 | refine below_set ?_ (IsS84.ge HI239.out) | refine below_set ?_ GE259.out) | exact HB.out)) hb); clear HO244 HI239 BK259 HB HO247 HO250 HO253 HO256; have HO244 := n0_; have HO263 := n1_; have HI239 := n2_; have BK259 := n3_; have HB := n4_; clear n0_ n1_ n2_ n3_ n4_ hb ho31; obtain ⟨Ao32, co32, eo32⟩ := Kd.N_slice HO263.out; subst eo32) | ((with_reducible refine gate_callee (f := 24) rfl ?_); refine goesL_ (some 30) rfl rfl Try.func24 (by kernel_rfl) rfl #[.slice Ao32 y261.length co32] rfl (by (try simp only [List.map_toArray, List.map_cons, List.map_nil]); first | done | rfl | (simp only [List.length_drop, List.length_take]; rfl)) ?_; (with_reducible refine (product_Lay.calls k _ _ y261 t264 t265 t266 t269 t272 t275 t278 t281 t282 _ ?side1 ?side2 A20.out).mono ?_); (case side1 => repeat (first | exact (Kd.N_reads' HO263.out).2.2 | (with_reducible refine Kd.C_alloc ?_ _) | (with_reducible refine Kd.C_drewN ?_ _) | (with_reducible refine Kd.C_drew ?_))); (case side2 => exact (Kd.N_reads' HO263.out).2.1); rintro e w33 ⟨v267, v270, v273, v276, v279, rfl, ho0, ho1, ho2, ho3, ho4, hb⟩; refine ⟨_, rfl, ?_⟩; have n0_ := Aside0.mk (Kd.V_mono (Kd.V_told (Kd.V_told (Kd.V_told (Kd.V_told (Kd.V_told (Kd.V_old (kV_ HO244.out) hb) (Kd.R_base ho0)) (Kd.R_base ho1)) (by first | exact Kd.N_base ho2 | exact Kd.R_base ho2)) (by first | exact Kd.N_base ho3 | exact Kd.R_base ho3)) (Kd.R_base ho4)) (fun _ h_ => h_.1)); have n1_ := Aside0.mk (Kd.N_mono (Kd.N_told (Kd.N_told (Kd.N_told (Kd.N_told (Kd.N_told (Kd.N_old (kN_ HO263.out) hb) (Kd.R_base ho0)) (Kd.R_base ho1)) (by first | exact Kd.N_base ho2 | exact Kd.R_base ho2)) (by first | exact Kd.N_base ho3 | exact Kd.R_base ho3)) (Kd.R_base ho4)) (fun _ h_ => h_.1)); have n2_ := Aside0.mk (Kd.R_lower ho0 (below_size (by repeat (first | (with_reducible first | exact HB.out | apply below_alloc | apply pw_below_drewN | apply below_drew1 | refine below_set ?_ (IsS84.ge HI239.out) | refine below_set ?_ GE259.out) | exact HB.out)))); have n3_ := Aside0.mk (Kd.R_lower ho1 (below_size (by repeat (first | (with_reducible first | exact HB.out | apply below_alloc | apply pw_below_drewN | apply below_drew1 | refine below_set ?_ (IsS84.ge HI239.out) | refine below_set ?_ GE259.out) | exact HB.out)))); have n4_ := Aside0.mk (Kd.N_lower (Kd.N_mono (ok' := fun k_ => some k_ ≠ (v267 : Value).ownBlock ∧ some k_ ≠ (v270 : Value).ownBlock ∧ some k_ ≠ (v276 : Value).ownBlock ∧ some k_ ≠ (v279 : Value).ownBlock ∧ some k_ ≠ (.slice Ao32 y261.length co32 : Value).ownBlock ∧ k_ ≠ gb259 ∧ k_ ≠ g239) (Kd.R_N (Kd.R_bound (Kd.R_apart' (Kd.R_apart' (Kd.R_apart' (Kd.R_apart' ho2 (Kd.R_typed ho0) (by decide)) (Kd.R_typed ho1) (by decide)) (Kd.R_typed ho3) (by decide)) (Kd.R_typed ho4) (by decide)))) (fun k_ hk_ => ⟨hk_.1.1.1.1.2, hk_.1.1.1.2, hk_.1.1.2, hk_.1.2, (Kd.fresh' (Kd.N_lt (kN_ HO263.out)) k_ hk_.2.1), (Kd.freshB (g := gb259) (o := .cells #[.int .i64 t240, .int .i64 t241, .slice Ao13 t242.length co13, .slice Ao14 t245.length co14, .slice Ao15 t248.length co15, .slice Ao16 t251.length co16, .slice Ao17 t254.length co17, .bool t257] 31 (0, 0)) (bk_ BK259.out) k_ hk_.2.1), (IsS84.fresh (by repeat (first | (with_reducible first | exact HI239.out | apply IsS84.alloc | apply IsS84.drewN | apply IsS84.drew | apply IsS84.set_1 | refine IsS84.far ?_ NB239_259.out _) | exact HI239.out)) k_ hk_.2.1)⟩)) (below_size (by repeat (first | (with_reducible first | exact HB.out | apply below_alloc | apply pw_below_drewN | apply below_drew1 | refine below_set ?_ (IsS84.ge HI239.out) | refine below_set ?_ GE259.out) | exact HB.out)))); have n5_ := Aside0.mk (Kd.N_lower (Kd.N_mono (ok' := fun k_ => some k_ ≠ (v267 : Value).ownBlock ∧ some k_ ≠ (v270 : Value).ownBlock ∧ some k_ ≠ (v273 : Value).ownBlock ∧ some k_ ≠ (v279 : Value).ownBlock ∧ some k_ ≠ (.slice Ao32 y261.length co32 : Value).ownBlock ∧ k_ ≠ gb259 ∧ k_ ≠ g239) (Kd.R_N (Kd.R_bound (Kd.R_apart' ho3 (Kd.R_typed ho0) (by decide)))) (fun k_ hk_ => ⟨hk_.1.2, hk_.1.1.1, hk_.1.1.2.1, hk_.1.1.2.2, (Kd.fresh' (Kd.N_lt (kN_ HO263.out)) k_ hk_.2.1), (Kd.freshB (g := gb259) (o := .cells #[.int .i64 t240, .int .i64 t241, .slice Ao13 t242.length co13, .slice Ao14 t245.length co14, .slice Ao15 t248.length co15, .slice Ao16 t251.length co16, .slice Ao17 t254.length co17, .bool t257] 31 (0, 0)) (bk_ BK259.out) k_ hk_.2.1), (IsS84.fresh (by repeat (first | (with_reducible first | exact HI239.out | apply IsS84.alloc | apply IsS84.drewN | apply IsS84.drew | apply IsS84.set_1 | refine IsS84.far ?_ NB239_259.out _) | exact HI239.out)) k_ hk_.2.1)⟩)) (below_size (by repeat (first | (with_reducible first | exact HB.out | apply below_alloc | apply pw_below_drewN | apply below_drew1 | refine below_set ?_ (IsS84.ge HI239.out) | refine below_set ?_ GE259.out) | exact HB.out)))); have n6_ := Aside0.mk (Kd.R_lower ho4 (below_size (by repeat (first | (with_reducible first | exact HB.out | apply below_alloc | apply pw_below_drewN | apply below_drew1 | refine below_set ?_ (IsS84.ge HI239.out) | refine below_set ?_ GE259.out) | exact HB.out)))); have n7_ := Aside0.mk (IsS84.below (by repeat (first | (with_reducible first | exact HI239.out | apply IsS84.alloc | apply IsS84.drewN | apply IsS84.drew | apply IsS84.set_1 | refine IsS84.far ?_ NB239_259.out _) | exact HI239.out)) hb); have n8_ := Aside0.mk (blk_below (g := gb259) (o := .cells #[.int .i64 t240, .int .i64 t241, .slice Ao13 t242.length co13, .slice Ao14 t245.length co14, .slice Ao15 t248.length co15, .slice Ao16 t251.length co16, .slice Ao17 t254.length co17, .bool t257] 31 (0, 0)) (bk_ BK259.out) hb); have n9_ := Aside0.mk (below_step (by repeat (first | (with_reducible first | exact HB.out | apply below_alloc | apply pw_below_drewN | apply below_drew1 | refine below_set ?_ (IsS84.ge HI239.out) | refine below_set ?_ GE259.out) | exact HB.out)) hb); clear HO244 HO263 HI239 BK259 HB; have HO244 := n0_; have HO263 := n1_; have HO268 := n2_; have HO271 := n3_; have HO274 := n4_; have HO277 := n5_; have HO280 := n6_; have HI239 := n7_; have BK259 := n8_; have HB := n9_; clear n0_ n1_ n2_ n3_ n4_ n5_ n6_ n7_ n8_ n9_; (try clear hb); (try clear hb2); (try clear hk); (try clear hi); (try clear ho0); (try clear ho1); (try clear ho2); (try clear ho3); (try clear ho4)) | ((with_reducible refine gate_dst (N := 5) rfl ?_); (try (refine gate_guard (by rfl) ?_; dsimp only)); refine box_event ?hg (N := 5) ?hd (cs := #[.int .i64 0, .int .i64 0, .slice none 0 0, .slice none 0 0, .slice none 0 0, .slice none 0 0, .slice none 0 0, .bool false]) (t := 31) ?hr ?_; (case hd => rfl); (case hg => rfl); (case hr => first | (go_simp; done) | (go_simp; rfl)); intro gb283 hg w34 hbox hb; have n0_ := Aside0.mk (Kd.V_below (Kd.V_elderB (kV_ HO244.out) gb283 (Nat.le_of_eq hg.symm)) hb); have n1_ := Aside0.mk (Kd.N_below (Kd.N_elderB (kN_ HO263.out) gb283 (Nat.le_of_eq hg.symm)) hb); have n2_ := Aside0.mk (Kd.R_below (kR_ HO268.out) hb); have n3_ := Aside0.mk (Kd.R_below (kR_ HO271.out) hb); have n4_ := Aside0.mk (Kd.N_below (Kd.N_elderB (kN_ HO274.out) gb283 (Nat.le_of_eq hg.symm)) hb); have n5_ := Aside0.mk (Kd.N_below (Kd.N_elderB (kN_ HO277.out) gb283 (Nat.le_of_eq hg.symm)) hb); have n6_ := Aside0.mk (Kd.R_below (kR_ HO280.out) hb); have n7_ := Aside0.mk (IsS84.below (by repeat (first | (with_reducible first | exact HI239.out | apply IsS84.alloc | apply IsS84.drewN | apply IsS84.drew | apply IsS84.set_1 | refine IsS84.far ?_ NB239_259.out _) | exact HI239.out)) hb); have n8_ := Aside0.mk (blk_below (g := gb259) (o := .cells #[.int .i64 t240, .int .i64 t241, .slice Ao13 t242.length co13, .slice Ao14 t245.length co14, .slice Ao15 t248.length co15, .slice Ao16 t251.length co16, .slice Ao17 t254.length co17, .bool t257] 31 (0, 0)) (bk_ BK259.out) hb); have n9_ := Aside0.mk (below_step (by repeat (first | (with_reducible first | exact HB.out | apply below_alloc | apply pw_below_drewN | apply below_drew1 | refine below_set ?_ (IsS84.ge HI239.out) | refine below_set ?_ GE259.out) | exact HB.out)) hb); have n10_ := Aside0.mk (hbox); have n11_ := Aside0.mk ((by rw [hg]; exact (below_size (by repeat (first | (with_reducible first | exact HB.out | apply below_alloc | apply pw_below_drewN | apply below_drew1 | refine below_set ?_ (IsS84.ge HI239.out) | refine below_set ?_ GE259.out) | exact HB.out))) : w.heap.size ≤ gb283)); have n12_ := Aside0.mk ((by rw [hg]; exact (below_size (by repeat (first | (with_reducible first | exact HB.out | apply below_alloc | apply pw_below_drewN | apply below_drew1 | refine below_set ?_ (IsS84.ge HI239.out) | refine below_set ?_ GE259.out) | exact HB.out))) : w.heap.size ≤ gb283)); have n13_ := Aside0.mk ((by rw [hg]; exact Nat.ne_of_lt (blk_lt (g := gb259) (o := .cells #[.int .i64 t240, .int .i64 t241, .slice Ao13 t242.length co13, .slice Ao14 t245.length co14, .slice Ao15 t248.length co15, .slice Ao16 t251.length co16, .slice Ao17 t254.length co17, .bool t257] 31 (0, 0)) (bk_ BK259.out)) : gb259 ≠ gb283)); have n14_ := Aside0.mk ((by rw [hg]; exact Nat.ne_of_gt (blk_lt (g := gb259) (o := .cells #[.int .i64 t240, .int .i64 t241, .slice Ao13 t242.length co13, .slice Ao14 t245.length co14, .slice Ao15 t248.length co15, .slice Ao16 t251.length co16, .slice Ao17 t254.length co17, .bool t257] 31 (0, 0)) (bk_ BK259.out)) : gb283 ≠ gb259)); have n15_ := Aside0.mk ((by rw [hg]; exact Nat.ne_of_lt (IsS84.lt (show IsS84 w _ g239 t237 t258 from by repeat (first | (with_reducible first | exact HI239.out | apply IsS84.alloc | apply IsS84.drewN | apply IsS84.drew | apply IsS84.set_1 | refine IsS84.far ?_ NB239_259.out _) | exact HI239.out))) : g239 ≠ gb283)); have n16_ := Aside0.mk ((by rw [hg]; exact Nat.ne_of_gt (IsS84.lt (show IsS84 w _ g239 t237 t258 from by repeat (first | (with_reducible first | exact HI239.out | apply IsS84.alloc | apply IsS84.drewN | apply IsS84.drew | apply IsS84.set_1 | refine IsS84.far ?_ NB239_259.out _) | exact HI239.out))) : gb283 ≠ g239)); clear HO244 HO263 HO268 HO271 HO274 HO277 HO280 HI239 BK259 HB; have HO244 := n0_; have HO263 := n1_; have HO268 := n2_; have HO271 := n3_; have HO274 := n4_; have HO277 := n5_; have HO280 := n6_; have HI239 := n7_; have BK259 := n8_; have HB := n9_; have BK283 := n10_; have GW283 := n11_; have GE283 := n12_; have NB259_283 := n13_; have NB283_259 := n14_; have NB239_283 := n15_; have NB283_239 := n16_; clear n0_ n1_ n2_ n3_ n4_ n5_ n6_ n7_ n8_ n9_ n10_ n11_ n12_ n13_ n14_ n15_ n16_ hb hbox hg; have hnb35 := NB283_259.out; have hnc35 := NB259_283.out; have hnb36 := NB283_239.out; have hnc36 := NB239_283.out; have hcz37_0 : w34.cell? ⟨gb283, 0, none⟩ = some (.int .i64 0) := (blk_cell BK283.out 0).trans rfl; have hcz37_1 : w34.cell? ⟨gb283, 1, none⟩ = some (.int .i64 0) := (blk_cell BK283.out 1).trans rfl; have hcz37_2 : w34.cell? ⟨gb283, 2, none⟩ = some (.slice none 0 0) := (blk_cell BK283.out 2).trans rfl; have hcz37_3 : w34.cell? ⟨gb283, 3, none⟩ = some (.slice none 0 0) := (blk_cell BK283.out 3).trans rfl; have hcz37_4 : w34.cell? ⟨gb283, 4, none⟩ = some (.slice none 0 0) := (blk_cell BK283.out 4).trans rfl; have hcz37_5 : w34.cell? ⟨gb283, 5, none⟩ = some (.slice none 0 0) := (blk_cell BK283.out 5).trans rfl; have hcz37_6 : w34.cell? ⟨gb283, 6, none⟩ = some (.slice none 0 0) := (blk_cell BK283.out 6).trans rfl; have hcz37_7 : w34.cell? ⟨gb283, 7, none⟩ = some (.bool false) := (blk_cell BK283.out 7).trans rfl; have hfz37_0 := blk_frozen BK283.out 0; have hfz37_1 := blk_frozen BK283.out 1; have hfz37_2 := blk_frozen BK283.out 2; have hfz37_3 := blk_frozen BK283.out 3; have hfz37_4 := blk_frozen BK283.out 4; have hfz37_5 := blk_frozen BK283.out 5; have hfz37_6 := blk_frozen BK283.out 6; have hfz37_7 := blk_frozen BK283.out 7; obtain ⟨Ao38, co38, eo38⟩ := Kd.R_slice HO268.out; subst eo38; obtain ⟨Ao39, co39, eo39⟩ := Kd.R_slice HO271.out; subst eo39; obtain ⟨Ao40, co40, eo40⟩ := Kd.N_slice HO274.out; subst eo40; obtain ⟨Ao41, co41, eo41⟩ := Kd.N_slice HO277.out; subst eo41; obtain ⟨Ao42, co42, eo42⟩ := Kd.R_slice HO280.out; subst eo42; have hcz43_0 : w34.cell? ⟨gb259, 0, none⟩ = some (.int .i64 t240) := (blk_cell BK259.out 0).trans rfl; have hcz43_1 : w34.cell? ⟨gb259, 1, none⟩ = some (.int .i64 t241) := (blk_cell BK259.out 1).trans rfl; have hcz43_2 : w34.cell? ⟨gb259, 2, none⟩ = some (.slice Ao13 t242.length co13) := (blk_cell BK259.out 2).trans rfl; have hcz43_3 : w34.cell? ⟨gb259, 3, none⟩ = some (.slice Ao14 t245.length co14) := (blk_cell BK259.out 3).trans rfl; have hcz43_4 : w34.cell? ⟨gb259, 4, none⟩ = some (.slice Ao15 t248.length co15) := (blk_cell BK259.out 4).trans rfl; have hcz43_5 : w34.cell? ⟨gb259, 5, none⟩ = some (.slice Ao16 t251.length co16) := (blk_cell BK259.out 5).trans rfl; have hcz43_6 : w34.cell? ⟨gb259, 6, none⟩ = some (.slice Ao17 t254.length co17) := (blk_cell BK259.out 6).trans rfl; have hcz43_7 : w34.cell? ⟨gb259, 7, none⟩ = some (.bool t257) := (blk_cell BK259.out 7).trans rfl; have hfz43_0 := blk_frozen BK259.out 0; have hfz43_1 := blk_frozen BK259.out 1; have hfz43_2 := blk_frozen BK259.out 2; have hfz43_3 := blk_frozen BK259.out 3; have hfz43_4 := blk_frozen BK259.out 4; have hfz43_5 := blk_frozen BK259.out 5; have hfz43_6 := blk_frozen BK259.out 6; have hfz43_7 := blk_frozen BK259.out 7; have hcv44 := own_string (P := Try.prog) Try.underlying27 Try.underlying5 Try.underlying9 (Kd.own_of_R ((Kd.R_far (p := ⟨gb283, 7, none⟩) (Kd.R_far (p := ⟨gb283, 6, none⟩) (Kd.R_far (p := ⟨gb283, 5, none⟩) (Kd.R_far (p := ⟨gb283, 4, none⟩) (Kd.R_far (p := ⟨gb283, 3, none⟩) (Kd.R_far (p := ⟨gb283, 2, none⟩) (Kd.R_far (p := ⟨gb283, 1, none⟩) (Kd.R_far (p := ⟨gb283, 0, none⟩) (Kd.R_types HO268.out BK283.out (by decide)) (fun _ hk => hk.2) (.int .i64 t264)) (fun _ hk => hk.2) (.int .i64 t265)) (fun _ hk => hk.2) (.slice Ao38 t266.length co38)) (fun _ hk => hk.2) (.slice Ao39 t269.length co39)) (fun _ hk => hk.2) (.slice Ao40 t272.length co40)) (fun _ hk => hk.2) (.slice Ao41 t275.length co41)) (fun _ hk => hk.2) (.slice Ao42 t278.length co42)) (fun _ hk => hk.2) (.bool t281)))); have hcv45 := Kd.C_string (P := Try.prog) (A := Ao13) (c := co13) Try.underlying27 Try.underlying5 Try.underlying9 (Kd.V_reads' ((Kd.V_far (p := ⟨gb283, 7, none⟩) (Kd.V_far (p := ⟨gb283, 6, none⟩) (Kd.V_far (p := ⟨gb283, 5, none⟩) (Kd.V_far (p := ⟨gb283, 4, none⟩) (Kd.V_far (p := ⟨gb283, 3, none⟩) (Kd.V_far (p := ⟨gb283, 2, none⟩) (Kd.V_far (p := ⟨gb283, 1, none⟩) (Kd.V_far (p := ⟨gb283, 0, none⟩) (Kd.V_mono HO244.out (fun k_ hk => (⟨hk, hk.2⟩ : _ ∧ k_ ≠ gb283))) (fun _ hk => hk.2) (.int .i64 t264)) (fun _ hk => hk.2) (.int .i64 t265)) (fun _ hk => hk.2) (.slice Ao38 t266.length co38)) (fun _ hk => hk.2) (.slice Ao39 t269.length co39)) (fun _ hk => hk.2) (.slice Ao40 t272.length co40)) (fun _ hk => hk.2) (.slice Ao41 t275.length co41)) (fun _ hk => hk.2) (.slice Ao42 t278.length co42)) (fun _ hk => hk.2) (.bool t281)))).2.2; have p284 : 0 ≤ (0 : Int) := (by omega); have q284 : 0 < (t269.length : Int) := od_; obtain ⟨ad284, e284, hx284_0⟩ := Kd.at_int (Kd.R_reads' HO271.out).2.2 0 p284 q284; cases e284; have qi284 : (0 < t269.length) = True := eq_true (by omega); (try rw [show ((0 : Int)).toNat = 0 from rfl] at hx284_0); (try rw [Addr.add_zero'] at hx284_0); have hn284_0 : ad284.block ≠ gb283 := Kd.own_blk (Kd.R_ne HO271.out BK283.out (by decide)); have hn284_1 : ad284.block ≠ gb283 := Kd.own_blk (Kd.R_ne HO271.out BK283.out (by decide)); have hn284_2 : ad284.block ≠ gb283 := Kd.own_blk (Kd.R_ne HO271.out BK283.out (by decide)); have hn284_3 : ad284.block ≠ gb283 := Kd.own_blk (Kd.R_ne HO271.out BK283.out (by decide)); have hn284_4 : ad284.block ≠ gb283 := Kd.own_blk (Kd.R_ne HO271.out BK283.out (by decide)); have hn284_5 : ad284.block ≠ gb283 := Kd.own_blk (Kd.R_ne HO271.out BK283.out (by decide)); have hn284_6 : ad284.block ≠ gb283 := Kd.own_blk (Kd.R_ne HO271.out BK283.out (by decide)); have hn284_7 : ad284.block ≠ gb283 := Kd.own_blk (Kd.R_ne HO271.out BK283.out (by decide)); replace hx284_0 := (cell_far (p := ⟨gb283, 0, none⟩) (by first | (rw [add_block]; exact hn284_0) | (show (Addr.add _ _).block ≠ _; rw [add_block]; exact hn284_0) | exact hn284_0) (.int .i64 t264)).trans hx284_0; replace hx284_0 := (cell_far (p := ⟨gb283, 1, none⟩) (by first | (rw [add_block]; exact hn284_1) | (show (Addr.add _ _).block ≠ _; rw [add_block]; exact hn284_1) | exact hn284_1) (.int .i64 t265)).trans hx284_0; replace hx284_0 := (cell_far (p := ⟨gb283, 2, none⟩) (by first | (rw [add_block]; exact hn284_2) | (show (Addr.add _ _).block ≠ _; rw [add_block]; exact hn284_2) | exact hn284_2) (.slice Ao38 t266.length co38)).trans hx284_0; replace hx284_0 := (cell_far (p := ⟨gb283, 3, none⟩) (by first | (rw [add_block]; exact hn284_3) | (show (Addr.add _ _).block ≠ _; rw [add_block]; exact hn284_3) | exact hn284_3) (.slice (some ad284) t269.length co39)).trans hx284_0; replace hx284_0 := (cell_far (p := ⟨gb283, 4, none⟩) (by first | (rw [add_block]; exact hn284_4) | (show (Addr.add _ _).block ≠ _; rw [add_block]; exact hn284_4) | exact hn284_4) (.slice Ao40 t272.length co40)).trans hx284_0; replace hx284_0 := (cell_far (p := ⟨gb283, 5, none⟩) (by first | (rw [add_block]; exact hn284_5) | (show (Addr.add _ _).block ≠ _; rw [add_block]; exact hn284_5) | exact hn284_5) (.slice Ao41 t275.length co41)).trans hx284_0; replace hx284_0 := (cell_far (p := ⟨gb283, 6, none⟩) (by first | (rw [add_block]; exact hn284_6) | (show (Addr.add _ _).block ≠ _; rw [add_block]; exact hn284_6) | exact hn284_6) (.slice Ao42 t278.length co42)).trans hx284_0; replace hx284_0 := (cell_far (p := ⟨gb283, 7, none⟩) (by first | (rw [add_block]; exact hn284_7) | (show (Addr.add _ _).block ≠ _; rw [add_block]; exact hn284_7) | exact hn284_7) (.bool t281)).trans hx284_0; clear hn284_0 hn284_1 hn284_2 hn284_3 hn284_4 hn284_5 hn284_6 hn284_7; replace p284 := eq_true p284; replace q284 := eq_true q284))
    go_meet
    case rel => exact ⟨_, H', ⟨by first | omega | exact Nat.le_refl _⟩, ⟨by repeat (first | (with_reducible first | exact HI239.out | apply IsS84.alloc | apply IsS84.drewN | apply IsS84.drew | apply IsS84.set_1 | refine IsS84.far ?_ NB239_259.out _ | refine IsS84.far ?_ NB239_283.out _) | exact HI239.out)⟩, ⟨by repeat (first | (with_reducible first | exact HB.out | apply below_alloc | apply pw_below_drewN | apply below_drew1 | refine below_set ?_ (IsS84.ge HI239.out) | refine below_set ?_ GE259.out | refine below_set ?_ GE283.out) | exact HB.out)⟩⟩
   ·
    replace c19 := Bool.eq_false_iff.mpr c19
    subst c19
    have H1 : (law16_ProductSingle.j0 k t237 t258) = some r := by rw [if_neg (show ¬ (false = true) by decide)] at H; exact H
    clear H
    have H := H1
    clear H1
    have H' := Aside0.mk H
    clear H
    go_wp2
    go_meet
    case rel => exact ⟨_, H', ⟨by first | omega | exact Nat.le_refl _⟩, ⟨by repeat (first | (with_reducible first | exact HI239.out | apply IsS84.alloc | apply IsS84.drewN | apply IsS84.drew | apply IsS84.set_1 | refine IsS84.far ?_ NB239_259.out _) | exact HI239.out)⟩, ⟨by repeat (first | (with_reducible first | exact HB.out | apply below_alloc | apply pw_below_drewN | apply below_drew1 | refine below_set ?_ (IsS84.ge HI239.out) | refine below_set ?_ GE259.out) | exact HB.out)⟩⟩
  case rest =>
   clear HC7
   try clear c1
   try clear c2
   try clear p2
   try clear q2
   try clear hx2
   try clear qi2
   try clear c3
   try clear hcv4
   try clear c5
   try clear c8
   try clear c11
   try clear c18
   try clear c19
   try clear c20
   try clear c21
   try clear c21b0
   try clear c21b1
   try clear c22
   try clear c22b0
   try clear c22b1
   try clear c23
   try clear c23b0
   try clear c23b1
   try clear c24
   try clear c24b0
   try clear c24b1
   try clear c25
   try clear c25b0
   try clear c25b1
   try clear c26
   try clear c26b0
   try clear c26b1
   try clear c27
   try clear c27b0
   try clear c27b1
   try clear c28
   try clear p28
   try clear q28
   try clear hx28
   try clear qi28
   try clear c35
   try clear c36
   try clear hcv44
   try clear hcv45
   try clear hcz12_0
   try clear hcz12_1
   try clear hcz12_2
   try clear hcz12_3
   try clear hcz12_4
   try clear hcz12_5
   try clear hcz12_6
   try clear hcz12_7
   try clear hcz29_0
   try clear hcz29_1
   try clear hcz29_2
   try clear hcz29_3
   try clear hcz29_4
   try clear hcz29_5
   try clear hcz29_6
   try clear hcz29_7
   try clear hcz37_0
   try clear hcz37_1
   try clear hcz37_2
   try clear hcz37_3
   try clear hcz37_4
   try clear hcz37_5
   try clear hcz37_6
   try clear hcz37_7
   try clear hcz43_0
   try clear hcz43_1
   try clear hcz43_2
   try clear hcz43_3
   try clear hcz43_4
   try clear hcz43_5
   try clear hcz43_6
   try clear hcz43_7
   try clear hfz12_0
   try clear hfz12_1
   try clear hfz12_2
   try clear hfz12_3
   try clear hfz12_4
   try clear hfz12_5
   try clear hfz12_6
   try clear hfz12_7
   try clear hfz29_0
   try clear hfz29_1
   try clear hfz29_2
   try clear hfz29_3
   try clear hfz29_4
   try clear hfz29_5
   try clear hfz29_6
   try clear hfz29_7
   try clear hfz37_0
   try clear hfz37_1
   try clear hfz37_2
   try clear hfz37_3
   try clear hfz37_4
   try clear hfz37_5
   try clear hfz37_6
   try clear hfz37_7
   try clear hfz43_0
   try clear hfz43_1
   try clear hfz43_2
   try clear hfz43_3
   try clear hfz43_4
   try clear hfz43_5
   try clear hfz43_6
   try clear hfz43_7
   try clear hx284_0
   try clear p284
   try clear q284
   obtain ⟨kq, HA, HJ6, HI239, HB⟩ := hcut
   cases kq with
   | zero => exact absurd HA.out (by simp [law16_ProductSingle.j0])
   | succ kj6 =>
    have H := HA.out
    clear HA
    simp only [law16_ProductSingle.j0] at H
    replace H := Option.bind_eq_some_iff.mp H
    obtain ⟨⟨t285, t286⟩, A460, H⟩ := H
    replace H : (law16_ProductSingle.l0 kj6 ([] : List (S31)) ([] : List (S31)) 0 t285 t237 t286) = some r := H
    have A46 := Aside0.mk A460
    clear A460
    have H' := Aside0.mk H
    clear H
    go_wp2_with (first | ((with_reducible refine gate_callee (f := 21) rfl ?_); refine goesL_ (some 72) rfl rfl Try.func21 (by kernel_rfl) rfl #[.pointer (some ⟨g239, 0, none⟩), .int .i64 9] rfl (by (try simp only [List.map_toArray, List.map_cons, List.map_nil]); first | done | rfl | (simp only [List.length_drop, List.length_take]; rfl)) ?_; (with_reducible refine (made_Dice_Next.calls g239 t237 t258 9 t285 t286 w _ ?side1 ?side2 A46.out).mono ?_); (case side1 => repeat (first | (with_reducible first | exact HI239.out | apply IsS84.alloc | apply IsS84.drewN | apply IsS84.drew | apply IsS84.set_1) | exact HI239.out)); (case side2 => repeat (first | (with_reducible first | exact HB.out | apply below_alloc | apply pw_below_drewN | apply below_drew1 | refine below_set ?_ (IsS84.ge HI239.out)) | exact HB.out)); rintro e w47 ⟨rfl, hi, hb, hk⟩; refine ⟨_, rfl, ?_⟩; have n0_ := Aside0.mk (hb); have n1_ := Aside0.mk (hi); clear HB HI239; have HB := n0_; have HI239 := n1_; clear n0_ n1_; (try clear hb); (try clear hb2); (try clear hk); (try clear hi)))
    go_loopg [7, 8, 9, 10] kj6 (fun kq v7 v8 v9 v10 w' => ∃ (x7_2 : List (S31)) (x8_2 : List (S31)) (x9_2 : Int) (x10_2 : Int) (x240001_2 : Int), v9 = .int .i64 x9_2 ∧ v10 = .int .i64 x10_2 ∧ Aside0 (law16_ProductSingle.l0 kq x7_2 x8_2 x9_2 x10_2 t237 x240001_2 = some r) ∧ Aside0 (kq ≤ kj6) ∧ Aside0 (Kd.N k31 31 w' w.heap.size (fun k_ => some k_ ≠ (v8 : Value).ownBlock ∧ k_ ≠ g239) v7 x7_2) ∧ Aside0 (Kd.N k31 31 w' w.heap.size (fun k_ => some k_ ≠ (v7 : Value).ownBlock ∧ k_ ≠ g239) v8 x8_2) ∧ Aside0 (IsS84 w w' g239 t237 x240001_2) ∧ Aside0 (Below w.heap.size w w'))
    case atStart => exact ⟨(([] : List (S31))), (([] : List (S31))), (0), (t285), (t286), (by first | rfl | (simp; done) | (simp [*]; done)), (by first | rfl | (simp; done) | (simp [*]; done)), H', ⟨Nat.le_refl _⟩, ⟨by first | exact Kd.R_nil _ _ _ _ _ | exact Kd.N_nil _ _ _ _ _ | exact Kd.V_nil _ _ _ _ _ | exact Kd.Q_nil _ _ _ _ _ | exact Kd.S_nil _ _ _ _ _⟩, ⟨by first | exact Kd.R_nil _ _ _ _ _ | exact Kd.N_nil _ _ _ _ _ | exact Kd.V_nil _ _ _ _ _ | exact Kd.Q_nil _ _ _ _ _ | exact Kd.S_nil _ _ _ _ _⟩, ⟨by repeat (first | (with_reducible first | exact HI239.out | apply IsS84.alloc | apply IsS84.drewN | apply IsS84.drew | apply IsS84.set_1) | exact HI239.out)⟩, ⟨by repeat (first | (with_reducible first | exact HB.out | apply below_alloc | apply pw_below_drewN | apply below_drew1 | refine below_set ?_ (IsS84.ge HI239.out)) | exact HB.out)⟩⟩
    case round =>
     clear H'
     try clear c1
     try clear c2
     try clear p2
     try clear q2
     try clear hx2
     try clear qi2
     try clear c3
     try clear hcv4
     try clear c5
     try clear c8
     try clear c11
     try clear c18
     try clear c19
     try clear c20
     try clear c21
     try clear c21b0
     try clear c21b1
     try clear c22
     try clear c22b0
     try clear c22b1
     try clear c23
     try clear c23b0
     try clear c23b1
     try clear c24
     try clear c24b0
     try clear c24b1
     try clear c25
     try clear c25b0
     try clear c25b1
     try clear c26
     try clear c26b0
     try clear c26b1
     try clear c27
     try clear c27b0
     try clear c27b1
     try clear c28
     try clear p28
     try clear q28
     try clear hx28
     try clear qi28
     try clear c35
     try clear c36
     try clear hcv44
     try clear hcv45
     try clear hcz12_0
     try clear hcz12_1
     try clear hcz12_2
     try clear hcz12_3
     try clear hcz12_4
     try clear hcz12_5
     try clear hcz12_6
     try clear hcz12_7
     try clear hcz29_0
     try clear hcz29_1
     try clear hcz29_2
     try clear hcz29_3
     try clear hcz29_4
     try clear hcz29_5
     try clear hcz29_6
     try clear hcz29_7
     try clear hcz37_0
     try clear hcz37_1
     try clear hcz37_2
     try clear hcz37_3
     try clear hcz37_4
     try clear hcz37_5
     try clear hcz37_6
     try clear hcz37_7
     try clear hcz43_0
     try clear hcz43_1
     try clear hcz43_2
     try clear hcz43_3
     try clear hcz43_4
     try clear hcz43_5
     try clear hcz43_6
     try clear hcz43_7
     try clear hfz12_0
     try clear hfz12_1
     try clear hfz12_2
     try clear hfz12_3
     try clear hfz12_4
     try clear hfz12_5
     try clear hfz12_6
     try clear hfz12_7
     try clear hfz29_0
     try clear hfz29_1
     try clear hfz29_2
     try clear hfz29_3
     try clear hfz29_4
     try clear hfz29_5
     try clear hfz29_6
     try clear hfz29_7
     try clear hfz37_0
     try clear hfz37_1
     try clear hfz37_2
     try clear hfz37_3
     try clear hfz37_4
     try clear hfz37_5
     try clear hfz37_6
     try clear hfz37_7
     try clear hfz43_0
     try clear hfz43_1
     try clear hfz43_2
     try clear hfz43_3
     try clear hfz43_4
     try clear hfz43_5
     try clear hfz43_6
     try clear hfz43_7
     try clear hx284_0
     try clear p2
     try clear p28
     try clear p284
     try clear q2
     try clear q28
     try clear q284
     obtain ⟨x7_2, x8_2, x9_2, x10_2, x240001_2, rfl, rfl, HA, HK2, HO_7, HO_8, HI239, HB⟩ := hrel
     cases gk with
     | zero => exact absurd HA.out (by simp [law16_ProductSingle.l0])
     | succ k2 =>
      have H := HA.out
      clear HA
      simp only [law16_ProductSingle.l0] at H
      by_cases c48 : x10_2 > 0
      ·
       rw [if_pos c48] at H
       have c48b0 : decide (0 < x10_2) = true := decide_eq_true c48
       clear c48
       replace H := Option.bind_eq_some_iff.mp H
       obtain ⟨⟨t287, t290⟩, A490, H⟩ := H
       replace H : ((some (([(⟨(t287.length : Int), 1, t287, ([] : List Int), ([] : List (S101)), ([] : List (S79)), ([] : List Int), false⟩ : S31)] : List (S31)) : List (S31))).bind fun y292 => (if x7_2.length + y292.length < 977343669134 then ((some (([(⟨(t287.length : Int), 1, t287, ([] : List Int), ([] : List (S101)), ([] : List (S79)), ([] : List Int), false⟩ : S31)] : List (S31)) : List (S31))).bind fun y298 => (if y298.length + x8_2.length < 977343669134 then (law16_ProductSingle.l0 k2 (x7_2 ++ y292) (y298 ++ x8_2) (wrap64 (x9_2 + (t287.length : Int))) (wrap64 (x10_2 - 1)) t237 t290) else (none))) else (none))) = some r := H
       have A49 := Aside0.mk A490
       clear A490
       obtain ⟨y292, hy292⟩ : ∃ y_ : List (S31), y_ = (([(⟨(t287.length : Int), 1, t287, ([] : List Int), ([] : List (S101)), ([] : List (S79)), ([] : List Int), false⟩ : S31)] : List (S31))) := ⟨_, rfl⟩
       replace H : (if x7_2.length + y292.length < 977343669134 then ((some (([(⟨(t287.length : Int), 1, t287, ([] : List Int), ([] : List (S101)), ([] : List (S79)), ([] : List Int), false⟩ : S31)] : List (S31)) : List (S31))).bind fun y298 => (if y298.length + x8_2.length < 977343669134 then (law16_ProductSingle.l0 k2 (x7_2 ++ y292) (y298 ++ x8_2) (wrap64 (x9_2 + (t287.length : Int))) (wrap64 (x10_2 - 1)) t237 t290) else (none))) else (none)) = some r := by first | (rw [hy292]; with_reducible exact H) | (have H2_ := (Option.bind_some _ _).symm.trans H; rw [hy292]; with_reducible exact H2_) | (have H2_ := (Option.bind_some _ _).symm.trans H; with_reducible exact H2_) | with_reducible exact H | (rw [hy292]; exact H) | exact H
       have Ny292 := Aside0.mk hy292
       clear hy292
       by_cases c50 : x7_2.length + y292.length < 977343669134
       rotate_left
       ·
        rw [if_neg c50] at H
        exact absurd H (by simp)
       rw [if_pos c50] at H
       have LMc50 := Aside0.mk c50
       clear c50
       obtain ⟨y295, hy295⟩ : ∃ y_ : List (S31), y_ = (x7_2 ++ y292) := ⟨_, rfl⟩
       replace H : ((some (([(⟨(t287.length : Int), 1, t287, ([] : List Int), ([] : List (S101)), ([] : List (S79)), ([] : List Int), false⟩ : S31)] : List (S31)) : List (S31))).bind fun y298 => (if y298.length + x8_2.length < 977343669134 then (law16_ProductSingle.l0 k2 y295 (y298 ++ x8_2) (wrap64 (x9_2 + (t287.length : Int))) (wrap64 (x10_2 - 1)) t237 t290) else (none))) = some r := by first | (rw [hy295]; with_reducible exact H) | (have H2_ := (Option.bind_some _ _).symm.trans H; rw [hy295]; with_reducible exact H2_) | (have H2_ := (Option.bind_some _ _).symm.trans H; with_reducible exact H2_) | with_reducible exact H | (rw [hy295]; exact H) | exact H
       have Ny295 := Aside0.mk hy295
       clear hy295
       obtain ⟨y298, hy298⟩ : ∃ y_ : List (S31), y_ = (([(⟨(t287.length : Int), 1, t287, ([] : List Int), ([] : List (S101)), ([] : List (S79)), ([] : List Int), false⟩ : S31)] : List (S31))) := ⟨_, rfl⟩
       replace H : (if y298.length + x8_2.length < 977343669134 then (law16_ProductSingle.l0 k2 y295 (y298 ++ x8_2) (wrap64 (x9_2 + (t287.length : Int))) (wrap64 (x10_2 - 1)) t237 t290) else (none)) = some r := by first | (rw [hy298]; with_reducible exact H) | (have H2_ := (Option.bind_some _ _).symm.trans H; rw [hy298]; with_reducible exact H2_) | (have H2_ := (Option.bind_some _ _).symm.trans H; with_reducible exact H2_) | with_reducible exact H | (rw [hy298]; exact H) | exact H
       have Ny298 := Aside0.mk hy298
       clear hy298
       by_cases c51 : y298.length + x8_2.length < 977343669134
       rotate_left
       ·
        rw [if_neg c51] at H
        exact absurd H (by simp)
       rw [if_pos c51] at H
       have LMc51 := Aside0.mk c51
       clear c51
       obtain ⟨y301, hy301⟩ : ∃ y_ : List (S31), y_ = (y298 ++ x8_2) := ⟨_, rfl⟩
       replace H : (law16_ProductSingle.l0 k2 y295 y301 (wrap64 (x9_2 + (t287.length : Int))) (wrap64 (x10_2 - 1)) t237 t290) = some r := by first | (rw [hy301]; with_reducible exact H) | (have H2_ := (Option.bind_some _ _).symm.trans H; rw [hy301]; with_reducible exact H2_) | (have H2_ := (Option.bind_some _ _).symm.trans H; with_reducible exact H2_) | with_reducible exact H | (rw [hy301]; exact H) | exact H
       have Ny301 := Aside0.mk hy301
       clear hy301
       have H' := Aside0.mk H
       clear H
       try go_wp2_with (first | ((with_reducible refine gate_callee (f := 33) rfl ?_); refine goesL_ (some 78) rfl rfl Try.func33 (by kernel_rfl) rfl #[.pointer (some ⟨g239, 0, none⟩), .int .i64 9] rfl (by (try simp only [List.map_toArray, List.map_cons, List.map_nil]); first | done | rfl | (simp only [List.length_drop, List.length_take]; rfl)) ?_; (with_reducible refine (made_Dice_Bytes.calls k2 g239 t237 x240001_2 9 t287 t290 w _ ?side1 ?side2 A49.out).mono ?_); (case side1 => repeat (first | (with_reducible first | exact HI239.out | apply IsS84.alloc | apply IsS84.drewN | apply IsS84.drew | apply IsS84.set_1) | exact HI239.out)); (case side2 => repeat (first | (with_reducible first | exact HB.out | apply below_alloc | apply pw_below_drewN | apply below_drew1 | refine below_set ?_ (IsS84.ge HI239.out)) | exact HB.out)); rintro e w52 ⟨v288, rfl, ho0, hi, hb, hk⟩; refine ⟨_, rfl, ?_⟩; have n0_ := Aside0.mk (Kd.N_mono (Kd.N_told (Kd.N_oldK (Kd.N_mono (ok := fun k_ => (some k_ ≠ (u8 : Value).ownBlock ∧ k_ ≠ g239)) (kN_ HO_7.out) (fun k_ hk_ => (⟨hk_, hk_.2⟩ : _ ∧ k_ ≠ g239))) hk) (Kd.R_base ho0)) (fun _ h_ => h_.1)); have n1_ := Aside0.mk (Kd.N_mono (Kd.N_told (Kd.N_oldK (Kd.N_mono (ok := fun k_ => (some k_ ≠ (u7 : Value).ownBlock ∧ k_ ≠ g239)) (kN_ HO_8.out) (fun k_ hk_ => (⟨hk_, hk_.2⟩ : _ ∧ k_ ≠ g239))) hk) (Kd.R_base ho0)) (fun _ h_ => h_.1)); have n2_ := Aside0.mk (Kd.R_lower ho0 (below_size (by repeat (first | (with_reducible first | exact HB.out | apply below_alloc | apply pw_below_drewN | apply below_drew1 | refine below_set ?_ (IsS84.ge HI239.out)) | exact HB.out)))); have n3_ := Aside0.mk (hb); have n4_ := Aside0.mk (hi); clear HO_7 HO_8 HB HI239; have HO_7 := n0_; have HO_8 := n1_; have HO289 := n2_; have HB := n3_; have HI239 := n4_; clear n0_ n1_ n2_ n3_ n4_; (try clear hb); (try clear hb2); (try clear hk); (try clear hi); (try clear ho0); obtain ⟨Ao53, co53, eo53⟩ := Kd.R_slice HO289.out; subst eo53; have n_ := Aside0.mk (Kd.V_mono (base := w.heap.size) (ok' := (fun k_ => some k_ ≠ (u7 : Value).ownBlock ∧ some k_ ≠ (u8 : Value).ownBlock ∧ k_ ≠ g239)) (Kd.R_V (Kd.R_tight rfl (IsS84.apart HI239.out (Kd.R_apart' (Kd.R_apart' (HO289.out) (Kd.N_typed HO_7.out) (by decide)) (Kd.N_typed HO_8.out) (by decide)) (by decide)))) (fun k_ hk => ⟨((IsS84.apart HI239.out (Kd.R_apart' (Kd.R_apart' (HO289.out) (Kd.N_typed HO_7.out) (by decide)) (Kd.N_typed HO_8.out) (by decide)) (by decide)).1 k_ hk.symm).1.1.2, ⟨((IsS84.apart HI239.out (Kd.R_apart' (Kd.R_apart' (HO289.out) (Kd.N_typed HO_7.out) (by decide)) (Kd.N_typed HO_8.out) (by decide)) (by decide)).1 k_ hk.symm).1.2, ((IsS84.apart HI239.out (Kd.R_apart' (Kd.R_apart' (HO289.out) (Kd.N_typed HO_7.out) (by decide)) (Kd.N_typed HO_8.out) (by decide)) (by decide)).1 k_ hk.symm).2⟩⟩)); clear HO289; have HO289 := n_; clear n_) | ((with_reducible refine gate_dst (N := 12) rfl ?_); (try (refine gate_guard (by rfl) ?_; dsimp only)); refine box_event ?hg (N := 12) ?hd (cs := #[.int .i64 0, .int .i64 0, .slice none 0 0, .slice none 0 0, .slice none 0 0, .slice none 0 0, .slice none 0 0, .bool false]) (t := 31) ?hr ?_; (case hd => rfl); (case hg => rfl); (case hr => first | (go_simp; done) | (go_simp; rfl)); intro gb291 hg w54 hbox hb; have n0_ := Aside0.mk (Kd.N_below (Kd.N_elderB (kN_ HO_7.out) gb291 (Nat.le_of_eq hg.symm)) hb); have n1_ := Aside0.mk (Kd.N_below (Kd.N_elderB (kN_ HO_8.out) gb291 (Nat.le_of_eq hg.symm)) hb); have n2_ := Aside0.mk (Kd.V_below (Kd.V_elderB (kV_ HO289.out) gb291 (Nat.le_of_eq hg.symm)) hb); have n3_ := Aside0.mk (IsS84.below (by repeat (first | (with_reducible first | exact HI239.out | apply IsS84.alloc | apply IsS84.drewN | apply IsS84.drew | apply IsS84.set_1) | exact HI239.out)) hb); have n4_ := Aside0.mk (below_step (by repeat (first | (with_reducible first | exact HB.out | apply below_alloc | apply pw_below_drewN | apply below_drew1 | refine below_set ?_ (IsS84.ge HI239.out)) | exact HB.out)) hb); have n5_ := Aside0.mk (hbox); have n6_ := Aside0.mk ((by rw [hg]; exact (below_size (by repeat (first | (with_reducible first | exact HB.out | apply below_alloc | apply pw_below_drewN | apply below_drew1 | refine below_set ?_ (IsS84.ge HI239.out)) | exact HB.out))) : w.heap.size ≤ gb291)); have n7_ := Aside0.mk ((by rw [hg]; exact (below_size (by repeat (first | (with_reducible first | exact HB.out | apply below_alloc | apply pw_below_drewN | apply below_drew1 | refine below_set ?_ (IsS84.ge HI239.out)) | exact HB.out))) : w.heap.size ≤ gb291)); have n8_ := Aside0.mk ((by rw [hg]; exact Nat.ne_of_lt (IsS84.lt (show IsS84 w _ g239 t237 t290 from by repeat (first | (with_reducible first | exact HI239.out | apply IsS84.alloc | apply IsS84.drewN | apply IsS84.drew | apply IsS84.set_1) | exact HI239.out))) : g239 ≠ gb291)); have n9_ := Aside0.mk ((by rw [hg]; exact Nat.ne_of_gt (IsS84.lt (show IsS84 w _ g239 t237 t290 from by repeat (first | (with_reducible first | exact HI239.out | apply IsS84.alloc | apply IsS84.drewN | apply IsS84.drew | apply IsS84.set_1) | exact HI239.out))) : gb291 ≠ g239)); clear HO_7 HO_8 HO289 HI239 HB; have HO_7 := n0_; have HO_8 := n1_; have HO289 := n2_; have HI239 := n3_; have HB := n4_; have BK291 := n5_; have GW291 := n6_; have GE291 := n7_; have NB239_291 := n8_; have NB291_239 := n9_; clear n0_ n1_ n2_ n3_ n4_ n5_ n6_ n7_ n8_ n9_ hb hbox hg; have hnb55 := NB291_239.out; have hnc55 := NB239_291.out; have hcz56_0 : w54.cell? ⟨gb291, 0, none⟩ = some (.int .i64 0) := (blk_cell BK291.out 0).trans rfl; have hcz56_1 : w54.cell? ⟨gb291, 1, none⟩ = some (.int .i64 0) := (blk_cell BK291.out 1).trans rfl; have hcz56_2 : w54.cell? ⟨gb291, 2, none⟩ = some (.slice none 0 0) := (blk_cell BK291.out 2).trans rfl; have hcz56_3 : w54.cell? ⟨gb291, 3, none⟩ = some (.slice none 0 0) := (blk_cell BK291.out 3).trans rfl; have hcz56_4 : w54.cell? ⟨gb291, 4, none⟩ = some (.slice none 0 0) := (blk_cell BK291.out 4).trans rfl; have hcz56_5 : w54.cell? ⟨gb291, 5, none⟩ = some (.slice none 0 0) := (blk_cell BK291.out 5).trans rfl; have hcz56_6 : w54.cell? ⟨gb291, 6, none⟩ = some (.slice none 0 0) := (blk_cell BK291.out 6).trans rfl; have hcz56_7 : w54.cell? ⟨gb291, 7, none⟩ = some (.bool false) := (blk_cell BK291.out 7).trans rfl; have hfz56_0 := blk_frozen BK291.out 0; have hfz56_1 := blk_frozen BK291.out 1; have hfz56_2 := blk_frozen BK291.out 2; have hfz56_3 := blk_frozen BK291.out 3; have hfz56_4 := blk_frozen BK291.out 4; have hfz56_5 := blk_frozen BK291.out 5; have hfz56_6 := blk_frozen BK291.out 6; have hfz56_7 := blk_frozen BK291.out 7; obtain ⟨Ao57, co57, eo57⟩ := Kd.N_slice HO_7.out; subst eo57; obtain ⟨Ao58, co58, eo58⟩ := Kd.N_slice HO_8.out; subst eo58))
       obtain ⟨w59, hW_⟩ : ∃ w_ : World, ((((((((w54.setCell ⟨gb291, 0, none⟩ (.int .i64 (t287.length : Int))).setCell ⟨gb291, 1, none⟩ (.int .i64 1)).setCell ⟨gb291, 2, none⟩ (.slice Ao53 t287.length co53)).setCell ⟨gb291, 3, none⟩ (.slice none 0 0)).setCell ⟨gb291, 4, none⟩ (.slice none 0 0)).setCell ⟨gb291, 5, none⟩ (.slice none 0 0)).setCell ⟨gb291, 6, none⟩ (.slice none 0 0)).setCell ⟨gb291, 7, none⟩ (.bool false)) = w_ := ⟨_, rfl⟩
       have n0_ : Aside0 (Kd.N k31 31 w59 w.heap.size (fun k_ => some k_ ≠ (.slice Ao58 x8_2.length co58 : Value).ownBlock ∧ some k_ ≠ (.slice Ao53 t287.length co53 : Value).ownBlock ∧ k_ ≠ g239 ∧ k_ ≠ gb291) (.slice Ao57 x7_2.length co57) x7_2) := ⟨by rw [← hW_]; exact by (with_reducible repeat (first | apply Kd.N_alloc | apply Kd.N_drewN | apply Kd.N_drew)); exact Kd.N_mono (Kd.N_far (p := ⟨gb291, 7, none⟩) (Kd.N_far (p := ⟨gb291, 6, none⟩) (Kd.N_far (p := ⟨gb291, 5, none⟩) (Kd.N_far (p := ⟨gb291, 4, none⟩) (Kd.N_far (p := ⟨gb291, 3, none⟩) (Kd.N_far (p := ⟨gb291, 2, none⟩) (Kd.N_far (p := ⟨gb291, 1, none⟩) (Kd.N_far (p := ⟨gb291, 0, none⟩) (Kd.N_mono HO_7.out (fun k_ hk => (⟨hk, hk.2⟩ : _ ∧ k_ ≠ gb291))) (fun _ hk => hk.2) (.int .i64 (t287.length : Int))) (fun _ hk => hk.2) (.int .i64 1)) (fun _ hk => hk.2) (.slice Ao53 t287.length co53)) (fun _ hk => hk.2) (.slice none 0 0)) (fun _ hk => hk.2) (.slice none 0 0)) (fun _ hk => hk.2) (.slice none 0 0)) (fun _ hk => hk.2) (.slice none 0 0)) (fun _ hk => hk.2) (.bool false)) (fun _ hk => ⟨hk.1.1.1.1, ⟨hk.1.1.2, ⟨hk.1.1.1.2, hk.1.2⟩⟩⟩)⟩
       have n1_ : Aside0 (Kd.N k31 31 w59 w.heap.size (fun k_ => some k_ ≠ (.slice Ao57 x7_2.length co57 : Value).ownBlock ∧ some k_ ≠ (.slice Ao53 t287.length co53 : Value).ownBlock ∧ k_ ≠ g239 ∧ k_ ≠ gb291) (.slice Ao58 x8_2.length co58) x8_2) := ⟨by rw [← hW_]; exact by (with_reducible repeat (first | apply Kd.N_alloc | apply Kd.N_drewN | apply Kd.N_drew)); exact Kd.N_mono (Kd.N_far (p := ⟨gb291, 7, none⟩) (Kd.N_far (p := ⟨gb291, 6, none⟩) (Kd.N_far (p := ⟨gb291, 5, none⟩) (Kd.N_far (p := ⟨gb291, 4, none⟩) (Kd.N_far (p := ⟨gb291, 3, none⟩) (Kd.N_far (p := ⟨gb291, 2, none⟩) (Kd.N_far (p := ⟨gb291, 1, none⟩) (Kd.N_far (p := ⟨gb291, 0, none⟩) (Kd.N_mono HO_8.out (fun k_ hk => (⟨hk, hk.2⟩ : _ ∧ k_ ≠ gb291))) (fun _ hk => hk.2) (.int .i64 (t287.length : Int))) (fun _ hk => hk.2) (.int .i64 1)) (fun _ hk => hk.2) (.slice Ao53 t287.length co53)) (fun _ hk => hk.2) (.slice none 0 0)) (fun _ hk => hk.2) (.slice none 0 0)) (fun _ hk => hk.2) (.slice none 0 0)) (fun _ hk => hk.2) (.slice none 0 0)) (fun _ hk => hk.2) (.bool false)) (fun _ hk => ⟨hk.1.1.1.1, ⟨hk.1.1.2, ⟨hk.1.1.1.2, hk.1.2⟩⟩⟩)⟩
       have n2_ : Aside0 (Kd.V (Kd.int .u8) 5 w59 w.heap.size (fun k_ => some k_ ≠ (.slice Ao57 x7_2.length co57 : Value).ownBlock ∧ some k_ ≠ (.slice Ao58 x8_2.length co58 : Value).ownBlock ∧ k_ ≠ g239 ∧ k_ ≠ gb291) (.slice Ao53 t287.length co53) t287) := ⟨by rw [← hW_]; exact by (with_reducible repeat (first | apply Kd.V_alloc | apply Kd.V_drewN | apply Kd.V_drew)); exact Kd.V_mono (Kd.V_far (p := ⟨gb291, 7, none⟩) (Kd.V_far (p := ⟨gb291, 6, none⟩) (Kd.V_far (p := ⟨gb291, 5, none⟩) (Kd.V_far (p := ⟨gb291, 4, none⟩) (Kd.V_far (p := ⟨gb291, 3, none⟩) (Kd.V_far (p := ⟨gb291, 2, none⟩) (Kd.V_far (p := ⟨gb291, 1, none⟩) (Kd.V_far (p := ⟨gb291, 0, none⟩) (Kd.V_mono HO289.out (fun k_ hk => (⟨hk, hk.2⟩ : _ ∧ k_ ≠ gb291))) (fun _ hk => hk.2) (.int .i64 (t287.length : Int))) (fun _ hk => hk.2) (.int .i64 1)) (fun _ hk => hk.2) (.slice Ao53 t287.length co53)) (fun _ hk => hk.2) (.slice none 0 0)) (fun _ hk => hk.2) (.slice none 0 0)) (fun _ hk => hk.2) (.slice none 0 0)) (fun _ hk => hk.2) (.slice none 0 0)) (fun _ hk => hk.2) (.bool false)) (fun _ hk => ⟨hk.1.1.1, ⟨hk.1.1.2.1, ⟨hk.1.1.2.2, hk.1.2⟩⟩⟩)⟩
       have n3_ : Aside0 (w59.heap[gb291]? = some (.cells #[.int .i64 (t287.length : Int), .int .i64 1, .slice Ao53 t287.length co53, .slice none 0 0, .slice none 0 0, .slice none 0 0, .slice none 0 0, .bool false] 31 (0, 0))) := ⟨by rw [← hW_]; exact by (with_reducible repeat (first | refine blk_drewN ?_ _ | refine blk_drew ?_ | refine blk_alloc ?_ _)); refine blk_put (cs := #[.int .i64 (t287.length : Int), .int .i64 1, .slice Ao53 t287.length co53, .slice none 0 0, .slice none 0 0, .slice none 0 0, .slice none 0 0, .bool false]) ?_ 7 _ rfl; (with_reducible repeat (first | refine blk_drewN ?_ _ | refine blk_drew ?_ | refine blk_alloc ?_ _)); refine blk_put (cs := #[.int .i64 (t287.length : Int), .int .i64 1, .slice Ao53 t287.length co53, .slice none 0 0, .slice none 0 0, .slice none 0 0, .slice none 0 0, .bool false]) ?_ 6 _ rfl; (with_reducible repeat (first | refine blk_drewN ?_ _ | refine blk_drew ?_ | refine blk_alloc ?_ _)); refine blk_put (cs := #[.int .i64 (t287.length : Int), .int .i64 1, .slice Ao53 t287.length co53, .slice none 0 0, .slice none 0 0, .slice none 0 0, .slice none 0 0, .bool false]) ?_ 5 _ rfl; (with_reducible repeat (first | refine blk_drewN ?_ _ | refine blk_drew ?_ | refine blk_alloc ?_ _)); refine blk_put (cs := #[.int .i64 (t287.length : Int), .int .i64 1, .slice Ao53 t287.length co53, .slice none 0 0, .slice none 0 0, .slice none 0 0, .slice none 0 0, .bool false]) ?_ 4 _ rfl; (with_reducible repeat (first | refine blk_drewN ?_ _ | refine blk_drew ?_ | refine blk_alloc ?_ _)); refine blk_put (cs := #[.int .i64 (t287.length : Int), .int .i64 1, .slice Ao53 t287.length co53, .slice none 0 0, .slice none 0 0, .slice none 0 0, .slice none 0 0, .bool false]) ?_ 3 _ rfl; (with_reducible repeat (first | refine blk_drewN ?_ _ | refine blk_drew ?_ | refine blk_alloc ?_ _)); refine blk_put (cs := #[.int .i64 (t287.length : Int), .int .i64 1, .slice none 0 0, .slice none 0 0, .slice none 0 0, .slice none 0 0, .slice none 0 0, .bool false]) ?_ 2 _ rfl; (with_reducible repeat (first | refine blk_drewN ?_ _ | refine blk_drew ?_ | refine blk_alloc ?_ _)); refine blk_put (cs := #[.int .i64 (t287.length : Int), .int .i64 0, .slice none 0 0, .slice none 0 0, .slice none 0 0, .slice none 0 0, .slice none 0 0, .bool false]) ?_ 1 _ rfl; (with_reducible repeat (first | refine blk_drewN ?_ _ | refine blk_drew ?_ | refine blk_alloc ?_ _)); refine blk_put (cs := #[.int .i64 0, .int .i64 0, .slice none 0 0, .slice none 0 0, .slice none 0 0, .slice none 0 0, .slice none 0 0, .bool false]) ?_ 0 _ rfl; (with_reducible repeat (first | refine blk_drewN ?_ _ | refine blk_drew ?_ | refine blk_alloc ?_ _)); exact BK291.out⟩
       have n4_ : Aside0 (IsS84 w w59 g239 t237 t290) := ⟨by rw [← hW_]; exact by repeat (first | (with_reducible first | exact HI239.out | apply IsS84.alloc | apply IsS84.drewN | apply IsS84.drew | apply IsS84.set_1 | refine IsS84.far ?_ NB239_291.out _) | exact HI239.out)⟩
       have n5_ : Aside0 (Below w.heap.size w w59) := ⟨by rw [← hW_]; exact by repeat (first | (with_reducible first | exact HB.out | apply below_alloc | apply pw_below_drewN | apply below_drew1 | refine below_set ?_ (IsS84.ge HI239.out) | refine below_set ?_ GE291.out) | exact HB.out)⟩
       (try clear HO_7)
       (try clear HO_8)
       (try clear HO289)
       (try clear BK291)
       (try clear HI239)
       (try clear HB)
       rw [hW_]
       clear hW_
       have HO_7 := n0_
       have HO_8 := n1_
       have HO289 := n2_
       have BK291 := n3_
       have HI239 := n4_
       have HB := n5_
       clear n0_ n1_ n2_ n3_ n4_ n5_
       have n0_ := Aside0.mk (Kd.N_drew HO_7.out)
       have n1_ := Aside0.mk (Kd.N_drew HO_8.out)
       have n2_ := Aside0.mk (Kd.V_drew HO289.out)
       have n3_ := Aside0.mk (blk_drew BK291.out)
       have n4_ := Aside0.mk (IsS84.drew HI239.out)
       have n5_ := Aside0.mk (below_drew1 HB.out)
       clear HO_7
       clear HO_8
       clear HO289
       clear BK291
       clear HI239
       clear HB
       have HO_7 := n0_
       have HO_8 := n1_
       have HO289 := n2_
       have BK291 := n3_
       have HI239 := n4_
       have HB := n5_
       clear n0_ n1_ n2_ n3_ n4_ n5_
       refine start_ (n := 15) (S := fun w' => w'.cell? ⟨gb291, 0, none⟩ = some (.int .i64 (t287.length : Int)) ∧ w'.cell? ⟨gb291, 1, none⟩ = some (.int .i64 1) ∧ w'.cell? ⟨gb291, 2, none⟩ = some (.slice Ao53 t287.length co53) ∧ w'.cell? ⟨gb291, 3, none⟩ = some (.slice none 0 0) ∧ w'.cell? ⟨gb291, 4, none⟩ = some (.slice none 0 0) ∧ w'.cell? ⟨gb291, 5, none⟩ = some (.slice none 0 0) ∧ w'.cell? ⟨gb291, 6, none⟩ = some (.slice none 0 0) ∧ w'.cell? ⟨gb291, 7, none⟩ = some (.bool false)) (ds := []) #[false,false,false,false,false,false,false,false,false,false,false,false,false,false,false] (by kernel_rfl) rfl rfl ⟨(blk_cell BK291.out 0).trans rfl, (blk_cell BK291.out 1).trans rfl, (blk_cell BK291.out 2).trans rfl, (blk_cell BK291.out 3).trans rfl, (blk_cell BK291.out 4).trans rfl, (blk_cell BK291.out 5).trans rfl, (blk_cell BK291.out 6).trans rfl, (blk_cell BK291.out 7).trans rfl⟩ (fun hHeld => ?_); refine with_tabW law16_ProductSingle.tab16 law16_ProductSingle.bits16 (fun HT_ HW_ => ?_)
       generalize w59.drew = w60 at HO_7 HO_8 HO289 BK291 HI239 HB hHeld ⊢
       refine pure_ (i := 0) (N := some 83) (v := ?_) (a' := ?_) #[true,false,false,false,false,false,false,false,false,false,false,false,false,false,false] rfl rfl (any_of HT_.out (by kernel_rfl)) (fun _ _ _ h => h) (Or.inl ⟨by rfl, ?_⟩) ?_ ?_
       rotate_left
       ·
        intro w'
        go_simp
        with_reducible rfl
       rotate_left
       ·
        simp only [Act.put, setIfInBounds_toArray, set_cons_zero, set_cons_succ, i64_w, i32_w]
        rfl
       refine pure_ (i := 6) (N := some 89) (v := ?_) (a' := ?_) #[true,false,false,false,false,false,true,false,false,false,false,false,false,false,false] rfl rfl (any_of HT_.out (by kernel_rfl)) (fun _ _ _ h => h) (Or.inl ⟨by rfl, ?_⟩) ?_ ?_
       rotate_left
       ·
        intro w'
        go_simp
        with_reducible rfl
       rotate_left
       ·
        simp only [Act.put, setIfInBounds_toArray, set_cons_zero, set_cons_succ, i64_w, i32_w]
        rfl
       refine pure_ (i := 8) (N := some 91) (v := ?_) (a' := ?_) #[true,false,false,false,false,false,true,false,true,false,false,false,false,false,false] rfl rfl (any_of HT_.out (by kernel_rfl)) (fun _ _ _ h => h) (Or.inl ⟨by rfl, ?_⟩) ?_ ?_
       rotate_left
       ·
        intro w'
        go_simp
        with_reducible rfl
       rotate_left
       ·
        simp only [Act.put, setIfInBounds_toArray, set_cons_zero, set_cons_succ, i64_w, i32_w]
        rfl
       refine pure_ (i := 9) (N := some 92) (v := ?_) (a' := ?_) #[true,false,false,false,false,false,true,false,true,true,false,false,false,false,false] rfl rfl (any_of HT_.out (by kernel_rfl)) (fun _ _ _ h => h) (Or.inl ⟨by rfl, ?_⟩) ?_ ?_
       rotate_left
       ·
        intro w'
        go_simp
        with_reducible rfl
       rotate_left
       ·
        simp only [Act.put, setIfInBounds_toArray, set_cons_zero, set_cons_succ, i64_w, i32_w]
        rfl
       refine pure_ (i := 10) (N := some 93) (v := ?_) (a' := ?_) #[true,false,false,false,false,false,true,false,true,true,true,false,false,false,false] rfl rfl (any_of HT_.out (by kernel_rfl)) (fun _ _ _ h => h) (Or.inl ⟨by rfl, ?_⟩) ?_ ?_
       rotate_left
       ·
        intro w'
        go_simp
        with_reducible rfl
       rotate_left
       ·
        simp only [Act.put, setIfInBounds_toArray, set_cons_zero, set_cons_succ, i64_w, i32_w]
        rfl
       refine pure_ (i := 11) (N := some 94) (v := ?_) (a' := ?_) #[true,false,false,false,false,false,true,false,true,true,true,true,false,false,false] rfl rfl (any_of HT_.out (by kernel_rfl)) (fun _ _ _ h => h) (Or.inl ⟨by rfl, ?_⟩) ?_ ?_
       rotate_left
       ·
        intro w'
        go_simp
        with_reducible rfl
       rotate_left
       ·
        simp only [Act.put, setIfInBounds_toArray, set_cons_zero, set_cons_succ, i64_w, i32_w]
        rfl
       refine take_ (i := 1) (N := some 84) (v := ?_) (a' := ?_) #[true,true,false,false,false,false,true,false,true,true,true,true,false,false,false] rfl rfl (take_ofW HT_.out HW_.out (by kernel_rfl)) (fun _ _ _ h => h) (Or.inl ⟨by rfl, ?_⟩) hHeld ?_ ?_
       rotate_left
       ·
        rintro w' ⟨s0, s1, s2, s3, s4, s5, s6, s7⟩
        go_simp
        with_reducible rfl
       rotate_left
       ·
        simp only [Act.put, setIfInBounds_toArray, set_cons_zero, set_cons_succ, i64_w, i32_w]
        rfl
       refine take_ (i := 4) (N := some 87) (v := ?_) (a' := ?_) #[true,true,false,false,true,false,true,false,true,true,true,true,false,false,false] rfl rfl (take_ofW HT_.out HW_.out (by kernel_rfl)) (fun _ _ _ h => h) (Or.inl ⟨by rfl, ?_⟩) hHeld ?_ ?_
       rotate_left
       ·
        rintro w' ⟨s0, s1, s2, s3, s4, s5, s6, s7⟩
        go_simp
        with_reducible rfl
       rotate_left
       ·
        simp only [Act.put, setIfInBounds_toArray, set_cons_zero, set_cons_succ, i64_w, i32_w]
        rfl
       refine join_ (σ := Value × Value × Value) 4 #[true,true,true,true,true,true,true,false,true,true,true,true,false,false,false] (fun s_ => [(85, s_.1), (86, s_.2.1), (88, s_.2.2)]) (fun s_ w' => (w'.cell? ⟨gb291, 0, none⟩ = some (.int .i64 (t287.length : Int)) ∧ w'.cell? ⟨gb291, 1, none⟩ = some (.int .i64 1) ∧ w'.cell? ⟨gb291, 2, none⟩ = some (.slice Ao53 t287.length co53) ∧ w'.cell? ⟨gb291, 3, none⟩ = some (.slice none 0 0) ∧ w'.cell? ⟨gb291, 4, none⟩ = some (.slice none 0 0) ∧ w'.cell? ⟨gb291, 5, none⟩ = some (.slice none 0 0) ∧ w'.cell? ⟨gb291, 6, none⟩ = some (.slice none 0 0) ∧ w'.cell? ⟨gb291, 7, none⟩ = some (.bool false)) ∧ (Kd.V (Kd.int .u8) 5 w' w.heap.size (fun k_ => some k_ ≠ (s_.1 : Value).ownBlock ∧ some k_ ≠ (s_.2.1 : Value).ownBlock ∧ some k_ ≠ (s_.2.2 : Value).ownBlock ∧ some k_ ≠ (.slice Ao58 x8_2.length co58 : Value).ownBlock ∧ k_ ≠ g239 ∧ k_ ≠ gb291) (.slice Ao53 t287.length co53) t287) ∧ (Kd.N k31 31 w' w.heap.size (fun k_ => some k_ ≠ (s_.2.1 : Value).ownBlock ∧ some k_ ≠ (s_.2.2 : Value).ownBlock ∧ some k_ ≠ (.slice Ao58 x8_2.length co58 : Value).ownBlock ∧ k_ ≠ g239 ∧ k_ ≠ gb291) s_.1 y292) ∧ (Kd.N k31 31 w' w.heap.size (fun k_ => some k_ ≠ (s_.2.2 : Value).ownBlock ∧ some k_ ≠ (.slice Ao58 x8_2.length co58 : Value).ownBlock ∧ k_ ≠ g239 ∧ k_ ≠ gb291) s_.2.1 y295) ∧ (Kd.N k31 31 w' w.heap.size (fun k_ => some k_ ≠ (s_.1 : Value).ownBlock ∧ some k_ ≠ (s_.2.1 : Value).ownBlock ∧ some k_ ≠ (.slice Ao58 x8_2.length co58 : Value).ownBlock ∧ k_ ≠ g239 ∧ k_ ≠ gb291) s_.2.2 y298) ∧ (Kd.N k31 31 w' w.heap.size (fun k_ => some k_ ≠ (.slice Ao53 t287.length co53 : Value).ownBlock ∧ some k_ ≠ (s_.1 : Value).ownBlock ∧ some k_ ≠ (s_.2.1 : Value).ownBlock ∧ some k_ ≠ (s_.2.2 : Value).ownBlock ∧ k_ ≠ g239 ∧ k_ ≠ gb291) (.slice Ao58 x8_2.length co58) x8_2) ∧ (w'.heap[gb291]? = some (.cells #[.int .i64 (t287.length : Int), .int .i64 1, .slice Ao53 t287.length co53, .slice none 0 0, .slice none 0 0, .slice none 0 0, .slice none 0 0, .bool false] 31 (0, 0))) ∧ (IsS84 w w' g239 t237 t290) ∧ (Below w.heap.size w w')) ?_ ?_
       rotate_left
       ·
        intro hCont
        refine two_ (i := 2) (j := 5) (Ni := some 85) (Nj := some 88) #[true,true,true,false,true,false,true,false,true,true,true,true,false,false,false] #[true,true,false,false,true,true,true,false,true,true,true,true,false,false,false] rfl rfl rfl rfl (two_of HT_.out (by kernel_rfl)) (by decide) (by decide) (fun K hK => ?_) (fun K hK => ?_)
        ·
         skip
         refine Kd.N_lit_step k31 _ 31 ?hg (N' := 85) ?hd (xs := ([(⟨(t287.length : Int), 1, t287, ([] : List Int), ([] : List (S101)), ([] : List (S79)), ([] : List Int), false⟩ : S31)] : List (S31))) (inner := [.int .i64 (t287.length : Int), .int .i64 1, .slice Ao53 t287.length co53, .slice none 0 0, .slice none 0 0, .slice none 0 0, .slice none 0 0, .bool false]) (ok := (fun k_ => some k_ ≠ (.slice Ao57 x7_2.length co57 : Value).ownBlock ∧ some k_ ≠ (.slice Ao58 x8_2.length co58 : Value).ownBlock ∧ k_ ≠ gb291 ∧ k_ ≠ g239)) (okp := (fun k_ => some k_ ≠ (.slice Ao57 x7_2.length co57 : Value).ownBlock ∧ some k_ ≠ (.slice Ao58 x8_2.length co58 : Value).ownBlock ∧ k_ ≠ gb291 ∧ k_ ≠ g239)) ?hr ?hp (fun _ hk => hk) ((show ∀ k_, w60.heap.size ≤ k_ → (fun k_ => some k_ ≠ (.slice Ao57 x7_2.length co57 : Value).ownBlock ∧ some k_ ≠ (.slice Ao58 x8_2.length co58 : Value).ownBlock ∧ k_ ≠ gb291 ∧ k_ ≠ g239) k_ from fun k_ hk => ⟨Kd.fresh' (Kd.N_lt (kN_ HO_7.out)) k_ hk, Kd.fresh' (Kd.N_lt (kN_ HO_8.out)) k_ hk, Kd.freshB (g := gb291) (o := .cells #[.int .i64 (t287.length : Int), .int .i64 1, .slice Ao53 t287.length co53, .slice none 0 0, .slice none 0 0, .slice none 0 0, .slice none 0 0, .bool false] 31 (0, 0)) (bk_ BK291.out) k_ hk, IsS84.fresh (by repeat (first | (with_reducible first | exact HI239.out | apply IsS84.alloc | apply IsS84.drewN | apply IsS84.drew | apply IsS84.set_1 | refine IsS84.far ?_ NB239_291.out _) | exact HI239.out)) k_ hk⟩) _ (Nat.le_refl _)) (Below.refl _ _) (Nat.le_refl _) (by simp) ?_; (case hd => rfl); (case hg => rfl); (case hr => first | (go_simp; done) | (go_simp; rfl)); (case hp => exact (Reps.c8 (show Kd.FK k31 _ _ (⟨(t287.length : Int), 1, t287, ([] : List Int), ([] : List (S101)), ([] : List (S79)), ([] : List Int), false⟩ : S31) [.int .i64 (t287.length : Int), .int .i64 1, .slice Ao53 t287.length co53, .slice none 0 0, .slice none 0 0, .slice none 0 0, .slice none 0 0, .bool false] from (k31_mkF _ _ (⟨(t287.length : Int), 1, t287, ([] : List Int), ([] : List (S101)), ([] : List (S79)), ([] : List Int), false⟩ : S31) (Kd.V_reads' (Kd.V_mono (ok' := (fun k_ => some k_ ≠ (.slice Ao57 x7_2.length co57 : Value).ownBlock ∧ some k_ ≠ (.slice Ao58 x8_2.length co58 : Value).ownBlock ∧ k_ ≠ gb291 ∧ k_ ≠ g239)) (HO289.out) (fun k_ hk => ⟨hk.1, ⟨hk.2.1, ⟨hk.2.2.2, hk.2.2.1⟩⟩⟩))).2.1 (Kd.V_F (Kd.V_mono (ok' := (fun k_ => some k_ ≠ (.slice Ao57 x7_2.length co57 : Value).ownBlock ∧ some k_ ≠ (.slice Ao58 x8_2.length co58 : Value).ownBlock ∧ k_ ≠ gb291 ∧ k_ ≠ g239)) (HO289.out) (fun k_ hk => ⟨hk.1, ⟨hk.2.1, ⟨hk.2.2.2, hk.2.2.1⟩⟩⟩))) (Nat.le_refl _) (Kd.F_nil _ _ _) (Nat.le_refl _) (Kd.F_nil _ _ _) (Nat.le_refl _) (Kd.F_nil _ _ _) (Nat.le_refl _) (Kd.F_nil _ _ _))) (Reps.none _ _)))
         intro v293 w61 ho62 hb hg_ hnew_
         clear hg_ hnew_
         (first | rw [← Ny292.out] at ho62 | (simp only [Int.reduceToNat] at ho62; rw [← Ny292.out] at ho62))
         have n0_ := Aside0.mk (Kd.N_elder' (kN_ HO_7.out) (Kd.N_base ho62) hb)
         have n1_ := Aside0.mk (Kd.N_elder' (kN_ HO_8.out) (Kd.N_base ho62) hb)
         have n2_ := Aside0.mk (Kd.V_elder' (kV_ HO289.out) (Kd.N_base ho62) hb)
         have n3_ := Aside0.mk (Kd.N_lower ho62 (below_size (by repeat (first | (with_reducible first | exact HB.out | apply below_alloc | apply pw_below_drewN | apply below_drew1 | refine below_set ?_ (IsS84.ge HI239.out) | refine below_set ?_ GE291.out) | exact HB.out))))
         have n4_ := Aside0.mk (IsS84.below (by repeat (first | (with_reducible first | exact HI239.out | apply IsS84.alloc | apply IsS84.drewN | apply IsS84.drew | apply IsS84.set_1 | refine IsS84.far ?_ NB239_291.out _) | exact HI239.out)) hb)
         have n5_ := Aside0.mk (blk_below (g := gb291) (o := .cells #[.int .i64 (t287.length : Int), .int .i64 1, .slice Ao53 t287.length co53, .slice none 0 0, .slice none 0 0, .slice none 0 0, .slice none 0 0, .bool false] 31 (0, 0)) (bk_ BK291.out) hb)
         have n6_ := Aside0.mk (below_step (by repeat (first | (with_reducible first | exact HB.out | apply below_alloc | apply pw_below_drewN | apply below_drew1 | refine below_set ?_ (IsS84.ge HI239.out) | refine below_set ?_ GE291.out) | exact HB.out)) hb)
         clear HO_7
         clear HO_8
         clear HO289
         clear HI239
         clear BK291
         clear HB
         have HO_7 := n0_
         have HO_8 := n1_
         have HO289 := n2_
         have HO294 := n3_
         have HI239 := n4_
         have BK291 := n5_
         have HB := n6_
         clear n0_ n1_ n2_ n3_ n4_ n5_ n6_
         clear hb ho62
         obtain ⟨Ao63, co63, eo63⟩ := Kd.N_slice HO294.out
         (first | subst eo63 | (injection eo63 with f1_ f2_ f3_; have f4_ := f1_.symm; have f5_ := f3_.symm; clear f1_ f2_ f3_; subst f4_; subst f5_))
         refine hK.out _ _ ⟨(blk_cell BK291.out 0).trans rfl, (blk_cell BK291.out 1).trans rfl, (blk_cell BK291.out 2).trans rfl, (blk_cell BK291.out 3).trans rfl, (blk_cell BK291.out 4).trans rfl, (blk_cell BK291.out 5).trans rfl, (blk_cell BK291.out 6).trans rfl, (blk_cell BK291.out 7).trans rfl⟩ (fun hHeld => ?_)
         clear hK K
         refine norm_ (a' := ?_) ?_ ?_
         rotate_left
         ·
          show Act.put _ (some 85) _ = _
          simp only [Act.put, setIfInBounds_toArray, set_cons_zero, set_cons_succ, i64_w, i32_w]
          rfl
         refine two_ (i := 3) (j := 5) (Ni := some 86) (Nj := some 88) #[true,true,true,true,true,false,true,false,true,true,true,true,false,false,false] #[true,true,true,false,true,true,true,false,true,true,true,true,false,false,false] rfl rfl rfl rfl (two_of HT_.out (by kernel_rfl)) (by decide) (by decide) (fun K hK => ?_) (fun K hK => ?_)
         ·
          skip
          refine Kd.N_append_rows_step k31 (w0 := w) w.heap.size (by rfl) (.tmp 83) (.tmp 85) 22 31 (.agg #[(.int .i64 0), (.int .i64 0), (.slice none 0 0), (.slice none 0 0), (.slice none 0 0), (.slice none 0 0), (.slice none 0 0), (.bool false)]) 144 rfl Try.underlying22 info31 rfl (by decide) (by omega) (.slice Ao57 x7_2.length co57) x7_2 y292 _ _ _ (fun k_ => some k_ ≠ (.slice Ao58 x8_2.length co58 : Value).ownBlock ∧ k_ ≠ gb291 ∧ k_ ≠ g239) (fun k_ => ((fun k_ => some k_ ≠ (.slice Ao58 x8_2.length co58 : Value).ownBlock ∧ k_ ≠ gb291 ∧ k_ ≠ g239)) k_ ∧ some k_ ≠ (.slice Ao57 x7_2.length co57 : Value).ownBlock) rfl rfl ?aO ?aR (fun _ hk => hk) ?aF ?aB ?aS ?aL ?_
          (case aR => exact (by skip; exact Kd.N_F (Kd.N_mono (ok' := (fun k_ => ((fun k_ => some k_ ≠ (.slice Ao58 x8_2.length co58 : Value).ownBlock ∧ k_ ≠ gb291 ∧ k_ ≠ g239)) k_ ∧ some k_ ≠ (.slice Ao57 x7_2.length co57 : Value).ownBlock)) (HO294.out) (fun k_ hk => ⟨⟨hk.2.1, ⟨hk.2.2.1, hk.2.2.2⟩⟩, hk.1⟩))))
          (case aB => exact (by repeat (first | (with_reducible first | exact HB.out | apply below_alloc | apply pw_below_drewN | apply below_drew1 | refine below_set ?_ (IsS84.ge HI239.out) | refine below_set ?_ GE291.out) | exact HB.out)))
          (case aF => exact (fun k_ hk => ⟨Kd.fresh' (Kd.N_lt (kN_ HO_8.out)) k_ hk, Kd.freshB (g := gb291) (o := .cells #[.int .i64 (t287.length : Int), .int .i64 1, .slice Ao53 t287.length co53, .slice none 0 0, .slice none 0 0, .slice none 0 0, .slice none 0 0, .bool false] 31 (0, 0)) (bk_ BK291.out) k_ hk, IsS84.fresh (by repeat (first | (with_reducible first | exact HI239.out | apply IsS84.alloc | apply IsS84.drewN | apply IsS84.drew | apply IsS84.set_1 | refine IsS84.far ?_ NB239_291.out _) | exact HI239.out)) k_ hk⟩))
          (case aO => exact (by (with_reducible repeat (first | apply Kd.N_alloc | apply Kd.N_drewN | apply Kd.N_drew)); exact Kd.N_mono HO_7.out (fun _ hk => ⟨hk.1.1, ⟨hk.1.2.2.2, hk.1.2.2.1⟩⟩)))
          (case aS => exact (below_size (by repeat (first | (with_reducible first | exact HB.out | apply below_alloc | apply pw_below_drewN | apply below_drew1 | refine below_set ?_ (IsS84.ge HI239.out) | refine below_set ?_ GE291.out) | exact HB.out))))
          (case aL => have := LMc50.out; omega)
          intro v296 w64 ho hb hg hat
          rw [← Ny295.out] at ho
          have n0_ := Aside0.mk (Kd.N_afterv (ok := (fun k_ => some k_ ≠ (.slice Ao53 t287.length co53 : Value).ownBlock ∧ some k_ ≠ (.slice Ao63 y292.length co63 : Value).ownBlock ∧ k_ ≠ g239 ∧ k_ ≠ gb291)) (by (with_reducible repeat (first | apply Kd.N_alloc | apply Kd.N_drewN | apply Kd.N_drew)); exact Kd.N_mono HO_8.out (fun _ hk => ⟨⟨hk.1.2.1, ⟨hk.2, ⟨hk.1.2.2.1, hk.1.2.2.2⟩⟩⟩, hk.1.1⟩)) hg hat)
          have n1_ := Aside0.mk (IsS84.grown (by repeat (first | (with_reducible first | exact HI239.out | apply IsS84.alloc | apply IsS84.drewN | apply IsS84.drew | apply IsS84.set_1 | refine IsS84.far ?_ NB239_291.out _) | exact HI239.out)) hg (IsS84.own_neN HI239.out HO_7.out (by decide)))
          have n2_ := Aside0.mk (Kd.V_afterv (ok := (fun k_ => some k_ ≠ (.slice Ao58 x8_2.length co58 : Value).ownBlock ∧ some k_ ≠ (.slice Ao63 y292.length co63 : Value).ownBlock ∧ k_ ≠ g239 ∧ k_ ≠ gb291)) (by (with_reducible repeat (first | apply Kd.V_alloc | apply Kd.V_drewN | apply Kd.V_drew)); exact Kd.V_mono HO289.out (fun _ hk => ⟨⟨hk.1.2.1, ⟨hk.2, ⟨hk.1.2.2.1, hk.1.2.2.2⟩⟩⟩, hk.1.1⟩)) hg hat)
          have n3_ := Aside0.mk (blk_grown (g := gb291) (o := .cells #[.int .i64 (t287.length : Int), .int .i64 1, .slice Ao53 t287.length co53, .slice none 0 0, .slice none 0 0, .slice none 0 0, .slice none 0 0, .bool false] 31 (0, 0)) (bk_ BK291.out) hg (Kd.N_away HO_7.out (fun _ hk => hk.1.2.2.2)))
          have n4_ := Aside0.mk (Kd.N_afterv (ok := (fun k_ => some k_ ≠ (.slice Ao58 x8_2.length co58 : Value).ownBlock ∧ k_ ≠ gb291 ∧ k_ ≠ g239)) (by (with_reducible repeat (first | apply Kd.N_alloc | apply Kd.N_drewN | apply Kd.N_drew)); exact Kd.N_mono HO294.out (fun _ hk => ⟨⟨hk.2.1, ⟨hk.2.2.1, hk.2.2.2⟩⟩, hk.1⟩)) hg hat)
          have n5_ := Aside0.mk (hb)
          have n6_ := Aside0.mk (ho)
          clear HO_8
          clear HI239
          clear HO289
          clear BK291
          clear HO294
          clear HB
          clear HO_7
          have HO_8 := n0_
          have HI239 := n1_
          have HO289 := n2_
          have BK291 := n3_
          have HO294 := n4_
          have HB := n5_
          have HO297 := n6_
          clear n0_ n1_ n2_ n3_ n4_ n5_ n6_
          clear ho hb hg hat
          refine hK.out _ _ ⟨(blk_cell BK291.out 0).trans rfl, (blk_cell BK291.out 1).trans rfl, (blk_cell BK291.out 2).trans rfl, (blk_cell BK291.out 3).trans rfl, (blk_cell BK291.out 4).trans rfl, (blk_cell BK291.out 5).trans rfl, (blk_cell BK291.out 6).trans rfl, (blk_cell BK291.out 7).trans rfl⟩ (fun hHeld => ?_)
          clear hK K
          refine norm_ (a' := ?_) ?_ ?_
          rotate_left
          ·
           show Act.put _ (some 86) _ = _
           simp only [Act.put, setIfInBounds_toArray, set_cons_zero, set_cons_succ, i64_w, i32_w]
           rfl
          refine one_ (i := 5) (N := some 88) #[true,true,true,true,true,true,true,false,true,true,true,true,false,false,false] rfl rfl (one_of HT_.out (by kernel_rfl)) (by decide) (fun K hK => ?_)
          refine Kd.N_lit_step k31 _ 31 ?hg (N' := 88) ?hd (xs := ([(⟨(t287.length : Int), 1, t287, ([] : List Int), ([] : List (S101)), ([] : List (S79)), ([] : List Int), false⟩ : S31)] : List (S31))) (inner := [.int .i64 (t287.length : Int), .int .i64 1, .slice Ao53 t287.length co53, .slice none 0 0, .slice none 0 0, .slice none 0 0, .slice none 0 0, .bool false]) (ok := (fun k_ => some k_ ≠ (.slice Ao58 x8_2.length co58 : Value).ownBlock ∧ some k_ ≠ (.slice Ao63 y292.length co63 : Value).ownBlock ∧ some k_ ≠ (v296 : Value).ownBlock ∧ k_ ≠ gb291 ∧ k_ ≠ g239)) (okp := (fun k_ => some k_ ≠ (.slice Ao58 x8_2.length co58 : Value).ownBlock ∧ some k_ ≠ (.slice Ao63 y292.length co63 : Value).ownBlock ∧ some k_ ≠ (v296 : Value).ownBlock ∧ k_ ≠ gb291 ∧ k_ ≠ g239)) ?hr ?hp (fun _ hk => hk) ((show ∀ k_, w64.heap.size ≤ k_ → (fun k_ => some k_ ≠ (.slice Ao58 x8_2.length co58 : Value).ownBlock ∧ some k_ ≠ (.slice Ao63 y292.length co63 : Value).ownBlock ∧ some k_ ≠ (v296 : Value).ownBlock ∧ k_ ≠ gb291 ∧ k_ ≠ g239) k_ from fun k_ hk => ⟨Kd.fresh' (Kd.N_lt (kN_ HO_8.out)) k_ hk, Kd.fresh' (Kd.N_lt (kN_ HO294.out)) k_ hk, Kd.fresh' (Kd.N_lt (kN_ HO297.out)) k_ hk, Kd.freshB (g := gb291) (o := .cells #[.int .i64 (t287.length : Int), .int .i64 1, .slice Ao53 t287.length co53, .slice none 0 0, .slice none 0 0, .slice none 0 0, .slice none 0 0, .bool false] 31 (0, 0)) (bk_ BK291.out) k_ hk, IsS84.fresh (by repeat (first | (with_reducible first | exact HI239.out | apply IsS84.alloc | apply IsS84.drewN | apply IsS84.drew | apply IsS84.set_1 | refine IsS84.far ?_ NB239_291.out _) | exact HI239.out)) k_ hk⟩) _ (Nat.le_refl _)) (Below.refl _ _) (Nat.le_refl _) (by simp) ?_; (case hd => rfl); (case hg => rfl); (case hr => first | (go_simp; done) | (go_simp; rfl)); (case hp => exact (Reps.c8 (show Kd.FK k31 _ _ (⟨(t287.length : Int), 1, t287, ([] : List Int), ([] : List (S101)), ([] : List (S79)), ([] : List Int), false⟩ : S31) [.int .i64 (t287.length : Int), .int .i64 1, .slice Ao53 t287.length co53, .slice none 0 0, .slice none 0 0, .slice none 0 0, .slice none 0 0, .bool false] from (k31_mkF _ _ (⟨(t287.length : Int), 1, t287, ([] : List Int), ([] : List (S101)), ([] : List (S79)), ([] : List Int), false⟩ : S31) (Kd.V_reads' (Kd.V_mono (ok' := (fun k_ => some k_ ≠ (.slice Ao58 x8_2.length co58 : Value).ownBlock ∧ some k_ ≠ (.slice Ao63 y292.length co63 : Value).ownBlock ∧ some k_ ≠ (v296 : Value).ownBlock ∧ k_ ≠ gb291 ∧ k_ ≠ g239)) (HO289.out) (fun k_ hk => ⟨hk.1.1, ⟨hk.1.2.1, ⟨hk.2, ⟨hk.1.2.2.2, hk.1.2.2.1⟩⟩⟩⟩))).2.1 (Kd.V_F (Kd.V_mono (ok' := (fun k_ => some k_ ≠ (.slice Ao58 x8_2.length co58 : Value).ownBlock ∧ some k_ ≠ (.slice Ao63 y292.length co63 : Value).ownBlock ∧ some k_ ≠ (v296 : Value).ownBlock ∧ k_ ≠ gb291 ∧ k_ ≠ g239)) (HO289.out) (fun k_ hk => ⟨hk.1.1, ⟨hk.1.2.1, ⟨hk.2, ⟨hk.1.2.2.2, hk.1.2.2.1⟩⟩⟩⟩))) (Nat.le_refl _) (Kd.F_nil _ _ _) (Nat.le_refl _) (Kd.F_nil _ _ _) (Nat.le_refl _) (Kd.F_nil _ _ _) (Nat.le_refl _) (Kd.F_nil _ _ _))) (Reps.none _ _)))
          intro v299 w65 ho66 hb hg_ hnew_
          clear hg_ hnew_
          (first | rw [← Ny298.out] at ho66 | (simp only [Int.reduceToNat] at ho66; rw [← Ny298.out] at ho66))
          have n0_ := Aside0.mk (Kd.N_elder' (kN_ HO_8.out) (Kd.N_base ho66) hb)
          have n1_ := Aside0.mk (Kd.V_elder' (kV_ HO289.out) (Kd.N_base ho66) hb)
          have n2_ := Aside0.mk (Kd.N_elder' (kN_ HO294.out) (Kd.N_base ho66) hb)
          have n3_ := Aside0.mk (Kd.N_elder' (kN_ HO297.out) (Kd.N_base ho66) hb)
          have n4_ := Aside0.mk (Kd.N_lower ho66 (below_size (by repeat (first | (with_reducible first | exact HB.out | apply below_alloc | apply pw_below_drewN | apply below_drew1 | refine below_set ?_ (IsS84.ge HI239.out) | refine below_set ?_ GE291.out) | exact HB.out))))
          have n5_ := Aside0.mk (IsS84.below (by repeat (first | (with_reducible first | exact HI239.out | apply IsS84.alloc | apply IsS84.drewN | apply IsS84.drew | apply IsS84.set_1 | refine IsS84.far ?_ NB239_291.out _) | exact HI239.out)) hb)
          have n6_ := Aside0.mk (blk_below (g := gb291) (o := .cells #[.int .i64 (t287.length : Int), .int .i64 1, .slice Ao53 t287.length co53, .slice none 0 0, .slice none 0 0, .slice none 0 0, .slice none 0 0, .bool false] 31 (0, 0)) (bk_ BK291.out) hb)
          have n7_ := Aside0.mk (below_step (by repeat (first | (with_reducible first | exact HB.out | apply below_alloc | apply pw_below_drewN | apply below_drew1 | refine below_set ?_ (IsS84.ge HI239.out) | refine below_set ?_ GE291.out) | exact HB.out)) hb)
          clear HO_8
          clear HO289
          clear HO294
          clear HO297
          clear HI239
          clear BK291
          clear HB
          have HO_8 := n0_
          have HO289 := n1_
          have HO294 := n2_
          have HO297 := n3_
          have HO300 := n4_
          have HI239 := n5_
          have BK291 := n6_
          have HB := n7_
          clear n0_ n1_ n2_ n3_ n4_ n5_ n6_ n7_
          clear hb ho66
          obtain ⟨Ao67, co67, eo67⟩ := Kd.N_slice HO300.out
          (first | subst eo67 | (injection eo67 with f1_ f2_ f3_; have f4_ := f1_.symm; have f5_ := f3_.symm; clear f1_ f2_ f3_; subst f4_; subst f5_))
          refine hK.out _ _ ⟨(blk_cell BK291.out 0).trans rfl, (blk_cell BK291.out 1).trans rfl, (blk_cell BK291.out 2).trans rfl, (blk_cell BK291.out 3).trans rfl, (blk_cell BK291.out 4).trans rfl, (blk_cell BK291.out 5).trans rfl, (blk_cell BK291.out 6).trans rfl, (blk_cell BK291.out 7).trans rfl⟩ (fun hHeld => ?_)
          clear hK K
          refine norm_ (a' := ?_) ?_ ?_
          rotate_left
          ·
           show Act.put _ (some 88) _ = _
           simp only [Act.put, setIfInBounds_toArray, set_cons_zero, set_cons_succ, i64_w, i32_w]
           rfl
          exact norm_ (by simp only [putAll, Act.put, setIfInBounds_toArray, set_cons_zero, set_cons_succ]) (hCont (.slice Ao63 y292.length co63, v296, .slice Ao67 y298.length co67) _ ⟨hHeld, (by (with_reducible repeat (first | apply Kd.V_alloc | apply Kd.V_drewN | apply Kd.V_drew)); exact Kd.V_mono HO289.out (fun _ hk => ⟨hk.1.1.2.1, ⟨hk.1.2, ⟨hk.2, ⟨hk.1.1.1, ⟨hk.1.1.2.2.1, hk.1.1.2.2.2⟩⟩⟩⟩⟩)), (by (with_reducible repeat (first | apply Kd.N_alloc | apply Kd.N_drewN | apply Kd.N_drew)); exact Kd.N_mono HO294.out (fun _ hk => ⟨hk.1.2, ⟨hk.2, ⟨hk.1.1.1, ⟨hk.1.1.2.2, hk.1.1.2.1⟩⟩⟩⟩)), (by (with_reducible repeat (first | apply Kd.N_alloc | apply Kd.N_drewN | apply Kd.N_drew)); exact Kd.N_mono HO297.out (fun _ hk => ⟨hk.2, ⟨hk.1.1, ⟨hk.1.2.2, hk.1.2.1⟩⟩⟩)), (by (with_reducible repeat (first | apply Kd.N_alloc | apply Kd.N_drewN | apply Kd.N_drew)); exact Kd.N_mono HO300.out (fun _ hk => ⟨hk.2.1, ⟨hk.2.2.1, ⟨hk.1, ⟨hk.2.2.2.2, hk.2.2.2.1⟩⟩⟩⟩)), (by (with_reducible repeat (first | apply Kd.N_alloc | apply Kd.N_drewN | apply Kd.N_drew)); exact Kd.N_mono HO_8.out (fun _ hk => ⟨hk.1.1.1, ⟨hk.1.1.2.1, ⟨hk.1.2, ⟨hk.2, ⟨hk.1.1.2.2.1, hk.1.1.2.2.2⟩⟩⟩⟩⟩)), (bk_ BK291.out), (by repeat (first | (with_reducible first | exact HI239.out | apply IsS84.alloc | apply IsS84.drewN | apply IsS84.drew | apply IsS84.set_1 | refine IsS84.far ?_ NB239_291.out _) | exact HI239.out)), (by repeat (first | (with_reducible first | exact HB.out | apply below_alloc | apply pw_below_drewN | apply below_drew1 | refine below_set ?_ (IsS84.ge HI239.out) | refine below_set ?_ GE291.out) | exact HB.out))⟩)
         ·
          skip
          refine Kd.N_lit_step k31 _ 31 ?hg (N' := 88) ?hd (xs := ([(⟨(t287.length : Int), 1, t287, ([] : List Int), ([] : List (S101)), ([] : List (S79)), ([] : List Int), false⟩ : S31)] : List (S31))) (inner := [.int .i64 (t287.length : Int), .int .i64 1, .slice Ao53 t287.length co53, .slice none 0 0, .slice none 0 0, .slice none 0 0, .slice none 0 0, .bool false]) (ok := (fun k_ => some k_ ≠ (.slice Ao57 x7_2.length co57 : Value).ownBlock ∧ some k_ ≠ (.slice Ao58 x8_2.length co58 : Value).ownBlock ∧ some k_ ≠ (.slice Ao63 y292.length co63 : Value).ownBlock ∧ k_ ≠ gb291 ∧ k_ ≠ g239)) (okp := (fun k_ => some k_ ≠ (.slice Ao57 x7_2.length co57 : Value).ownBlock ∧ some k_ ≠ (.slice Ao58 x8_2.length co58 : Value).ownBlock ∧ some k_ ≠ (.slice Ao63 y292.length co63 : Value).ownBlock ∧ k_ ≠ gb291 ∧ k_ ≠ g239)) ?hr ?hp (fun _ hk => hk) ((show ∀ k_, w61.heap.size ≤ k_ → (fun k_ => some k_ ≠ (.slice Ao57 x7_2.length co57 : Value).ownBlock ∧ some k_ ≠ (.slice Ao58 x8_2.length co58 : Value).ownBlock ∧ some k_ ≠ (.slice Ao63 y292.length co63 : Value).ownBlock ∧ k_ ≠ gb291 ∧ k_ ≠ g239) k_ from fun k_ hk => ⟨Kd.fresh' (Kd.N_lt (kN_ HO_7.out)) k_ hk, Kd.fresh' (Kd.N_lt (kN_ HO_8.out)) k_ hk, Kd.fresh' (Kd.N_lt (kN_ HO294.out)) k_ hk, Kd.freshB (g := gb291) (o := .cells #[.int .i64 (t287.length : Int), .int .i64 1, .slice Ao53 t287.length co53, .slice none 0 0, .slice none 0 0, .slice none 0 0, .slice none 0 0, .bool false] 31 (0, 0)) (bk_ BK291.out) k_ hk, IsS84.fresh (by repeat (first | (with_reducible first | exact HI239.out | apply IsS84.alloc | apply IsS84.drewN | apply IsS84.drew | apply IsS84.set_1 | refine IsS84.far ?_ NB239_291.out _) | exact HI239.out)) k_ hk⟩) _ (Nat.le_refl _)) (Below.refl _ _) (Nat.le_refl _) (by simp) ?_; (case hd => rfl); (case hg => rfl); (case hr => first | (go_simp; done) | (go_simp; rfl)); (case hp => exact (Reps.c8 (show Kd.FK k31 _ _ (⟨(t287.length : Int), 1, t287, ([] : List Int), ([] : List (S101)), ([] : List (S79)), ([] : List Int), false⟩ : S31) [.int .i64 (t287.length : Int), .int .i64 1, .slice Ao53 t287.length co53, .slice none 0 0, .slice none 0 0, .slice none 0 0, .slice none 0 0, .bool false] from (k31_mkF _ _ (⟨(t287.length : Int), 1, t287, ([] : List Int), ([] : List (S101)), ([] : List (S79)), ([] : List Int), false⟩ : S31) (Kd.V_reads' (Kd.V_mono (ok' := (fun k_ => some k_ ≠ (.slice Ao57 x7_2.length co57 : Value).ownBlock ∧ some k_ ≠ (.slice Ao58 x8_2.length co58 : Value).ownBlock ∧ some k_ ≠ (.slice Ao63 y292.length co63 : Value).ownBlock ∧ k_ ≠ gb291 ∧ k_ ≠ g239)) (HO289.out) (fun k_ hk => ⟨hk.1.1, ⟨hk.1.2.1, ⟨hk.2, ⟨hk.1.2.2.2, hk.1.2.2.1⟩⟩⟩⟩))).2.1 (Kd.V_F (Kd.V_mono (ok' := (fun k_ => some k_ ≠ (.slice Ao57 x7_2.length co57 : Value).ownBlock ∧ some k_ ≠ (.slice Ao58 x8_2.length co58 : Value).ownBlock ∧ some k_ ≠ (.slice Ao63 y292.length co63 : Value).ownBlock ∧ k_ ≠ gb291 ∧ k_ ≠ g239)) (HO289.out) (fun k_ hk => ⟨hk.1.1, ⟨hk.1.2.1, ⟨hk.2, ⟨hk.1.2.2.2, hk.1.2.2.1⟩⟩⟩⟩))) (Nat.le_refl _) (Kd.F_nil _ _ _) (Nat.le_refl _) (Kd.F_nil _ _ _) (Nat.le_refl _) (Kd.F_nil _ _ _) (Nat.le_refl _) (Kd.F_nil _ _ _))) (Reps.none _ _)))
          intro v299 w64 ho65 hb hg_ hnew_
          clear hg_ hnew_
          (first | rw [← Ny298.out] at ho65 | (simp only [Int.reduceToNat] at ho65; rw [← Ny298.out] at ho65))
          have n0_ := Aside0.mk (Kd.N_elder' (kN_ HO_7.out) (Kd.N_base ho65) hb)
          have n1_ := Aside0.mk (Kd.N_elder' (kN_ HO_8.out) (Kd.N_base ho65) hb)
          have n2_ := Aside0.mk (Kd.V_elder' (kV_ HO289.out) (Kd.N_base ho65) hb)
          have n3_ := Aside0.mk (Kd.N_elder' (kN_ HO294.out) (Kd.N_base ho65) hb)
          have n4_ := Aside0.mk (Kd.N_lower ho65 (below_size (by repeat (first | (with_reducible first | exact HB.out | apply below_alloc | apply pw_below_drewN | apply below_drew1 | refine below_set ?_ (IsS84.ge HI239.out) | refine below_set ?_ GE291.out) | exact HB.out))))
          have n5_ := Aside0.mk (IsS84.below (by repeat (first | (with_reducible first | exact HI239.out | apply IsS84.alloc | apply IsS84.drewN | apply IsS84.drew | apply IsS84.set_1 | refine IsS84.far ?_ NB239_291.out _) | exact HI239.out)) hb)
          have n6_ := Aside0.mk (blk_below (g := gb291) (o := .cells #[.int .i64 (t287.length : Int), .int .i64 1, .slice Ao53 t287.length co53, .slice none 0 0, .slice none 0 0, .slice none 0 0, .slice none 0 0, .bool false] 31 (0, 0)) (bk_ BK291.out) hb)
          have n7_ := Aside0.mk (below_step (by repeat (first | (with_reducible first | exact HB.out | apply below_alloc | apply pw_below_drewN | apply below_drew1 | refine below_set ?_ (IsS84.ge HI239.out) | refine below_set ?_ GE291.out) | exact HB.out)) hb)
          clear HO_7
          clear HO_8
          clear HO289
          clear HO294
          clear HI239
          clear BK291
          clear HB
          have HO_7 := n0_
          have HO_8 := n1_
          have HO289 := n2_
          have HO294 := n3_
          have HO300 := n4_
          have HI239 := n5_
          have BK291 := n6_
          have HB := n7_
          clear n0_ n1_ n2_ n3_ n4_ n5_ n6_ n7_
          clear hb ho65
          obtain ⟨Ao66, co66, eo66⟩ := Kd.N_slice HO300.out
          (first | subst eo66 | (injection eo66 with f1_ f2_ f3_; have f4_ := f1_.symm; have f5_ := f3_.symm; clear f1_ f2_ f3_; subst f4_; subst f5_))
          refine hK.out _ _ ⟨(blk_cell BK291.out 0).trans rfl, (blk_cell BK291.out 1).trans rfl, (blk_cell BK291.out 2).trans rfl, (blk_cell BK291.out 3).trans rfl, (blk_cell BK291.out 4).trans rfl, (blk_cell BK291.out 5).trans rfl, (blk_cell BK291.out 6).trans rfl, (blk_cell BK291.out 7).trans rfl⟩ (fun hHeld => ?_)
          clear hK K
          refine norm_ (a' := ?_) ?_ ?_
          rotate_left
          ·
           show Act.put _ (some 88) _ = _
           simp only [Act.put, setIfInBounds_toArray, set_cons_zero, set_cons_succ, i64_w, i32_w]
           rfl
          refine one_ (i := 3) (N := some 86) #[true,true,true,true,true,true,true,false,true,true,true,true,false,false,false] rfl rfl (one_of HT_.out (by kernel_rfl)) (by decide) (fun K hK => ?_)
          refine Kd.N_append_rows_step k31 (w0 := w) w.heap.size (by rfl) (.tmp 83) (.tmp 85) 22 31 (.agg #[(.int .i64 0), (.int .i64 0), (.slice none 0 0), (.slice none 0 0), (.slice none 0 0), (.slice none 0 0), (.slice none 0 0), (.bool false)]) 144 rfl Try.underlying22 info31 rfl (by decide) (by omega) (.slice Ao57 x7_2.length co57) x7_2 y292 _ _ _ (fun k_ => some k_ ≠ (.slice Ao58 x8_2.length co58 : Value).ownBlock ∧ some k_ ≠ (.slice Ao66 y298.length co66 : Value).ownBlock ∧ k_ ≠ gb291 ∧ k_ ≠ g239) (fun k_ => ((fun k_ => some k_ ≠ (.slice Ao58 x8_2.length co58 : Value).ownBlock ∧ some k_ ≠ (.slice Ao66 y298.length co66 : Value).ownBlock ∧ k_ ≠ gb291 ∧ k_ ≠ g239)) k_ ∧ some k_ ≠ (.slice Ao57 x7_2.length co57 : Value).ownBlock) rfl rfl ?aO ?aR (fun _ hk => hk) ?aF ?aB ?aS ?aL ?_
          (case aR => exact (by skip; exact Kd.N_F (Kd.N_mono (ok' := (fun k_ => ((fun k_ => some k_ ≠ (.slice Ao58 x8_2.length co58 : Value).ownBlock ∧ some k_ ≠ (.slice Ao66 y298.length co66 : Value).ownBlock ∧ k_ ≠ gb291 ∧ k_ ≠ g239)) k_ ∧ some k_ ≠ (.slice Ao57 x7_2.length co57 : Value).ownBlock)) (HO294.out) (fun k_ hk => ⟨⟨hk.1.2.1, ⟨hk.2, ⟨hk.1.2.2.1, hk.1.2.2.2⟩⟩⟩, hk.1.1⟩))))
          (case aB => exact (by repeat (first | (with_reducible first | exact HB.out | apply below_alloc | apply pw_below_drewN | apply below_drew1 | refine below_set ?_ (IsS84.ge HI239.out) | refine below_set ?_ GE291.out) | exact HB.out)))
          (case aF => exact (fun k_ hk => ⟨Kd.fresh' (Kd.N_lt (kN_ HO_8.out)) k_ hk, Kd.fresh' (Kd.N_lt (kN_ HO300.out)) k_ hk, Kd.freshB (g := gb291) (o := .cells #[.int .i64 (t287.length : Int), .int .i64 1, .slice Ao53 t287.length co53, .slice none 0 0, .slice none 0 0, .slice none 0 0, .slice none 0 0, .bool false] 31 (0, 0)) (bk_ BK291.out) k_ hk, IsS84.fresh (by repeat (first | (with_reducible first | exact HI239.out | apply IsS84.alloc | apply IsS84.drewN | apply IsS84.drew | apply IsS84.set_1 | refine IsS84.far ?_ NB239_291.out _) | exact HI239.out)) k_ hk⟩))
          (case aO => exact (by (with_reducible repeat (first | apply Kd.N_alloc | apply Kd.N_drewN | apply Kd.N_drew)); exact Kd.N_mono HO_7.out (fun _ hk => ⟨hk.1.1.1, ⟨hk.2, ⟨hk.1.1.2.2.2, hk.1.1.2.2.1⟩⟩⟩)))
          (case aS => exact (below_size (by repeat (first | (with_reducible first | exact HB.out | apply below_alloc | apply pw_below_drewN | apply below_drew1 | refine below_set ?_ (IsS84.ge HI239.out) | refine below_set ?_ GE291.out) | exact HB.out))))
          (case aL => have := LMc50.out; omega)
          intro v296 w67 ho hb hg hat
          rw [← Ny295.out] at ho
          have n0_ := Aside0.mk (Kd.N_afterv (ok := (fun k_ => some k_ ≠ (.slice Ao53 t287.length co53 : Value).ownBlock ∧ some k_ ≠ (.slice Ao63 y292.length co63 : Value).ownBlock ∧ some k_ ≠ (.slice Ao66 y298.length co66 : Value).ownBlock ∧ k_ ≠ g239 ∧ k_ ≠ gb291)) (by (with_reducible repeat (first | apply Kd.N_alloc | apply Kd.N_drewN | apply Kd.N_drew)); exact Kd.N_mono HO_8.out (fun _ hk => ⟨⟨hk.1.1.2.1, ⟨hk.1.2, ⟨hk.2, ⟨hk.1.1.2.2.1, hk.1.1.2.2.2⟩⟩⟩⟩, hk.1.1.1⟩)) hg hat)
          have n1_ := Aside0.mk (IsS84.grown (by repeat (first | (with_reducible first | exact HI239.out | apply IsS84.alloc | apply IsS84.drewN | apply IsS84.drew | apply IsS84.set_1 | refine IsS84.far ?_ NB239_291.out _) | exact HI239.out)) hg (IsS84.own_neN HI239.out HO_7.out (by decide)))
          have n2_ := Aside0.mk (Kd.V_afterv (ok := (fun k_ => some k_ ≠ (.slice Ao58 x8_2.length co58 : Value).ownBlock ∧ some k_ ≠ (.slice Ao63 y292.length co63 : Value).ownBlock ∧ some k_ ≠ (.slice Ao66 y298.length co66 : Value).ownBlock ∧ k_ ≠ g239 ∧ k_ ≠ gb291)) (by (with_reducible repeat (first | apply Kd.V_alloc | apply Kd.V_drewN | apply Kd.V_drew)); exact Kd.V_mono HO289.out (fun _ hk => ⟨⟨hk.1.1.2.1, ⟨hk.1.2, ⟨hk.2, ⟨hk.1.1.2.2.1, hk.1.1.2.2.2⟩⟩⟩⟩, hk.1.1.1⟩)) hg hat)
          have n3_ := Aside0.mk (blk_grown (g := gb291) (o := .cells #[.int .i64 (t287.length : Int), .int .i64 1, .slice Ao53 t287.length co53, .slice none 0 0, .slice none 0 0, .slice none 0 0, .slice none 0 0, .bool false] 31 (0, 0)) (bk_ BK291.out) hg (Kd.N_away HO_7.out (fun _ hk => hk.1.1.2.2.2)))
          have n4_ := Aside0.mk (Kd.N_afterv (ok := (fun k_ => some k_ ≠ (.slice Ao58 x8_2.length co58 : Value).ownBlock ∧ some k_ ≠ (.slice Ao66 y298.length co66 : Value).ownBlock ∧ k_ ≠ gb291 ∧ k_ ≠ g239)) (by (with_reducible repeat (first | apply Kd.N_alloc | apply Kd.N_drewN | apply Kd.N_drew)); exact Kd.N_mono HO294.out (fun _ hk => ⟨⟨hk.1.2.1, ⟨hk.2, ⟨hk.1.2.2.1, hk.1.2.2.2⟩⟩⟩, hk.1.1⟩)) hg hat)
          have n5_ := Aside0.mk (Kd.N_afterv (ok := (fun k_ => some k_ ≠ (.slice Ao58 x8_2.length co58 : Value).ownBlock ∧ some k_ ≠ (.slice Ao63 y292.length co63 : Value).ownBlock ∧ k_ ≠ gb291 ∧ k_ ≠ g239)) (by (with_reducible repeat (first | apply Kd.N_alloc | apply Kd.N_drewN | apply Kd.N_drew)); exact Kd.N_mono HO300.out (fun _ hk => ⟨⟨hk.2.1, ⟨hk.2.2.1, ⟨hk.2.2.2.1, hk.2.2.2.2⟩⟩⟩, hk.1⟩)) hg hat)
          have n6_ := Aside0.mk (hb)
          have n7_ := Aside0.mk (ho)
          clear HO_8
          clear HI239
          clear HO289
          clear BK291
          clear HO294
          clear HO300
          clear HB
          clear HO_7
          have HO_8 := n0_
          have HI239 := n1_
          have HO289 := n2_
          have BK291 := n3_
          have HO294 := n4_
          have HO300 := n5_
          have HB := n6_
          have HO297 := n7_
          clear n0_ n1_ n2_ n3_ n4_ n5_ n6_ n7_
          clear ho hb hg hat
          refine hK.out _ _ ⟨(blk_cell BK291.out 0).trans rfl, (blk_cell BK291.out 1).trans rfl, (blk_cell BK291.out 2).trans rfl, (blk_cell BK291.out 3).trans rfl, (blk_cell BK291.out 4).trans rfl, (blk_cell BK291.out 5).trans rfl, (blk_cell BK291.out 6).trans rfl, (blk_cell BK291.out 7).trans rfl⟩ (fun hHeld => ?_)
          clear hK K
          refine norm_ (a' := ?_) ?_ ?_
          rotate_left
          ·
           show Act.put _ (some 86) _ = _
           simp only [Act.put, setIfInBounds_toArray, set_cons_zero, set_cons_succ, i64_w, i32_w]
           rfl
          exact norm_ (by simp only [putAll, Act.put, setIfInBounds_toArray, set_cons_zero, set_cons_succ]) (hCont (.slice Ao63 y292.length co63, v296, .slice Ao66 y298.length co66) _ ⟨hHeld, (by (with_reducible repeat (first | apply Kd.V_alloc | apply Kd.V_drewN | apply Kd.V_drew)); exact Kd.V_mono HO289.out (fun _ hk => ⟨hk.1.2.1, ⟨hk.2, ⟨hk.1.2.2.1, ⟨hk.1.1, ⟨hk.1.2.2.2.1, hk.1.2.2.2.2⟩⟩⟩⟩⟩)), (by (with_reducible repeat (first | apply Kd.N_alloc | apply Kd.N_drewN | apply Kd.N_drew)); exact Kd.N_mono HO294.out (fun _ hk => ⟨hk.2, ⟨hk.1.2.1, ⟨hk.1.1, ⟨hk.1.2.2.2, hk.1.2.2.1⟩⟩⟩⟩)), (by (with_reducible repeat (first | apply Kd.N_alloc | apply Kd.N_drewN | apply Kd.N_drew)); exact Kd.N_mono HO297.out (fun _ hk => ⟨hk.2.1, ⟨hk.1, ⟨hk.2.2.2, hk.2.2.1⟩⟩⟩)), (by (with_reducible repeat (first | apply Kd.N_alloc | apply Kd.N_drewN | apply Kd.N_drew)); exact Kd.N_mono HO300.out (fun _ hk => ⟨hk.1.2.1, ⟨hk.2, ⟨hk.1.1, ⟨hk.1.2.2.2, hk.1.2.2.1⟩⟩⟩⟩)), (by (with_reducible repeat (first | apply Kd.N_alloc | apply Kd.N_drewN | apply Kd.N_drew)); exact Kd.N_mono HO_8.out (fun _ hk => ⟨hk.1.1, ⟨hk.1.2.1, ⟨hk.2, ⟨hk.1.2.2.1, ⟨hk.1.2.2.2.1, hk.1.2.2.2.2⟩⟩⟩⟩⟩)), (bk_ BK291.out), (by repeat (first | (with_reducible first | exact HI239.out | apply IsS84.alloc | apply IsS84.drewN | apply IsS84.drew | apply IsS84.set_1 | refine IsS84.far ?_ NB239_291.out _) | exact HI239.out)), (by repeat (first | (with_reducible first | exact HB.out | apply below_alloc | apply pw_below_drewN | apply below_drew1 | refine below_set ?_ (IsS84.ge HI239.out) | refine below_set ?_ GE291.out) | exact HB.out))⟩)
        ·
         skip
         refine Kd.N_lit_step k31 _ 31 ?hg (N' := 88) ?hd (xs := ([(⟨(t287.length : Int), 1, t287, ([] : List Int), ([] : List (S101)), ([] : List (S79)), ([] : List Int), false⟩ : S31)] : List (S31))) (inner := [.int .i64 (t287.length : Int), .int .i64 1, .slice Ao53 t287.length co53, .slice none 0 0, .slice none 0 0, .slice none 0 0, .slice none 0 0, .bool false]) (ok := (fun k_ => some k_ ≠ (.slice Ao57 x7_2.length co57 : Value).ownBlock ∧ some k_ ≠ (.slice Ao58 x8_2.length co58 : Value).ownBlock ∧ k_ ≠ gb291 ∧ k_ ≠ g239)) (okp := (fun k_ => some k_ ≠ (.slice Ao57 x7_2.length co57 : Value).ownBlock ∧ some k_ ≠ (.slice Ao58 x8_2.length co58 : Value).ownBlock ∧ k_ ≠ gb291 ∧ k_ ≠ g239)) ?hr ?hp (fun _ hk => hk) ((show ∀ k_, w60.heap.size ≤ k_ → (fun k_ => some k_ ≠ (.slice Ao57 x7_2.length co57 : Value).ownBlock ∧ some k_ ≠ (.slice Ao58 x8_2.length co58 : Value).ownBlock ∧ k_ ≠ gb291 ∧ k_ ≠ g239) k_ from fun k_ hk => ⟨Kd.fresh' (Kd.N_lt (kN_ HO_7.out)) k_ hk, Kd.fresh' (Kd.N_lt (kN_ HO_8.out)) k_ hk, Kd.freshB (g := gb291) (o := .cells #[.int .i64 (t287.length : Int), .int .i64 1, .slice Ao53 t287.length co53, .slice none 0 0, .slice none 0 0, .slice none 0 0, .slice none 0 0, .bool false] 31 (0, 0)) (bk_ BK291.out) k_ hk, IsS84.fresh (by repeat (first | (with_reducible first | exact HI239.out | apply IsS84.alloc | apply IsS84.drewN | apply IsS84.drew | apply IsS84.set_1 | refine IsS84.far ?_ NB239_291.out _) | exact HI239.out)) k_ hk⟩) _ (Nat.le_refl _)) (Below.refl _ _) (Nat.le_refl _) (by simp) ?_; (case hd => rfl); (case hg => rfl); (case hr => first | (go_simp; done) | (go_simp; rfl)); (case hp => exact (Reps.c8 (show Kd.FK k31 _ _ (⟨(t287.length : Int), 1, t287, ([] : List Int), ([] : List (S101)), ([] : List (S79)), ([] : List Int), false⟩ : S31) [.int .i64 (t287.length : Int), .int .i64 1, .slice Ao53 t287.length co53, .slice none 0 0, .slice none 0 0, .slice none 0 0, .slice none 0 0, .bool false] from (k31_mkF _ _ (⟨(t287.length : Int), 1, t287, ([] : List Int), ([] : List (S101)), ([] : List (S79)), ([] : List Int), false⟩ : S31) (Kd.V_reads' (Kd.V_mono (ok' := (fun k_ => some k_ ≠ (.slice Ao57 x7_2.length co57 : Value).ownBlock ∧ some k_ ≠ (.slice Ao58 x8_2.length co58 : Value).ownBlock ∧ k_ ≠ gb291 ∧ k_ ≠ g239)) (HO289.out) (fun k_ hk => ⟨hk.1, ⟨hk.2.1, ⟨hk.2.2.2, hk.2.2.1⟩⟩⟩))).2.1 (Kd.V_F (Kd.V_mono (ok' := (fun k_ => some k_ ≠ (.slice Ao57 x7_2.length co57 : Value).ownBlock ∧ some k_ ≠ (.slice Ao58 x8_2.length co58 : Value).ownBlock ∧ k_ ≠ gb291 ∧ k_ ≠ g239)) (HO289.out) (fun k_ hk => ⟨hk.1, ⟨hk.2.1, ⟨hk.2.2.2, hk.2.2.1⟩⟩⟩))) (Nat.le_refl _) (Kd.F_nil _ _ _) (Nat.le_refl _) (Kd.F_nil _ _ _) (Nat.le_refl _) (Kd.F_nil _ _ _) (Nat.le_refl _) (Kd.F_nil _ _ _))) (Reps.none _ _)))
         intro v299 w61 ho62 hb hg_ hnew_
         clear hg_ hnew_
         (first | rw [← Ny298.out] at ho62 | (simp only [Int.reduceToNat] at ho62; rw [← Ny298.out] at ho62))
         have n0_ := Aside0.mk (Kd.N_elder' (kN_ HO_7.out) (Kd.N_base ho62) hb)
         have n1_ := Aside0.mk (Kd.N_elder' (kN_ HO_8.out) (Kd.N_base ho62) hb)
         have n2_ := Aside0.mk (Kd.V_elder' (kV_ HO289.out) (Kd.N_base ho62) hb)
         have n3_ := Aside0.mk (Kd.N_lower ho62 (below_size (by repeat (first | (with_reducible first | exact HB.out | apply below_alloc | apply pw_below_drewN | apply below_drew1 | refine below_set ?_ (IsS84.ge HI239.out) | refine below_set ?_ GE291.out) | exact HB.out))))
         have n4_ := Aside0.mk (IsS84.below (by repeat (first | (with_reducible first | exact HI239.out | apply IsS84.alloc | apply IsS84.drewN | apply IsS84.drew | apply IsS84.set_1 | refine IsS84.far ?_ NB239_291.out _) | exact HI239.out)) hb)
         have n5_ := Aside0.mk (blk_below (g := gb291) (o := .cells #[.int .i64 (t287.length : Int), .int .i64 1, .slice Ao53 t287.length co53, .slice none 0 0, .slice none 0 0, .slice none 0 0, .slice none 0 0, .bool false] 31 (0, 0)) (bk_ BK291.out) hb)
         have n6_ := Aside0.mk (below_step (by repeat (first | (with_reducible first | exact HB.out | apply below_alloc | apply pw_below_drewN | apply below_drew1 | refine below_set ?_ (IsS84.ge HI239.out) | refine below_set ?_ GE291.out) | exact HB.out)) hb)
         clear HO_7
         clear HO_8
         clear HO289
         clear HI239
         clear BK291
         clear HB
         have HO_7 := n0_
         have HO_8 := n1_
         have HO289 := n2_
         have HO300 := n3_
         have HI239 := n4_
         have BK291 := n5_
         have HB := n6_
         clear n0_ n1_ n2_ n3_ n4_ n5_ n6_
         clear hb ho62
         obtain ⟨Ao63, co63, eo63⟩ := Kd.N_slice HO300.out
         (first | subst eo63 | (injection eo63 with f1_ f2_ f3_; have f4_ := f1_.symm; have f5_ := f3_.symm; clear f1_ f2_ f3_; subst f4_; subst f5_))
         refine hK.out _ _ ⟨(blk_cell BK291.out 0).trans rfl, (blk_cell BK291.out 1).trans rfl, (blk_cell BK291.out 2).trans rfl, (blk_cell BK291.out 3).trans rfl, (blk_cell BK291.out 4).trans rfl, (blk_cell BK291.out 5).trans rfl, (blk_cell BK291.out 6).trans rfl, (blk_cell BK291.out 7).trans rfl⟩ (fun hHeld => ?_)
         clear hK K
         refine norm_ (a' := ?_) ?_ ?_
         rotate_left
         ·
          show Act.put _ (some 88) _ = _
          simp only [Act.put, setIfInBounds_toArray, set_cons_zero, set_cons_succ, i64_w, i32_w]
          rfl
         refine one_ (i := 2) (N := some 85) #[true,true,true,false,true,true,true,false,true,true,true,true,false,false,false] rfl rfl (one_of HT_.out (by kernel_rfl)) (by decide) (fun K hK => ?_)
         refine Kd.N_lit_step k31 _ 31 ?hg (N' := 85) ?hd (xs := ([(⟨(t287.length : Int), 1, t287, ([] : List Int), ([] : List (S101)), ([] : List (S79)), ([] : List Int), false⟩ : S31)] : List (S31))) (inner := [.int .i64 (t287.length : Int), .int .i64 1, .slice Ao53 t287.length co53, .slice none 0 0, .slice none 0 0, .slice none 0 0, .slice none 0 0, .bool false]) (ok := (fun k_ => some k_ ≠ (.slice Ao57 x7_2.length co57 : Value).ownBlock ∧ some k_ ≠ (.slice Ao58 x8_2.length co58 : Value).ownBlock ∧ some k_ ≠ (.slice Ao63 y298.length co63 : Value).ownBlock ∧ k_ ≠ gb291 ∧ k_ ≠ g239)) (okp := (fun k_ => some k_ ≠ (.slice Ao57 x7_2.length co57 : Value).ownBlock ∧ some k_ ≠ (.slice Ao58 x8_2.length co58 : Value).ownBlock ∧ some k_ ≠ (.slice Ao63 y298.length co63 : Value).ownBlock ∧ k_ ≠ gb291 ∧ k_ ≠ g239)) ?hr ?hp (fun _ hk => hk) ((show ∀ k_, w61.heap.size ≤ k_ → (fun k_ => some k_ ≠ (.slice Ao57 x7_2.length co57 : Value).ownBlock ∧ some k_ ≠ (.slice Ao58 x8_2.length co58 : Value).ownBlock ∧ some k_ ≠ (.slice Ao63 y298.length co63 : Value).ownBlock ∧ k_ ≠ gb291 ∧ k_ ≠ g239) k_ from fun k_ hk => ⟨Kd.fresh' (Kd.N_lt (kN_ HO_7.out)) k_ hk, Kd.fresh' (Kd.N_lt (kN_ HO_8.out)) k_ hk, Kd.fresh' (Kd.N_lt (kN_ HO300.out)) k_ hk, Kd.freshB (g := gb291) (o := .cells #[.int .i64 (t287.length : Int), .int .i64 1, .slice Ao53 t287.length co53, .slice none 0 0, .slice none 0 0, .slice none 0 0, .slice none 0 0, .bool false] 31 (0, 0)) (bk_ BK291.out) k_ hk, IsS84.fresh (by repeat (first | (with_reducible first | exact HI239.out | apply IsS84.alloc | apply IsS84.drewN | apply IsS84.drew | apply IsS84.set_1 | refine IsS84.far ?_ NB239_291.out _) | exact HI239.out)) k_ hk⟩) _ (Nat.le_refl _)) (Below.refl _ _) (Nat.le_refl _) (by simp) ?_; (case hd => rfl); (case hg => rfl); (case hr => first | (go_simp; done) | (go_simp; rfl)); (case hp => exact (Reps.c8 (show Kd.FK k31 _ _ (⟨(t287.length : Int), 1, t287, ([] : List Int), ([] : List (S101)), ([] : List (S79)), ([] : List Int), false⟩ : S31) [.int .i64 (t287.length : Int), .int .i64 1, .slice Ao53 t287.length co53, .slice none 0 0, .slice none 0 0, .slice none 0 0, .slice none 0 0, .bool false] from (k31_mkF _ _ (⟨(t287.length : Int), 1, t287, ([] : List Int), ([] : List (S101)), ([] : List (S79)), ([] : List Int), false⟩ : S31) (Kd.V_reads' (Kd.V_mono (ok' := (fun k_ => some k_ ≠ (.slice Ao57 x7_2.length co57 : Value).ownBlock ∧ some k_ ≠ (.slice Ao58 x8_2.length co58 : Value).ownBlock ∧ some k_ ≠ (.slice Ao63 y298.length co63 : Value).ownBlock ∧ k_ ≠ gb291 ∧ k_ ≠ g239)) (HO289.out) (fun k_ hk => ⟨hk.1.1, ⟨hk.1.2.1, ⟨hk.2, ⟨hk.1.2.2.2, hk.1.2.2.1⟩⟩⟩⟩))).2.1 (Kd.V_F (Kd.V_mono (ok' := (fun k_ => some k_ ≠ (.slice Ao57 x7_2.length co57 : Value).ownBlock ∧ some k_ ≠ (.slice Ao58 x8_2.length co58 : Value).ownBlock ∧ some k_ ≠ (.slice Ao63 y298.length co63 : Value).ownBlock ∧ k_ ≠ gb291 ∧ k_ ≠ g239)) (HO289.out) (fun k_ hk => ⟨hk.1.1, ⟨hk.1.2.1, ⟨hk.2, ⟨hk.1.2.2.2, hk.1.2.2.1⟩⟩⟩⟩))) (Nat.le_refl _) (Kd.F_nil _ _ _) (Nat.le_refl _) (Kd.F_nil _ _ _) (Nat.le_refl _) (Kd.F_nil _ _ _) (Nat.le_refl _) (Kd.F_nil _ _ _))) (Reps.none _ _)))
         intro v293 w64 ho65 hb hg_ hnew_
         clear hg_ hnew_
         (first | rw [← Ny292.out] at ho65 | (simp only [Int.reduceToNat] at ho65; rw [← Ny292.out] at ho65))
         have n0_ := Aside0.mk (Kd.N_elder' (kN_ HO_7.out) (Kd.N_base ho65) hb)
         have n1_ := Aside0.mk (Kd.N_elder' (kN_ HO_8.out) (Kd.N_base ho65) hb)
         have n2_ := Aside0.mk (Kd.V_elder' (kV_ HO289.out) (Kd.N_base ho65) hb)
         have n3_ := Aside0.mk (Kd.N_elder' (kN_ HO300.out) (Kd.N_base ho65) hb)
         have n4_ := Aside0.mk (Kd.N_lower ho65 (below_size (by repeat (first | (with_reducible first | exact HB.out | apply below_alloc | apply pw_below_drewN | apply below_drew1 | refine below_set ?_ (IsS84.ge HI239.out) | refine below_set ?_ GE291.out) | exact HB.out))))
         have n5_ := Aside0.mk (IsS84.below (by repeat (first | (with_reducible first | exact HI239.out | apply IsS84.alloc | apply IsS84.drewN | apply IsS84.drew | apply IsS84.set_1 | refine IsS84.far ?_ NB239_291.out _) | exact HI239.out)) hb)
         have n6_ := Aside0.mk (blk_below (g := gb291) (o := .cells #[.int .i64 (t287.length : Int), .int .i64 1, .slice Ao53 t287.length co53, .slice none 0 0, .slice none 0 0, .slice none 0 0, .slice none 0 0, .bool false] 31 (0, 0)) (bk_ BK291.out) hb)
         have n7_ := Aside0.mk (below_step (by repeat (first | (with_reducible first | exact HB.out | apply below_alloc | apply pw_below_drewN | apply below_drew1 | refine below_set ?_ (IsS84.ge HI239.out) | refine below_set ?_ GE291.out) | exact HB.out)) hb)
         clear HO_7
         clear HO_8
         clear HO289
         clear HO300
         clear HI239
         clear BK291
         clear HB
         have HO_7 := n0_
         have HO_8 := n1_
         have HO289 := n2_
         have HO300 := n3_
         have HO294 := n4_
         have HI239 := n5_
         have BK291 := n6_
         have HB := n7_
         clear n0_ n1_ n2_ n3_ n4_ n5_ n6_ n7_
         clear hb ho65
         obtain ⟨Ao66, co66, eo66⟩ := Kd.N_slice HO294.out
         (first | subst eo66 | (injection eo66 with f1_ f2_ f3_; have f4_ := f1_.symm; have f5_ := f3_.symm; clear f1_ f2_ f3_; subst f4_; subst f5_))
         refine hK.out _ _ ⟨(blk_cell BK291.out 0).trans rfl, (blk_cell BK291.out 1).trans rfl, (blk_cell BK291.out 2).trans rfl, (blk_cell BK291.out 3).trans rfl, (blk_cell BK291.out 4).trans rfl, (blk_cell BK291.out 5).trans rfl, (blk_cell BK291.out 6).trans rfl, (blk_cell BK291.out 7).trans rfl⟩ (fun hHeld => ?_)
         clear hK K
         refine norm_ (a' := ?_) ?_ ?_
         rotate_left
         ·
          show Act.put _ (some 85) _ = _
          simp only [Act.put, setIfInBounds_toArray, set_cons_zero, set_cons_succ, i64_w, i32_w]
          rfl
         refine one_ (i := 3) (N := some 86) #[true,true,true,true,true,true,true,false,true,true,true,true,false,false,false] rfl rfl (one_of HT_.out (by kernel_rfl)) (by decide) (fun K hK => ?_)
         refine Kd.N_append_rows_step k31 (w0 := w) w.heap.size (by rfl) (.tmp 83) (.tmp 85) 22 31 (.agg #[(.int .i64 0), (.int .i64 0), (.slice none 0 0), (.slice none 0 0), (.slice none 0 0), (.slice none 0 0), (.slice none 0 0), (.bool false)]) 144 rfl Try.underlying22 info31 rfl (by decide) (by omega) (.slice Ao57 x7_2.length co57) x7_2 y292 _ _ _ (fun k_ => some k_ ≠ (.slice Ao58 x8_2.length co58 : Value).ownBlock ∧ some k_ ≠ (.slice Ao63 y298.length co63 : Value).ownBlock ∧ k_ ≠ gb291 ∧ k_ ≠ g239) (fun k_ => ((fun k_ => some k_ ≠ (.slice Ao58 x8_2.length co58 : Value).ownBlock ∧ some k_ ≠ (.slice Ao63 y298.length co63 : Value).ownBlock ∧ k_ ≠ gb291 ∧ k_ ≠ g239)) k_ ∧ some k_ ≠ (.slice Ao57 x7_2.length co57 : Value).ownBlock) rfl rfl ?aO ?aR (fun _ hk => hk) ?aF ?aB ?aS ?aL ?_
         (case aR => exact (by skip; exact Kd.N_F (Kd.N_mono (ok' := (fun k_ => ((fun k_ => some k_ ≠ (.slice Ao58 x8_2.length co58 : Value).ownBlock ∧ some k_ ≠ (.slice Ao63 y298.length co63 : Value).ownBlock ∧ k_ ≠ gb291 ∧ k_ ≠ g239)) k_ ∧ some k_ ≠ (.slice Ao57 x7_2.length co57 : Value).ownBlock)) (HO294.out) (fun k_ hk => ⟨⟨hk.2.1, ⟨hk.2.2.1, ⟨hk.2.2.2.1, hk.2.2.2.2⟩⟩⟩, hk.1⟩))))
         (case aB => exact (by repeat (first | (with_reducible first | exact HB.out | apply below_alloc | apply pw_below_drewN | apply below_drew1 | refine below_set ?_ (IsS84.ge HI239.out) | refine below_set ?_ GE291.out) | exact HB.out)))
         (case aF => exact (fun k_ hk => ⟨Kd.fresh' (Kd.N_lt (kN_ HO_8.out)) k_ hk, Kd.fresh' (Kd.N_lt (kN_ HO300.out)) k_ hk, Kd.freshB (g := gb291) (o := .cells #[.int .i64 (t287.length : Int), .int .i64 1, .slice Ao53 t287.length co53, .slice none 0 0, .slice none 0 0, .slice none 0 0, .slice none 0 0, .bool false] 31 (0, 0)) (bk_ BK291.out) k_ hk, IsS84.fresh (by repeat (first | (with_reducible first | exact HI239.out | apply IsS84.alloc | apply IsS84.drewN | apply IsS84.drew | apply IsS84.set_1 | refine IsS84.far ?_ NB239_291.out _) | exact HI239.out)) k_ hk⟩))
         (case aO => exact (by (with_reducible repeat (first | apply Kd.N_alloc | apply Kd.N_drewN | apply Kd.N_drew)); exact Kd.N_mono HO_7.out (fun _ hk => ⟨hk.1.1.1, ⟨hk.1.2, ⟨hk.1.1.2.2.2, hk.1.1.2.2.1⟩⟩⟩)))
         (case aS => exact (below_size (by repeat (first | (with_reducible first | exact HB.out | apply below_alloc | apply pw_below_drewN | apply below_drew1 | refine below_set ?_ (IsS84.ge HI239.out) | refine below_set ?_ GE291.out) | exact HB.out))))
         (case aL => have := LMc50.out; omega)
         intro v296 w67 ho hb hg hat
         rw [← Ny295.out] at ho
         have n0_ := Aside0.mk (Kd.N_afterv (ok := (fun k_ => some k_ ≠ (.slice Ao53 t287.length co53 : Value).ownBlock ∧ some k_ ≠ (.slice Ao63 y298.length co63 : Value).ownBlock ∧ some k_ ≠ (.slice Ao66 y292.length co66 : Value).ownBlock ∧ k_ ≠ g239 ∧ k_ ≠ gb291)) (by (with_reducible repeat (first | apply Kd.N_alloc | apply Kd.N_drewN | apply Kd.N_drew)); exact Kd.N_mono HO_8.out (fun _ hk => ⟨⟨hk.1.1.2.1, ⟨hk.1.2, ⟨hk.2, ⟨hk.1.1.2.2.1, hk.1.1.2.2.2⟩⟩⟩⟩, hk.1.1.1⟩)) hg hat)
         have n1_ := Aside0.mk (IsS84.grown (by repeat (first | (with_reducible first | exact HI239.out | apply IsS84.alloc | apply IsS84.drewN | apply IsS84.drew | apply IsS84.set_1 | refine IsS84.far ?_ NB239_291.out _) | exact HI239.out)) hg (IsS84.own_neN HI239.out HO_7.out (by decide)))
         have n2_ := Aside0.mk (Kd.V_afterv (ok := (fun k_ => some k_ ≠ (.slice Ao58 x8_2.length co58 : Value).ownBlock ∧ some k_ ≠ (.slice Ao63 y298.length co63 : Value).ownBlock ∧ some k_ ≠ (.slice Ao66 y292.length co66 : Value).ownBlock ∧ k_ ≠ g239 ∧ k_ ≠ gb291)) (by (with_reducible repeat (first | apply Kd.V_alloc | apply Kd.V_drewN | apply Kd.V_drew)); exact Kd.V_mono HO289.out (fun _ hk => ⟨⟨hk.1.1.2.1, ⟨hk.1.2, ⟨hk.2, ⟨hk.1.1.2.2.1, hk.1.1.2.2.2⟩⟩⟩⟩, hk.1.1.1⟩)) hg hat)
         have n3_ := Aside0.mk (blk_grown (g := gb291) (o := .cells #[.int .i64 (t287.length : Int), .int .i64 1, .slice Ao53 t287.length co53, .slice none 0 0, .slice none 0 0, .slice none 0 0, .slice none 0 0, .bool false] 31 (0, 0)) (bk_ BK291.out) hg (Kd.N_away HO_7.out (fun _ hk => hk.1.1.2.2.2)))
         have n4_ := Aside0.mk (Kd.N_afterv (ok := (fun k_ => some k_ ≠ (.slice Ao58 x8_2.length co58 : Value).ownBlock ∧ some k_ ≠ (.slice Ao66 y292.length co66 : Value).ownBlock ∧ k_ ≠ gb291 ∧ k_ ≠ g239)) (by (with_reducible repeat (first | apply Kd.N_alloc | apply Kd.N_drewN | apply Kd.N_drew)); exact Kd.N_mono HO300.out (fun _ hk => ⟨⟨hk.1.2.1, ⟨hk.2, ⟨hk.1.2.2.1, hk.1.2.2.2⟩⟩⟩, hk.1.1⟩)) hg hat)
         have n5_ := Aside0.mk (Kd.N_afterv (ok := (fun k_ => some k_ ≠ (.slice Ao58 x8_2.length co58 : Value).ownBlock ∧ some k_ ≠ (.slice Ao63 y298.length co63 : Value).ownBlock ∧ k_ ≠ gb291 ∧ k_ ≠ g239)) (by (with_reducible repeat (first | apply Kd.N_alloc | apply Kd.N_drewN | apply Kd.N_drew)); exact Kd.N_mono HO294.out (fun _ hk => ⟨⟨hk.2.1, ⟨hk.2.2.1, ⟨hk.2.2.2.1, hk.2.2.2.2⟩⟩⟩, hk.1⟩)) hg hat)
         have n6_ := Aside0.mk (hb)
         have n7_ := Aside0.mk (ho)
         clear HO_8
         clear HI239
         clear HO289
         clear BK291
         clear HO300
         clear HO294
         clear HB
         clear HO_7
         have HO_8 := n0_
         have HI239 := n1_
         have HO289 := n2_
         have BK291 := n3_
         have HO300 := n4_
         have HO294 := n5_
         have HB := n6_
         have HO297 := n7_
         clear n0_ n1_ n2_ n3_ n4_ n5_ n6_ n7_
         clear ho hb hg hat
         refine hK.out _ _ ⟨(blk_cell BK291.out 0).trans rfl, (blk_cell BK291.out 1).trans rfl, (blk_cell BK291.out 2).trans rfl, (blk_cell BK291.out 3).trans rfl, (blk_cell BK291.out 4).trans rfl, (blk_cell BK291.out 5).trans rfl, (blk_cell BK291.out 6).trans rfl, (blk_cell BK291.out 7).trans rfl⟩ (fun hHeld => ?_)
         clear hK K
         refine norm_ (a' := ?_) ?_ ?_
         rotate_left
         ·
          show Act.put _ (some 86) _ = _
          simp only [Act.put, setIfInBounds_toArray, set_cons_zero, set_cons_succ, i64_w, i32_w]
          rfl
         exact norm_ (by simp only [putAll, Act.put, setIfInBounds_toArray, set_cons_zero, set_cons_succ]) (hCont (.slice Ao66 y292.length co66, v296, .slice Ao63 y298.length co63) _ ⟨hHeld, (by (with_reducible repeat (first | apply Kd.V_alloc | apply Kd.V_drewN | apply Kd.V_drew)); exact Kd.V_mono HO289.out (fun _ hk => ⟨hk.1.2.2.1, ⟨hk.2, ⟨hk.1.2.1, ⟨hk.1.1, ⟨hk.1.2.2.2.1, hk.1.2.2.2.2⟩⟩⟩⟩⟩)), (by (with_reducible repeat (first | apply Kd.N_alloc | apply Kd.N_drewN | apply Kd.N_drew)); exact Kd.N_mono HO294.out (fun _ hk => ⟨hk.2, ⟨hk.1.2.1, ⟨hk.1.1, ⟨hk.1.2.2.2, hk.1.2.2.1⟩⟩⟩⟩)), (by (with_reducible repeat (first | apply Kd.N_alloc | apply Kd.N_drewN | apply Kd.N_drew)); exact Kd.N_mono HO297.out (fun _ hk => ⟨hk.2.1, ⟨hk.1, ⟨hk.2.2.2, hk.2.2.1⟩⟩⟩)), (by (with_reducible repeat (first | apply Kd.N_alloc | apply Kd.N_drewN | apply Kd.N_drew)); exact Kd.N_mono HO300.out (fun _ hk => ⟨hk.1.2.1, ⟨hk.2, ⟨hk.1.1, ⟨hk.1.2.2.2, hk.1.2.2.1⟩⟩⟩⟩)), (by (with_reducible repeat (first | apply Kd.N_alloc | apply Kd.N_drewN | apply Kd.N_drew)); exact Kd.N_mono HO_8.out (fun _ hk => ⟨hk.1.1, ⟨hk.1.2.2.1, ⟨hk.2, ⟨hk.1.2.1, ⟨hk.1.2.2.2.1, hk.1.2.2.2.2⟩⟩⟩⟩⟩)), (bk_ BK291.out), (by repeat (first | (with_reducible first | exact HI239.out | apply IsS84.alloc | apply IsS84.drewN | apply IsS84.drew | apply IsS84.set_1 | refine IsS84.far ?_ NB239_291.out _) | exact HI239.out)), (by repeat (first | (with_reducible first | exact HB.out | apply below_alloc | apply pw_below_drewN | apply below_drew1 | refine below_set ?_ (IsS84.ge HI239.out) | refine below_set ?_ GE291.out) | exact HB.out))⟩)
       rintro ⟨v293, v296, v299⟩ w68 ⟨hS_, h0_, h1_, h2_, h3_, h4_, h5_, h6_, h7_⟩
       have n0_ : Aside0 (Kd.V (Kd.int .u8) 5 w68 w.heap.size (fun k_ => some k_ ≠ (v293 : Value).ownBlock ∧ some k_ ≠ (v296 : Value).ownBlock ∧ some k_ ≠ (v299 : Value).ownBlock ∧ some k_ ≠ (.slice Ao58 x8_2.length co58 : Value).ownBlock ∧ k_ ≠ g239 ∧ k_ ≠ gb291) (.slice Ao53 t287.length co53) t287) := ⟨h0_⟩
       have n1_ : Aside0 (Kd.N k31 31 w68 w.heap.size (fun k_ => some k_ ≠ (v296 : Value).ownBlock ∧ some k_ ≠ (v299 : Value).ownBlock ∧ some k_ ≠ (.slice Ao58 x8_2.length co58 : Value).ownBlock ∧ k_ ≠ g239 ∧ k_ ≠ gb291) v293 y292) := ⟨h1_⟩
       have n2_ : Aside0 (Kd.N k31 31 w68 w.heap.size (fun k_ => some k_ ≠ (v299 : Value).ownBlock ∧ some k_ ≠ (.slice Ao58 x8_2.length co58 : Value).ownBlock ∧ k_ ≠ g239 ∧ k_ ≠ gb291) v296 y295) := ⟨h2_⟩
       have n3_ : Aside0 (Kd.N k31 31 w68 w.heap.size (fun k_ => some k_ ≠ (v293 : Value).ownBlock ∧ some k_ ≠ (v296 : Value).ownBlock ∧ some k_ ≠ (.slice Ao58 x8_2.length co58 : Value).ownBlock ∧ k_ ≠ g239 ∧ k_ ≠ gb291) v299 y298) := ⟨h3_⟩
       have n4_ : Aside0 (Kd.N k31 31 w68 w.heap.size (fun k_ => some k_ ≠ (.slice Ao53 t287.length co53 : Value).ownBlock ∧ some k_ ≠ (v293 : Value).ownBlock ∧ some k_ ≠ (v296 : Value).ownBlock ∧ some k_ ≠ (v299 : Value).ownBlock ∧ k_ ≠ g239 ∧ k_ ≠ gb291) (.slice Ao58 x8_2.length co58) x8_2) := ⟨h4_⟩
       have n5_ : Aside0 (w68.heap[gb291]? = some (.cells #[.int .i64 (t287.length : Int), .int .i64 1, .slice Ao53 t287.length co53, .slice none 0 0, .slice none 0 0, .slice none 0 0, .slice none 0 0, .bool false] 31 (0, 0))) := ⟨h5_⟩
       have n6_ : Aside0 (IsS84 w w68 g239 t237 t290) := ⟨h6_⟩
       have n7_ : Aside0 (Below w.heap.size w w68) := ⟨h7_⟩
       clear HO_7
       clear HO_8
       clear HO289
       clear BK291
       clear HI239
       clear HB
       clear h0_ h1_ h2_ h3_ h4_ h5_ h6_ h7_
       have HO289 := n0_
       have HO294 := n1_
       have HO297 := n2_
       have HO300 := n3_
       have HO_8 := n4_
       have BK291 := n5_
       have HI239 := n6_
       have HB := n7_
       clear n0_ n1_ n2_ n3_ n4_ n5_ n6_ n7_
       have hHeld : w68.cell? ⟨gb291, 0, none⟩ = some (.int .i64 (t287.length : Int)) ∧ w68.cell? ⟨gb291, 1, none⟩ = some (.int .i64 1) ∧ w68.cell? ⟨gb291, 2, none⟩ = some (.slice Ao53 t287.length co53) ∧ w68.cell? ⟨gb291, 3, none⟩ = some (.slice none 0 0) ∧ w68.cell? ⟨gb291, 4, none⟩ = some (.slice none 0 0) ∧ w68.cell? ⟨gb291, 5, none⟩ = some (.slice none 0 0) ∧ w68.cell? ⟨gb291, 6, none⟩ = some (.slice none 0 0) ∧ w68.cell? ⟨gb291, 7, none⟩ = some (.bool false) := hS_
       refine norm_ (a' := ?_) ?_ ?_
       rotate_left
       ·
        simp only [putAll, Act.put, setIfInBounds_toArray, set_cons_zero, set_cons_succ]
        rfl
       refine one_ (i := 7) (N := some 90) #[true,true,true,true,true,true,true,true,true,true,true,true,false,false,false] rfl rfl (one_of HT_.out (by kernel_rfl)) (by decide) (fun K hK => ?_)
       refine Kd.N_append_rows_step k31 (w0 := w) w.heap.size (by rfl) (.tmp 88) (.tmp 89) 22 31 (.agg #[(.int .i64 0), (.int .i64 0), (.slice none 0 0), (.slice none 0 0), (.slice none 0 0), (.slice none 0 0), (.slice none 0 0), (.bool false)]) 144 rfl Try.underlying22 info31 rfl (by decide) (by omega) v299 y298 x8_2 _ _ _ (fun k_ => some k_ ≠ (v293 : Value).ownBlock ∧ some k_ ≠ (v296 : Value).ownBlock ∧ k_ ≠ gb291 ∧ k_ ≠ g239) (fun k_ => ((fun k_ => some k_ ≠ (v293 : Value).ownBlock ∧ some k_ ≠ (v296 : Value).ownBlock ∧ k_ ≠ gb291 ∧ k_ ≠ g239)) k_ ∧ some k_ ≠ (v299 : Value).ownBlock) rfl rfl ?aO ?aR (fun _ hk => hk) ?aF ?aB ?aS ?aL ?_
       (case aR => exact (by skip; exact Kd.N_F (Kd.N_mono (ok' := (fun k_ => ((fun k_ => some k_ ≠ (v293 : Value).ownBlock ∧ some k_ ≠ (v296 : Value).ownBlock ∧ k_ ≠ gb291 ∧ k_ ≠ g239)) k_ ∧ some k_ ≠ (v299 : Value).ownBlock)) (HO_8.out) (fun k_ hk => ⟨⟨hk.2.1, ⟨hk.2.2.1, ⟨hk.2.2.2.2.2, hk.2.2.2.2.1⟩⟩⟩, hk.2.2.2.1⟩))))
       (case aB => exact (by repeat (first | (with_reducible first | exact HB.out | apply below_alloc | apply pw_below_drewN | apply below_drew1 | refine below_set ?_ (IsS84.ge HI239.out) | refine below_set ?_ GE291.out) | exact HB.out)))
       (case aF => exact (fun k_ hk => ⟨Kd.fresh' (Kd.N_lt (kN_ HO294.out)) k_ hk, Kd.fresh' (Kd.N_lt (kN_ HO297.out)) k_ hk, Kd.freshB (g := gb291) (o := .cells #[.int .i64 (t287.length : Int), .int .i64 1, .slice Ao53 t287.length co53, .slice none 0 0, .slice none 0 0, .slice none 0 0, .slice none 0 0, .bool false] 31 (0, 0)) (bk_ BK291.out) k_ hk, IsS84.fresh (by repeat (first | (with_reducible first | exact HI239.out | apply IsS84.alloc | apply IsS84.drewN | apply IsS84.drew | apply IsS84.set_1 | refine IsS84.far ?_ NB239_291.out _) | exact HI239.out)) k_ hk⟩))
       (case aO => exact (by (with_reducible repeat (first | apply Kd.N_alloc | apply Kd.N_drewN | apply Kd.N_drew)); exact Kd.N_mono HO300.out (fun _ hk => ⟨hk.1, ⟨hk.2.1, ⟨hk.2.2.2.2, hk.2.2.2.1⟩⟩⟩)))
       (case aS => exact (below_size (by repeat (first | (with_reducible first | exact HB.out | apply below_alloc | apply pw_below_drewN | apply below_drew1 | refine below_set ?_ (IsS84.ge HI239.out) | refine below_set ?_ GE291.out) | exact HB.out))))
       (case aL => have := LMc51.out; omega)
       intro v302 w69 ho hb hg hat
       rw [← Ny301.out] at ho
       have n0_ := Aside0.mk (Kd.N_afterv (ok := (fun k_ => some k_ ≠ (.slice Ao53 t287.length co53 : Value).ownBlock ∧ some k_ ≠ (v293 : Value).ownBlock ∧ some k_ ≠ (v296 : Value).ownBlock ∧ k_ ≠ g239 ∧ k_ ≠ gb291)) (by (with_reducible repeat (first | apply Kd.N_alloc | apply Kd.N_drewN | apply Kd.N_drew)); exact Kd.N_mono HO_8.out (fun _ hk => ⟨⟨hk.1, ⟨hk.2.1, ⟨hk.2.2.1, ⟨hk.2.2.2.2.1, hk.2.2.2.2.2⟩⟩⟩⟩, hk.2.2.2.1⟩)) hg hat)
       have n1_ := Aside0.mk (IsS84.grown (by repeat (first | (with_reducible first | exact HI239.out | apply IsS84.alloc | apply IsS84.drewN | apply IsS84.drew | apply IsS84.set_1 | refine IsS84.far ?_ NB239_291.out _) | exact HI239.out)) hg (IsS84.own_neN HI239.out HO300.out (by decide)))
       have n2_ := Aside0.mk (Kd.V_afterv (ok := (fun k_ => some k_ ≠ (.slice Ao58 x8_2.length co58 : Value).ownBlock ∧ some k_ ≠ (v293 : Value).ownBlock ∧ some k_ ≠ (v296 : Value).ownBlock ∧ k_ ≠ g239 ∧ k_ ≠ gb291)) (by (with_reducible repeat (first | apply Kd.V_alloc | apply Kd.V_drewN | apply Kd.V_drew)); exact Kd.V_mono HO289.out (fun _ hk => ⟨⟨hk.2.2.2.1, ⟨hk.1, ⟨hk.2.1, ⟨hk.2.2.2.2.1, hk.2.2.2.2.2⟩⟩⟩⟩, hk.2.2.1⟩)) hg hat)
       have n3_ := Aside0.mk (blk_grown (g := gb291) (o := .cells #[.int .i64 (t287.length : Int), .int .i64 1, .slice Ao53 t287.length co53, .slice none 0 0, .slice none 0 0, .slice none 0 0, .slice none 0 0, .bool false] 31 (0, 0)) (bk_ BK291.out) hg (Kd.N_away HO300.out (fun _ hk => hk.2.2.2.2)))
       have n4_ := Aside0.mk (Kd.N_afterv (ok := (fun k_ => some k_ ≠ (.slice Ao58 x8_2.length co58 : Value).ownBlock ∧ some k_ ≠ (v296 : Value).ownBlock ∧ k_ ≠ g239 ∧ k_ ≠ gb291)) (by (with_reducible repeat (first | apply Kd.N_alloc | apply Kd.N_drewN | apply Kd.N_drew)); exact Kd.N_mono HO294.out (fun _ hk => ⟨⟨hk.2.2.1, ⟨hk.1, ⟨hk.2.2.2.1, hk.2.2.2.2⟩⟩⟩, hk.2.1⟩)) hg hat)
       have n5_ := Aside0.mk (Kd.N_afterv (ok := (fun k_ => some k_ ≠ (.slice Ao58 x8_2.length co58 : Value).ownBlock ∧ k_ ≠ g239 ∧ k_ ≠ gb291)) (by (with_reducible repeat (first | apply Kd.N_alloc | apply Kd.N_drewN | apply Kd.N_drew)); exact Kd.N_mono HO297.out (fun _ hk => ⟨⟨hk.2.1, ⟨hk.2.2.1, hk.2.2.2⟩⟩, hk.1⟩)) hg hat)
       have n6_ := Aside0.mk (hb)
       have n7_ := Aside0.mk (ho)
       clear HO_8
       clear HI239
       clear HO289
       clear BK291
       clear HO294
       clear HO297
       clear HB
       clear HO300
       have HO_8 := n0_
       have HI239 := n1_
       have HO289 := n2_
       have BK291 := n3_
       have HO294 := n4_
       have HO297 := n5_
       have HB := n6_
       have HO303 := n7_
       clear n0_ n1_ n2_ n3_ n4_ n5_ n6_ n7_
       clear ho hb hg hat
       refine hK.out _ _ ⟨(blk_cell BK291.out 0).trans rfl, (blk_cell BK291.out 1).trans rfl, (blk_cell BK291.out 2).trans rfl, (blk_cell BK291.out 3).trans rfl, (blk_cell BK291.out 4).trans rfl, (blk_cell BK291.out 5).trans rfl, (blk_cell BK291.out 6).trans rfl, (blk_cell BK291.out 7).trans rfl⟩ (fun hHeld => ?_)
       clear hK K
       refine norm_ (a' := ?_) ?_ ?_
       rotate_left
       ·
        show Act.put _ (some 90) _ = _
        simp only [Act.put, setIfInBounds_toArray, set_cons_zero, set_cons_succ, i64_w, i32_w]
        rfl
       refine pure_ (i := 12) (N := some 7) (v := ?_) (a' := ?_) #[true,true,true,true,true,true,true,true,true,true,true,true,true,false,false] rfl rfl (any_of HT_.out (by kernel_rfl)) (fun _ _ _ h => h) (Or.inl ⟨by rfl, ?_⟩) ?_ ?_
       rotate_left
       ·
        intro w'
        go_simp
        with_reducible rfl
       rotate_left
       ·
        simp only [Act.put, setIfInBounds_toArray, set_cons_zero, set_cons_succ, i64_w, i32_w]
        rfl
       refine pure_ (i := 13) (N := some 8) (v := ?_) (a' := ?_) #[true,true,true,true,true,true,true,true,true,true,true,true,true,true,false] rfl rfl (any_of HT_.out (by kernel_rfl)) (fun _ _ _ h => h) (Or.inl ⟨by rfl, ?_⟩) ?_ ?_
       rotate_left
       ·
        intro w'
        go_simp
        with_reducible rfl
       rotate_left
       ·
        simp only [Act.put, setIfInBounds_toArray, set_cons_zero, set_cons_succ, i64_w, i32_w]
        rfl
       refine pure_ (i := 14) (N := some 9) (v := ?_) (a' := ?_) #[true,true,true,true,true,true,true,true,true,true,true,true,true,true,true] rfl rfl (any_of HT_.out (by kernel_rfl)) (fun _ _ _ h => h) (Or.inl ⟨by rfl, ?_⟩) ?_ ?_
       rotate_left
       ·
        intro w'
        go_simp
        with_reducible rfl
       rotate_left
       ·
        simp only [Act.put, setIfInBounds_toArray, set_cons_zero, set_cons_succ, i64_w, i32_w]
        rfl
       refine done_ (done_of HT_.out (by kernel_rfl)) ?_
       try go_wp2
       go_roundg k2
       case measure => have := HJ6.out; have := HK2.out; omega
       case rel => exact ⟨(y295), (y301), (wrap64 (x9_2 + (t287.length : Int))), (wrap64 (x10_2 - 1)), (t290), (by first | rfl | (simp; done) | (simp [*]; done)), (by first | rfl | (simp; done) | (simp [*]; done)), H', ⟨by have := HJ6.out; have := HK2.out; omega⟩, ⟨by (with_reducible repeat (first | apply Kd.N_alloc | apply Kd.N_drewN | apply Kd.N_drew)); exact Kd.N_mono HO297.out (fun _ hk => ⟨hk.2, hk.1.2.1⟩)⟩, ⟨by (with_reducible repeat (first | apply Kd.N_alloc | apply Kd.N_drewN | apply Kd.N_drew)); exact Kd.N_mono HO303.out (fun _ hk => ⟨hk.2.1, hk.2.2.2⟩)⟩, ⟨by repeat (first | (with_reducible first | exact HI239.out | apply IsS84.alloc | apply IsS84.drewN | apply IsS84.drew | apply IsS84.set_1 | refine IsS84.far ?_ NB239_291.out _) | exact HI239.out)⟩, ⟨by repeat (first | (with_reducible first | exact HB.out | apply below_alloc | apply pw_below_drewN | apply below_drew1 | refine below_set ?_ (IsS84.ge HI239.out) | refine below_set ?_ GE291.out) | exact HB.out)⟩⟩
      ·
       rw [if_neg c48] at H
       have c48b0 : decide (0 < x10_2) = false := decide_eq_false c48
       clear c48
       replace H := Option.bind_eq_some_iff.mp H
       obtain ⟨⟨t304, t305, t306, t309, t312, t315, t318, t321, t322⟩, A700, H⟩ := H
       replace H : ((product_Lay.f k2 x8_2).bind fun bt324 => (if t322 = 0 then (if bt324.2.2.2.2.2.2.2.2 = 0 then (if t304 = x9_2 then (if bt324.1 = x9_2 then (if t305 = 1 then ((Awake16.f).bind fun t344 => (some t344)) else (some false)) else (some false)) else (some false)) else (some false)) else (some false))) = some r := H
       have A70 := Aside0.mk A700
       clear A700
       replace H := Option.bind_eq_some_iff.mp H
       obtain ⟨⟨t324, t325, t326, t329, t332, t335, t338, t341, t342⟩, A710, H⟩ := H
       replace H : (if t322 = 0 then (if t342 = 0 then (if t304 = x9_2 then (if t324 = x9_2 then (if t305 = 1 then ((Awake16.f).bind fun t344 => (some t344)) else (some false)) else (some false)) else (some false)) else (some false)) else (some false)) = some r := H
       have A71 := Aside0.mk A710
       clear A710
       by_cases c72 : t322 = 0
       rotate_left
       ·
        rw [if_neg c72] at H
        have c72b0 : (t322 == 0) = false := beq_eq_false_iff_ne.mpr c72
        have c72b1 : (t322 != 0) = true := bne_iff_ne.mpr c72
        exact absurd ((Option.some.inj H).trans hr_) (by decide)
       rw [if_pos c72] at H
       have c72b0 : (t322 == 0) = true := beq_iff_eq.mpr c72
       have c72b1 : (t322 != 0) = false := bne_eq_false_iff_eq.mpr c72
       clear c72
       by_cases c73 : t342 = 0
       rotate_left
       ·
        rw [if_neg c73] at H
        have c73b0 : (t342 == 0) = false := beq_eq_false_iff_ne.mpr c73
        have c73b1 : (t342 != 0) = true := bne_iff_ne.mpr c73
        exact absurd ((Option.some.inj H).trans hr_) (by decide)
       rw [if_pos c73] at H
       have c73b0 : (t342 == 0) = true := beq_iff_eq.mpr c73
       have c73b1 : (t342 != 0) = false := bne_eq_false_iff_eq.mpr c73
       clear c73
       by_cases c74 : t304 = x9_2
       rotate_left
       ·
        rw [if_neg c74] at H
        have c74b0 : (t304 == x9_2) = false := beq_eq_false_iff_ne.mpr c74
        have c74b1 : (t304 != x9_2) = true := bne_iff_ne.mpr c74
        exact absurd ((Option.some.inj H).trans hr_) (by decide)
       rw [if_pos c74] at H
       have c74b0 : (t304 == x9_2) = true := beq_iff_eq.mpr c74
       have c74b1 : (t304 != x9_2) = false := bne_eq_false_iff_eq.mpr c74
       clear c74
       by_cases c75 : t324 = x9_2
       rotate_left
       ·
        rw [if_neg c75] at H
        have c75b0 : (t324 == x9_2) = false := beq_eq_false_iff_ne.mpr c75
        have c75b1 : (t324 != x9_2) = true := bne_iff_ne.mpr c75
        exact absurd ((Option.some.inj H).trans hr_) (by decide)
       rw [if_pos c75] at H
       have c75b0 : (t324 == x9_2) = true := beq_iff_eq.mpr c75
       have c75b1 : (t324 != x9_2) = false := bne_eq_false_iff_eq.mpr c75
       clear c75
       by_cases c76 : t305 = 1
       rotate_left
       ·
        rw [if_neg c76] at H
        have c76b0 : (t305 == 1) = false := beq_eq_false_iff_ne.mpr c76
        have c76b1 : (t305 != 1) = true := bne_iff_ne.mpr c76
        exact absurd ((Option.some.inj H).trans hr_) (by decide)
       rw [if_pos c76] at H
       have c76b0 : (t305 == 1) = true := beq_iff_eq.mpr c76
       have c76b1 : (t305 != 1) = false := bne_eq_false_iff_eq.mpr c76
       clear c76
       replace H := Option.bind_eq_some_iff.mp H
       obtain ⟨t344, A770, H⟩ := H
       replace H : (some t344) = some r := H
       have A77 := Aside0.mk A770
       clear A770
       obtain rfl := Option.some.inj H
       obtain ⟨Ao78, co78, eo78⟩ := Kd.N_slice HO_7.out
       subst eo78
       go_wp2_with (first | ((with_reducible refine gate_callee (f := 24) rfl ?_); refine goesL_ (some 97) rfl rfl Try.func24 (by kernel_rfl) rfl #[.slice Ao78 x7_2.length co78] rfl (by (try simp only [List.map_toArray, List.map_cons, List.map_nil]); first | done | rfl | (simp only [List.length_drop, List.length_take]; rfl)) ?_; (with_reducible refine (product_Lay.calls k2 _ _ x7_2 t304 t305 t306 t309 t312 t315 t318 t321 t322 _ ?side1 ?side2 A70.out).mono ?_); (case side1 => repeat (first | exact (Kd.N_reads' HO_7.out).2.2 | (with_reducible refine Kd.C_alloc ?_ _) | (with_reducible refine Kd.C_drewN ?_ _) | (with_reducible refine Kd.C_drew ?_))); (case side2 => exact (Kd.N_reads' HO_7.out).2.1); rintro e w79 ⟨v307, v310, v313, v316, v319, rfl, ho0, ho1, ho2, ho3, ho4, hb⟩; refine ⟨_, rfl, ?_⟩; have n0_ := Aside0.mk (Kd.N_mono (Kd.N_told (Kd.N_told (Kd.N_told (Kd.N_told (Kd.N_told (Kd.N_old (kN_ HO_7.out) hb) (Kd.R_base ho0)) (Kd.R_base ho1)) (by first | exact Kd.N_base ho2 | exact Kd.R_base ho2)) (by first | exact Kd.N_base ho3 | exact Kd.R_base ho3)) (Kd.R_base ho4)) (fun _ h_ => h_.1)); have n1_ := Aside0.mk (Kd.N_mono (Kd.N_told (Kd.N_told (Kd.N_told (Kd.N_told (Kd.N_told (Kd.N_old (kN_ HO_8.out) hb) (Kd.R_base ho0)) (Kd.R_base ho1)) (by first | exact Kd.N_base ho2 | exact Kd.R_base ho2)) (by first | exact Kd.N_base ho3 | exact Kd.R_base ho3)) (Kd.R_base ho4)) (fun _ h_ => h_.1)); have n2_ := Aside0.mk (Kd.R_lower ho0 (below_size (by repeat (first | (with_reducible first | exact HB.out | apply below_alloc | apply pw_below_drewN | apply below_drew1 | refine below_set ?_ (IsS84.ge HI239.out)) | exact HB.out)))); have n3_ := Aside0.mk (Kd.R_lower ho1 (below_size (by repeat (first | (with_reducible first | exact HB.out | apply below_alloc | apply pw_below_drewN | apply below_drew1 | refine below_set ?_ (IsS84.ge HI239.out)) | exact HB.out)))); have n4_ := Aside0.mk (Kd.N_lower (Kd.N_mono (ok' := fun k_ => some k_ ≠ (v307 : Value).ownBlock ∧ some k_ ≠ (v310 : Value).ownBlock ∧ some k_ ≠ (v316 : Value).ownBlock ∧ some k_ ≠ (v319 : Value).ownBlock ∧ some k_ ≠ (.slice Ao78 x7_2.length co78 : Value).ownBlock ∧ some k_ ≠ (u8 : Value).ownBlock ∧ k_ ≠ g239) (Kd.R_N (Kd.R_bound (Kd.R_apart' (Kd.R_apart' (Kd.R_apart' (Kd.R_apart' ho2 (Kd.R_typed ho0) (by decide)) (Kd.R_typed ho1) (by decide)) (Kd.R_typed ho3) (by decide)) (Kd.R_typed ho4) (by decide)))) (fun k_ hk_ => ⟨hk_.1.1.1.1.2, hk_.1.1.1.2, hk_.1.1.2, hk_.1.2, (Kd.fresh' (Kd.N_lt (kN_ HO_7.out)) k_ hk_.2.1), (Kd.fresh' (Kd.N_lt (kN_ HO_8.out)) k_ hk_.2.1), (IsS84.fresh (by repeat (first | (with_reducible first | exact HI239.out | apply IsS84.alloc | apply IsS84.drewN | apply IsS84.drew | apply IsS84.set_1) | exact HI239.out)) k_ hk_.2.1)⟩)) (below_size (by repeat (first | (with_reducible first | exact HB.out | apply below_alloc | apply pw_below_drewN | apply below_drew1 | refine below_set ?_ (IsS84.ge HI239.out)) | exact HB.out)))); have n5_ := Aside0.mk (Kd.N_lower (Kd.N_mono (ok' := fun k_ => some k_ ≠ (v307 : Value).ownBlock ∧ some k_ ≠ (v310 : Value).ownBlock ∧ some k_ ≠ (v313 : Value).ownBlock ∧ some k_ ≠ (v319 : Value).ownBlock ∧ some k_ ≠ (.slice Ao78 x7_2.length co78 : Value).ownBlock ∧ some k_ ≠ (u8 : Value).ownBlock ∧ k_ ≠ g239) (Kd.R_N (Kd.R_bound (Kd.R_apart' ho3 (Kd.R_typed ho0) (by decide)))) (fun k_ hk_ => ⟨hk_.1.2, hk_.1.1.1, hk_.1.1.2.1, hk_.1.1.2.2, (Kd.fresh' (Kd.N_lt (kN_ HO_7.out)) k_ hk_.2.1), (Kd.fresh' (Kd.N_lt (kN_ HO_8.out)) k_ hk_.2.1), (IsS84.fresh (by repeat (first | (with_reducible first | exact HI239.out | apply IsS84.alloc | apply IsS84.drewN | apply IsS84.drew | apply IsS84.set_1) | exact HI239.out)) k_ hk_.2.1)⟩)) (below_size (by repeat (first | (with_reducible first | exact HB.out | apply below_alloc | apply pw_below_drewN | apply below_drew1 | refine below_set ?_ (IsS84.ge HI239.out)) | exact HB.out)))); have n6_ := Aside0.mk (Kd.R_lower ho4 (below_size (by repeat (first | (with_reducible first | exact HB.out | apply below_alloc | apply pw_below_drewN | apply below_drew1 | refine below_set ?_ (IsS84.ge HI239.out)) | exact HB.out)))); have n7_ := Aside0.mk (IsS84.below (by repeat (first | (with_reducible first | exact HI239.out | apply IsS84.alloc | apply IsS84.drewN | apply IsS84.drew | apply IsS84.set_1) | exact HI239.out)) hb); have n8_ := Aside0.mk (below_step (by repeat (first | (with_reducible first | exact HB.out | apply below_alloc | apply pw_below_drewN | apply below_drew1 | refine below_set ?_ (IsS84.ge HI239.out)) | exact HB.out)) hb); clear HO_7 HO_8 HI239 HB; have HO_7 := n0_; have HO_8 := n1_; have HO308 := n2_; have HO311 := n3_; have HO314 := n4_; have HO317 := n5_; have HO320 := n6_; have HI239 := n7_; have HB := n8_; clear n0_ n1_ n2_ n3_ n4_ n5_ n6_ n7_ n8_; (try clear hb); (try clear hb2); (try clear hk); (try clear hi); (try clear ho0); (try clear ho1); (try clear ho2); (try clear ho3); (try clear ho4)) | ((with_reducible refine gate_dst (N := 13) rfl ?_); (try (refine gate_guard (by rfl) ?_; dsimp only)); refine box_event ?hg (N := 13) ?hd (cs := #[.int .i64 0, .int .i64 0, .slice none 0 0, .slice none 0 0, .slice none 0 0, .slice none 0 0, .slice none 0 0, .bool false]) (t := 31) ?hr ?_; (case hd => rfl); (case hg => rfl); (case hr => first | (go_simp; done) | (go_simp; rfl)); intro gb323 hg w80 hbox hb; have n0_ := Aside0.mk (Kd.N_below (Kd.N_elderB (kN_ HO_7.out) gb323 (Nat.le_of_eq hg.symm)) hb); have n1_ := Aside0.mk (Kd.N_below (Kd.N_elderB (kN_ HO_8.out) gb323 (Nat.le_of_eq hg.symm)) hb); have n2_ := Aside0.mk (Kd.R_below (kR_ HO308.out) hb); have n3_ := Aside0.mk (Kd.R_below (kR_ HO311.out) hb); have n4_ := Aside0.mk (Kd.N_below (Kd.N_elderB (kN_ HO314.out) gb323 (Nat.le_of_eq hg.symm)) hb); have n5_ := Aside0.mk (Kd.N_below (Kd.N_elderB (kN_ HO317.out) gb323 (Nat.le_of_eq hg.symm)) hb); have n6_ := Aside0.mk (Kd.R_below (kR_ HO320.out) hb); have n7_ := Aside0.mk (IsS84.below (by repeat (first | (with_reducible first | exact HI239.out | apply IsS84.alloc | apply IsS84.drewN | apply IsS84.drew | apply IsS84.set_1) | exact HI239.out)) hb); have n8_ := Aside0.mk (below_step (by repeat (first | (with_reducible first | exact HB.out | apply below_alloc | apply pw_below_drewN | apply below_drew1 | refine below_set ?_ (IsS84.ge HI239.out)) | exact HB.out)) hb); have n9_ := Aside0.mk (hbox); have n10_ := Aside0.mk ((by rw [hg]; exact (below_size (by repeat (first | (with_reducible first | exact HB.out | apply below_alloc | apply pw_below_drewN | apply below_drew1 | refine below_set ?_ (IsS84.ge HI239.out)) | exact HB.out))) : w.heap.size ≤ gb323)); have n11_ := Aside0.mk ((by rw [hg]; exact (below_size (by repeat (first | (with_reducible first | exact HB.out | apply below_alloc | apply pw_below_drewN | apply below_drew1 | refine below_set ?_ (IsS84.ge HI239.out)) | exact HB.out))) : w.heap.size ≤ gb323)); have n12_ := Aside0.mk ((by rw [hg]; exact Nat.ne_of_lt (IsS84.lt (show IsS84 w _ g239 t237 x240001_2 from by repeat (first | (with_reducible first | exact HI239.out | apply IsS84.alloc | apply IsS84.drewN | apply IsS84.drew | apply IsS84.set_1) | exact HI239.out))) : g239 ≠ gb323)); have n13_ := Aside0.mk ((by rw [hg]; exact Nat.ne_of_gt (IsS84.lt (show IsS84 w _ g239 t237 x240001_2 from by repeat (first | (with_reducible first | exact HI239.out | apply IsS84.alloc | apply IsS84.drewN | apply IsS84.drew | apply IsS84.set_1) | exact HI239.out))) : gb323 ≠ g239)); clear HO_7 HO_8 HO308 HO311 HO314 HO317 HO320 HI239 HB; have HO_7 := n0_; have HO_8 := n1_; have HO308 := n2_; have HO311 := n3_; have HO314 := n4_; have HO317 := n5_; have HO320 := n6_; have HI239 := n7_; have HB := n8_; have BK323 := n9_; have GW323 := n10_; have GE323 := n11_; have NB239_323 := n12_; have NB323_239 := n13_; clear n0_ n1_ n2_ n3_ n4_ n5_ n6_ n7_ n8_ n9_ n10_ n11_ n12_ n13_ hb hbox hg; have hnb81 := NB323_239.out; have hnc81 := NB239_323.out; have hcz82_0 : w80.cell? ⟨gb323, 0, none⟩ = some (.int .i64 0) := (blk_cell BK323.out 0).trans rfl; have hcz82_1 : w80.cell? ⟨gb323, 1, none⟩ = some (.int .i64 0) := (blk_cell BK323.out 1).trans rfl; have hcz82_2 : w80.cell? ⟨gb323, 2, none⟩ = some (.slice none 0 0) := (blk_cell BK323.out 2).trans rfl; have hcz82_3 : w80.cell? ⟨gb323, 3, none⟩ = some (.slice none 0 0) := (blk_cell BK323.out 3).trans rfl; have hcz82_4 : w80.cell? ⟨gb323, 4, none⟩ = some (.slice none 0 0) := (blk_cell BK323.out 4).trans rfl; have hcz82_5 : w80.cell? ⟨gb323, 5, none⟩ = some (.slice none 0 0) := (blk_cell BK323.out 5).trans rfl; have hcz82_6 : w80.cell? ⟨gb323, 6, none⟩ = some (.slice none 0 0) := (blk_cell BK323.out 6).trans rfl; have hcz82_7 : w80.cell? ⟨gb323, 7, none⟩ = some (.bool false) := (blk_cell BK323.out 7).trans rfl; have hfz82_0 := blk_frozen BK323.out 0; have hfz82_1 := blk_frozen BK323.out 1; have hfz82_2 := blk_frozen BK323.out 2; have hfz82_3 := blk_frozen BK323.out 3; have hfz82_4 := blk_frozen BK323.out 4; have hfz82_5 := blk_frozen BK323.out 5; have hfz82_6 := blk_frozen BK323.out 6; have hfz82_7 := blk_frozen BK323.out 7; obtain ⟨Ao83, co83, eo83⟩ := Kd.R_slice HO308.out; subst eo83; obtain ⟨Ao84, co84, eo84⟩ := Kd.R_slice HO311.out; subst eo84; obtain ⟨Ao85, co85, eo85⟩ := Kd.N_slice HO314.out; subst eo85; obtain ⟨Ao86, co86, eo86⟩ := Kd.N_slice HO317.out; subst eo86; obtain ⟨Ao87, co87, eo87⟩ := Kd.R_slice HO320.out; subst eo87; obtain ⟨Ao88, co88, eo88⟩ := Kd.N_slice HO_8.out; subst eo88) | ((with_reducible refine gate_callee (f := 24) rfl ?_); refine goesL_ (some 102) rfl rfl Try.func24 (by kernel_rfl) rfl #[.slice Ao88 x8_2.length co88] rfl (by (try simp only [List.map_toArray, List.map_cons, List.map_nil]); first | done | rfl | (simp only [List.length_drop, List.length_take]; rfl)) ?_; (with_reducible refine (product_Lay.calls k2 _ _ x8_2 t324 t325 t326 t329 t332 t335 t338 t341 t342 _ ?side1 ?side2 A71.out).mono ?_); (case side1 => refine (Kd.N_reads' (e := 31) (base := w.heap.size) (ok := fun k_ => (((((((some k_ ≠ (.slice Ao78 x7_2.length co78 : Value).ownBlock ∧ k_ ≠ g239) ∧ some k_ ≠ (.slice Ao83 t306.length co83 : Value).ownBlock) ∧ some k_ ≠ (.slice Ao84 t309.length co84 : Value).ownBlock) ∧ some k_ ≠ (.slice Ao85 t312.length co85 : Value).ownBlock) ∧ some k_ ≠ (.slice Ao86 t315.length co86 : Value).ownBlock) ∧ some k_ ≠ (.slice Ao87 t318.length co87 : Value).ownBlock) ∧ k_ ≠ gb323)) (n := x8_2.length) (c := co88) ?_).2.2; exact (by (with_reducible repeat (first | apply Kd.N_alloc | apply Kd.N_drewN | apply Kd.N_drew)); exact (Kd.N_mono (Kd.N_far (p := ⟨gb323, 7, none⟩) (Kd.N_far (p := ⟨gb323, 6, none⟩) (Kd.N_far (p := ⟨gb323, 5, none⟩) (Kd.N_far (p := ⟨gb323, 4, none⟩) (Kd.N_far (p := ⟨gb323, 3, none⟩) (Kd.N_far (p := ⟨gb323, 2, none⟩) (Kd.N_far (p := ⟨gb323, 1, none⟩) (Kd.N_far (p := ⟨gb323, 0, none⟩) (Kd.N_mono HO_8.out (fun k_ hk => (⟨hk, hk.2⟩ : _ ∧ k_ ≠ gb323))) (fun _ hk => hk.2) (.int .i64 t304)) (fun _ hk => hk.2) (.int .i64 t305)) (fun _ hk => hk.2) (.slice Ao83 t306.length co83)) (fun _ hk => hk.2) (.slice Ao84 t309.length co84)) (fun _ hk => hk.2) (.slice Ao85 t312.length co85)) (fun _ hk => hk.2) (.slice Ao86 t315.length co86)) (fun _ hk => hk.2) (.slice Ao87 t318.length co87)) (fun _ hk => hk.2) (.bool t321)) (fun _ h_ => h_.1)))); (case side2 => exact (Kd.N_reads' HO_8.out).2.1); rintro e w89 ⟨v327, v330, v333, v336, v339, rfl, ho0, ho1, ho2, ho3, ho4, hb⟩; refine ⟨_, rfl, ?_⟩; have n0_ := Aside0.mk (Kd.N_mono (Kd.N_told (Kd.N_told (Kd.N_told (Kd.N_told (Kd.N_told (Kd.N_old (by (with_reducible repeat (first | apply Kd.N_alloc | apply Kd.N_drewN | apply Kd.N_drew)); exact (Kd.N_mono (Kd.N_far (p := ⟨gb323, 7, none⟩) (Kd.N_far (p := ⟨gb323, 6, none⟩) (Kd.N_far (p := ⟨gb323, 5, none⟩) (Kd.N_far (p := ⟨gb323, 4, none⟩) (Kd.N_far (p := ⟨gb323, 3, none⟩) (Kd.N_far (p := ⟨gb323, 2, none⟩) (Kd.N_far (p := ⟨gb323, 1, none⟩) (Kd.N_far (p := ⟨gb323, 0, none⟩) (Kd.N_mono HO_7.out (fun k_ hk => (⟨hk, hk.2⟩ : _ ∧ k_ ≠ gb323))) (fun _ hk => hk.2) (.int .i64 t304)) (fun _ hk => hk.2) (.int .i64 t305)) (fun _ hk => hk.2) (.slice Ao83 t306.length co83)) (fun _ hk => hk.2) (.slice Ao84 t309.length co84)) (fun _ hk => hk.2) (.slice Ao85 t312.length co85)) (fun _ hk => hk.2) (.slice Ao86 t315.length co86)) (fun _ hk => hk.2) (.slice Ao87 t318.length co87)) (fun _ hk => hk.2) (.bool t321)) (fun _ h_ => h_.1))) hb) (Kd.R_base ho0)) (Kd.R_base ho1)) (by first | exact Kd.N_base ho2 | exact Kd.R_base ho2)) (by first | exact Kd.N_base ho3 | exact Kd.R_base ho3)) (Kd.R_base ho4)) (fun _ h_ => h_.1)); have n1_ := Aside0.mk (Kd.N_mono (Kd.N_told (Kd.N_told (Kd.N_told (Kd.N_told (Kd.N_told (Kd.N_old (by (with_reducible repeat (first | apply Kd.N_alloc | apply Kd.N_drewN | apply Kd.N_drew)); exact (Kd.N_mono (Kd.N_far (p := ⟨gb323, 7, none⟩) (Kd.N_far (p := ⟨gb323, 6, none⟩) (Kd.N_far (p := ⟨gb323, 5, none⟩) (Kd.N_far (p := ⟨gb323, 4, none⟩) (Kd.N_far (p := ⟨gb323, 3, none⟩) (Kd.N_far (p := ⟨gb323, 2, none⟩) (Kd.N_far (p := ⟨gb323, 1, none⟩) (Kd.N_far (p := ⟨gb323, 0, none⟩) (Kd.N_mono HO_8.out (fun k_ hk => (⟨hk, hk.2⟩ : _ ∧ k_ ≠ gb323))) (fun _ hk => hk.2) (.int .i64 t304)) (fun _ hk => hk.2) (.int .i64 t305)) (fun _ hk => hk.2) (.slice Ao83 t306.length co83)) (fun _ hk => hk.2) (.slice Ao84 t309.length co84)) (fun _ hk => hk.2) (.slice Ao85 t312.length co85)) (fun _ hk => hk.2) (.slice Ao86 t315.length co86)) (fun _ hk => hk.2) (.slice Ao87 t318.length co87)) (fun _ hk => hk.2) (.bool t321)) (fun _ h_ => h_.1))) hb) (Kd.R_base ho0)) (Kd.R_base ho1)) (by first | exact Kd.N_base ho2 | exact Kd.R_base ho2)) (by first | exact Kd.N_base ho3 | exact Kd.R_base ho3)) (Kd.R_base ho4)) (fun _ h_ => h_.1)); have n2_ := Aside0.mk (Kd.R_elder' (by (with_reducible repeat (first | apply Kd.R_alloc | apply Kd.R_drewN | apply Kd.R_drew)); exact (Kd.R_mono (Kd.R_far (p := ⟨gb323, 7, none⟩) (Kd.R_far (p := ⟨gb323, 6, none⟩) (Kd.R_far (p := ⟨gb323, 5, none⟩) (Kd.R_far (p := ⟨gb323, 4, none⟩) (Kd.R_far (p := ⟨gb323, 3, none⟩) (Kd.R_far (p := ⟨gb323, 2, none⟩) (Kd.R_far (p := ⟨gb323, 1, none⟩) (Kd.R_far (p := ⟨gb323, 0, none⟩) (Kd.R_types HO308.out BK323.out (by decide)) (fun _ hk => hk.2) (.int .i64 t304)) (fun _ hk => hk.2) (.int .i64 t305)) (fun _ hk => hk.2) (.slice Ao83 t306.length co83)) (fun _ hk => hk.2) (.slice Ao84 t309.length co84)) (fun _ hk => hk.2) (.slice Ao85 t312.length co85)) (fun _ hk => hk.2) (.slice Ao86 t315.length co86)) (fun _ hk => hk.2) (.slice Ao87 t318.length co87)) (fun _ hk => hk.2) (.bool t321)) (fun _ h_ => h_.1))) (Kd.R_base ho0) hb); have n3_ := Aside0.mk (Kd.R_mono (Kd.R_told (Kd.R_told (Kd.R_old (by (with_reducible repeat (first | apply Kd.R_alloc | apply Kd.R_drewN | apply Kd.R_drew)); exact (Kd.R_mono (Kd.R_far (p := ⟨gb323, 7, none⟩) (Kd.R_far (p := ⟨gb323, 6, none⟩) (Kd.R_far (p := ⟨gb323, 5, none⟩) (Kd.R_far (p := ⟨gb323, 4, none⟩) (Kd.R_far (p := ⟨gb323, 3, none⟩) (Kd.R_far (p := ⟨gb323, 2, none⟩) (Kd.R_far (p := ⟨gb323, 1, none⟩) (Kd.R_far (p := ⟨gb323, 0, none⟩) (Kd.R_types HO311.out BK323.out (by decide)) (fun _ hk => hk.2) (.int .i64 t304)) (fun _ hk => hk.2) (.int .i64 t305)) (fun _ hk => hk.2) (.slice Ao83 t306.length co83)) (fun _ hk => hk.2) (.slice Ao84 t309.length co84)) (fun _ hk => hk.2) (.slice Ao85 t312.length co85)) (fun _ hk => hk.2) (.slice Ao86 t315.length co86)) (fun _ hk => hk.2) (.slice Ao87 t318.length co87)) (fun _ hk => hk.2) (.bool t321)) (fun _ h_ => h_.1))) hb) (Kd.R_base ho1)) (Kd.R_base ho4)) (fun _ h_ => h_.1)); have n4_ := Aside0.mk (Kd.N_mono (Kd.N_told (Kd.N_told (Kd.N_told (Kd.N_told (Kd.N_told (Kd.N_old (by (with_reducible repeat (first | apply Kd.N_alloc | apply Kd.N_drewN | apply Kd.N_drew)); exact (Kd.N_mono (Kd.N_far (p := ⟨gb323, 7, none⟩) (Kd.N_far (p := ⟨gb323, 6, none⟩) (Kd.N_far (p := ⟨gb323, 5, none⟩) (Kd.N_far (p := ⟨gb323, 4, none⟩) (Kd.N_far (p := ⟨gb323, 3, none⟩) (Kd.N_far (p := ⟨gb323, 2, none⟩) (Kd.N_far (p := ⟨gb323, 1, none⟩) (Kd.N_far (p := ⟨gb323, 0, none⟩) (Kd.N_mono HO314.out (fun k_ hk => (⟨hk, hk.2⟩ : _ ∧ k_ ≠ gb323))) (fun _ hk => hk.2) (.int .i64 t304)) (fun _ hk => hk.2) (.int .i64 t305)) (fun _ hk => hk.2) (.slice Ao83 t306.length co83)) (fun _ hk => hk.2) (.slice Ao84 t309.length co84)) (fun _ hk => hk.2) (.slice Ao85 t312.length co85)) (fun _ hk => hk.2) (.slice Ao86 t315.length co86)) (fun _ hk => hk.2) (.slice Ao87 t318.length co87)) (fun _ hk => hk.2) (.bool t321)) (fun _ h_ => h_.1))) hb) (Kd.R_base ho0)) (Kd.R_base ho1)) (by first | exact Kd.N_base ho2 | exact Kd.R_base ho2)) (by first | exact Kd.N_base ho3 | exact Kd.R_base ho3)) (Kd.R_base ho4)) (fun _ h_ => h_.1)); have n5_ := Aside0.mk (Kd.N_mono (Kd.N_told (Kd.N_told (Kd.N_told (Kd.N_told (Kd.N_told (Kd.N_old (by (with_reducible repeat (first | apply Kd.N_alloc | apply Kd.N_drewN | apply Kd.N_drew)); exact (Kd.N_mono (Kd.N_far (p := ⟨gb323, 7, none⟩) (Kd.N_far (p := ⟨gb323, 6, none⟩) (Kd.N_far (p := ⟨gb323, 5, none⟩) (Kd.N_far (p := ⟨gb323, 4, none⟩) (Kd.N_far (p := ⟨gb323, 3, none⟩) (Kd.N_far (p := ⟨gb323, 2, none⟩) (Kd.N_far (p := ⟨gb323, 1, none⟩) (Kd.N_far (p := ⟨gb323, 0, none⟩) (Kd.N_mono HO317.out (fun k_ hk => (⟨hk, hk.2⟩ : _ ∧ k_ ≠ gb323))) (fun _ hk => hk.2) (.int .i64 t304)) (fun _ hk => hk.2) (.int .i64 t305)) (fun _ hk => hk.2) (.slice Ao83 t306.length co83)) (fun _ hk => hk.2) (.slice Ao84 t309.length co84)) (fun _ hk => hk.2) (.slice Ao85 t312.length co85)) (fun _ hk => hk.2) (.slice Ao86 t315.length co86)) (fun _ hk => hk.2) (.slice Ao87 t318.length co87)) (fun _ hk => hk.2) (.bool t321)) (fun _ h_ => h_.1))) hb) (Kd.R_base ho0)) (Kd.R_base ho1)) (by first | exact Kd.N_base ho2 | exact Kd.R_base ho2)) (by first | exact Kd.N_base ho3 | exact Kd.R_base ho3)) (Kd.R_base ho4)) (fun _ h_ => h_.1)); have n6_ := Aside0.mk (Kd.R_mono (Kd.R_told (Kd.R_told (Kd.R_old (by (with_reducible repeat (first | apply Kd.R_alloc | apply Kd.R_drewN | apply Kd.R_drew)); exact (Kd.R_mono (Kd.R_far (p := ⟨gb323, 7, none⟩) (Kd.R_far (p := ⟨gb323, 6, none⟩) (Kd.R_far (p := ⟨gb323, 5, none⟩) (Kd.R_far (p := ⟨gb323, 4, none⟩) (Kd.R_far (p := ⟨gb323, 3, none⟩) (Kd.R_far (p := ⟨gb323, 2, none⟩) (Kd.R_far (p := ⟨gb323, 1, none⟩) (Kd.R_far (p := ⟨gb323, 0, none⟩) (Kd.R_types HO320.out BK323.out (by decide)) (fun _ hk => hk.2) (.int .i64 t304)) (fun _ hk => hk.2) (.int .i64 t305)) (fun _ hk => hk.2) (.slice Ao83 t306.length co83)) (fun _ hk => hk.2) (.slice Ao84 t309.length co84)) (fun _ hk => hk.2) (.slice Ao85 t312.length co85)) (fun _ hk => hk.2) (.slice Ao86 t315.length co86)) (fun _ hk => hk.2) (.slice Ao87 t318.length co87)) (fun _ hk => hk.2) (.bool t321)) (fun _ h_ => h_.1))) hb) (Kd.R_base ho1)) (Kd.R_base ho4)) (fun _ h_ => h_.1)); have n7_ := Aside0.mk (Kd.R_lower (Kd.R_new' ho0 (Kd.R_lt (by (with_reducible repeat (first | apply Kd.R_alloc | apply Kd.R_drewN | apply Kd.R_drew)); exact (Kd.R_mono (Kd.R_far (p := ⟨gb323, 7, none⟩) (Kd.R_far (p := ⟨gb323, 6, none⟩) (Kd.R_far (p := ⟨gb323, 5, none⟩) (Kd.R_far (p := ⟨gb323, 4, none⟩) (Kd.R_far (p := ⟨gb323, 3, none⟩) (Kd.R_far (p := ⟨gb323, 2, none⟩) (Kd.R_far (p := ⟨gb323, 1, none⟩) (Kd.R_far (p := ⟨gb323, 0, none⟩) (Kd.R_types HO308.out BK323.out (by decide)) (fun _ hk => hk.2) (.int .i64 t304)) (fun _ hk => hk.2) (.int .i64 t305)) (fun _ hk => hk.2) (.slice Ao83 t306.length co83)) (fun _ hk => hk.2) (.slice Ao84 t309.length co84)) (fun _ hk => hk.2) (.slice Ao85 t312.length co85)) (fun _ hk => hk.2) (.slice Ao86 t315.length co86)) (fun _ hk => hk.2) (.slice Ao87 t318.length co87)) (fun _ hk => hk.2) (.bool t321)) (fun _ h_ => h_.1))))) (below_size (by repeat (first | (with_reducible first | exact HB.out | apply below_alloc | apply pw_below_drewN | apply below_drew1 | refine below_set ?_ (IsS84.ge HI239.out) | refine below_set ?_ GE323.out) | exact HB.out)))); have n8_ := Aside0.mk (Kd.R_lower (Kd.R_new' (Kd.R_new' ho1 (Kd.R_lt (by (with_reducible repeat (first | apply Kd.R_alloc | apply Kd.R_drewN | apply Kd.R_drew)); exact (Kd.R_mono (Kd.R_far (p := ⟨gb323, 7, none⟩) (Kd.R_far (p := ⟨gb323, 6, none⟩) (Kd.R_far (p := ⟨gb323, 5, none⟩) (Kd.R_far (p := ⟨gb323, 4, none⟩) (Kd.R_far (p := ⟨gb323, 3, none⟩) (Kd.R_far (p := ⟨gb323, 2, none⟩) (Kd.R_far (p := ⟨gb323, 1, none⟩) (Kd.R_far (p := ⟨gb323, 0, none⟩) (Kd.R_types HO311.out BK323.out (by decide)) (fun _ hk => hk.2) (.int .i64 t304)) (fun _ hk => hk.2) (.int .i64 t305)) (fun _ hk => hk.2) (.slice Ao83 t306.length co83)) (fun _ hk => hk.2) (.slice Ao84 t309.length co84)) (fun _ hk => hk.2) (.slice Ao85 t312.length co85)) (fun _ hk => hk.2) (.slice Ao86 t315.length co86)) (fun _ hk => hk.2) (.slice Ao87 t318.length co87)) (fun _ hk => hk.2) (.bool t321)) (fun _ h_ => h_.1))))) (Kd.R_lt (by (with_reducible repeat (first | apply Kd.R_alloc | apply Kd.R_drewN | apply Kd.R_drew)); exact (Kd.R_mono (Kd.R_far (p := ⟨gb323, 7, none⟩) (Kd.R_far (p := ⟨gb323, 6, none⟩) (Kd.R_far (p := ⟨gb323, 5, none⟩) (Kd.R_far (p := ⟨gb323, 4, none⟩) (Kd.R_far (p := ⟨gb323, 3, none⟩) (Kd.R_far (p := ⟨gb323, 2, none⟩) (Kd.R_far (p := ⟨gb323, 1, none⟩) (Kd.R_far (p := ⟨gb323, 0, none⟩) (Kd.R_types HO320.out BK323.out (by decide)) (fun _ hk => hk.2) (.int .i64 t304)) (fun _ hk => hk.2) (.int .i64 t305)) (fun _ hk => hk.2) (.slice Ao83 t306.length co83)) (fun _ hk => hk.2) (.slice Ao84 t309.length co84)) (fun _ hk => hk.2) (.slice Ao85 t312.length co85)) (fun _ hk => hk.2) (.slice Ao86 t315.length co86)) (fun _ hk => hk.2) (.slice Ao87 t318.length co87)) (fun _ hk => hk.2) (.bool t321)) (fun _ h_ => h_.1))))) (below_size (by repeat (first | (with_reducible first | exact HB.out | apply below_alloc | apply pw_below_drewN | apply below_drew1 | refine below_set ?_ (IsS84.ge HI239.out) | refine below_set ?_ GE323.out) | exact HB.out)))); have n9_ := Aside0.mk (Kd.N_lower (Kd.N_mono (ok' := fun k_ => some k_ ≠ (v327 : Value).ownBlock ∧ some k_ ≠ (v330 : Value).ownBlock ∧ some k_ ≠ (v336 : Value).ownBlock ∧ some k_ ≠ (v339 : Value).ownBlock ∧ some k_ ≠ (.slice Ao78 x7_2.length co78 : Value).ownBlock ∧ some k_ ≠ (.slice Ao88 x8_2.length co88 : Value).ownBlock ∧ some k_ ≠ (.slice Ao83 t306.length co83 : Value).ownBlock ∧ some k_ ≠ (.slice Ao84 t309.length co84 : Value).ownBlock ∧ some k_ ≠ (.slice Ao85 t312.length co85 : Value).ownBlock ∧ some k_ ≠ (.slice Ao86 t315.length co86 : Value).ownBlock ∧ some k_ ≠ (.slice Ao87 t318.length co87 : Value).ownBlock ∧ k_ ≠ gb323 ∧ k_ ≠ g239) (Kd.R_N (Kd.R_bound (Kd.R_apart' (Kd.R_apart' (Kd.R_apart' (Kd.R_apart' ho2 (Kd.R_typed ho0) (by decide)) (Kd.R_typed ho1) (by decide)) (Kd.R_typed ho3) (by decide)) (Kd.R_typed ho4) (by decide)))) (fun k_ hk_ => ⟨hk_.1.1.1.1.2, hk_.1.1.1.2, hk_.1.1.2, hk_.1.2, (Kd.fresh' (Kd.N_lt (by (with_reducible repeat (first | apply Kd.N_alloc | apply Kd.N_drewN | apply Kd.N_drew)); exact (Kd.N_mono (Kd.N_far (p := ⟨gb323, 7, none⟩) (Kd.N_far (p := ⟨gb323, 6, none⟩) (Kd.N_far (p := ⟨gb323, 5, none⟩) (Kd.N_far (p := ⟨gb323, 4, none⟩) (Kd.N_far (p := ⟨gb323, 3, none⟩) (Kd.N_far (p := ⟨gb323, 2, none⟩) (Kd.N_far (p := ⟨gb323, 1, none⟩) (Kd.N_far (p := ⟨gb323, 0, none⟩) (Kd.N_mono HO_7.out (fun k_ hk => (⟨hk, hk.2⟩ : _ ∧ k_ ≠ gb323))) (fun _ hk => hk.2) (.int .i64 t304)) (fun _ hk => hk.2) (.int .i64 t305)) (fun _ hk => hk.2) (.slice Ao83 t306.length co83)) (fun _ hk => hk.2) (.slice Ao84 t309.length co84)) (fun _ hk => hk.2) (.slice Ao85 t312.length co85)) (fun _ hk => hk.2) (.slice Ao86 t315.length co86)) (fun _ hk => hk.2) (.slice Ao87 t318.length co87)) (fun _ hk => hk.2) (.bool t321)) (fun _ h_ => h_.1)))) k_ hk_.2.1), (Kd.fresh' (Kd.N_lt (by (with_reducible repeat (first | apply Kd.N_alloc | apply Kd.N_drewN | apply Kd.N_drew)); exact (Kd.N_mono (Kd.N_far (p := ⟨gb323, 7, none⟩) (Kd.N_far (p := ⟨gb323, 6, none⟩) (Kd.N_far (p := ⟨gb323, 5, none⟩) (Kd.N_far (p := ⟨gb323, 4, none⟩) (Kd.N_far (p := ⟨gb323, 3, none⟩) (Kd.N_far (p := ⟨gb323, 2, none⟩) (Kd.N_far (p := ⟨gb323, 1, none⟩) (Kd.N_far (p := ⟨gb323, 0, none⟩) (Kd.N_mono HO_8.out (fun k_ hk => (⟨hk, hk.2⟩ : _ ∧ k_ ≠ gb323))) (fun _ hk => hk.2) (.int .i64 t304)) (fun _ hk => hk.2) (.int .i64 t305)) (fun _ hk => hk.2) (.slice Ao83 t306.length co83)) (fun _ hk => hk.2) (.slice Ao84 t309.length co84)) (fun _ hk => hk.2) (.slice Ao85 t312.length co85)) (fun _ hk => hk.2) (.slice Ao86 t315.length co86)) (fun _ hk => hk.2) (.slice Ao87 t318.length co87)) (fun _ hk => hk.2) (.bool t321)) (fun _ h_ => h_.1)))) k_ hk_.2.1), (Kd.fresh' (Kd.R_lt (by (with_reducible repeat (first | apply Kd.R_alloc | apply Kd.R_drewN | apply Kd.R_drew)); exact (Kd.R_mono (Kd.R_far (p := ⟨gb323, 7, none⟩) (Kd.R_far (p := ⟨gb323, 6, none⟩) (Kd.R_far (p := ⟨gb323, 5, none⟩) (Kd.R_far (p := ⟨gb323, 4, none⟩) (Kd.R_far (p := ⟨gb323, 3, none⟩) (Kd.R_far (p := ⟨gb323, 2, none⟩) (Kd.R_far (p := ⟨gb323, 1, none⟩) (Kd.R_far (p := ⟨gb323, 0, none⟩) (Kd.R_types HO308.out BK323.out (by decide)) (fun _ hk => hk.2) (.int .i64 t304)) (fun _ hk => hk.2) (.int .i64 t305)) (fun _ hk => hk.2) (.slice Ao83 t306.length co83)) (fun _ hk => hk.2) (.slice Ao84 t309.length co84)) (fun _ hk => hk.2) (.slice Ao85 t312.length co85)) (fun _ hk => hk.2) (.slice Ao86 t315.length co86)) (fun _ hk => hk.2) (.slice Ao87 t318.length co87)) (fun _ hk => hk.2) (.bool t321)) (fun _ h_ => h_.1)))) k_ hk_.2.1), (Kd.fresh' (Kd.R_lt (by (with_reducible repeat (first | apply Kd.R_alloc | apply Kd.R_drewN | apply Kd.R_drew)); exact (Kd.R_mono (Kd.R_far (p := ⟨gb323, 7, none⟩) (Kd.R_far (p := ⟨gb323, 6, none⟩) (Kd.R_far (p := ⟨gb323, 5, none⟩) (Kd.R_far (p := ⟨gb323, 4, none⟩) (Kd.R_far (p := ⟨gb323, 3, none⟩) (Kd.R_far (p := ⟨gb323, 2, none⟩) (Kd.R_far (p := ⟨gb323, 1, none⟩) (Kd.R_far (p := ⟨gb323, 0, none⟩) (Kd.R_types HO311.out BK323.out (by decide)) (fun _ hk => hk.2) (.int .i64 t304)) (fun _ hk => hk.2) (.int .i64 t305)) (fun _ hk => hk.2) (.slice Ao83 t306.length co83)) (fun _ hk => hk.2) (.slice Ao84 t309.length co84)) (fun _ hk => hk.2) (.slice Ao85 t312.length co85)) (fun _ hk => hk.2) (.slice Ao86 t315.length co86)) (fun _ hk => hk.2) (.slice Ao87 t318.length co87)) (fun _ hk => hk.2) (.bool t321)) (fun _ h_ => h_.1)))) k_ hk_.2.1), (Kd.fresh' (Kd.N_lt (by (with_reducible repeat (first | apply Kd.N_alloc | apply Kd.N_drewN | apply Kd.N_drew)); exact (Kd.N_mono (Kd.N_far (p := ⟨gb323, 7, none⟩) (Kd.N_far (p := ⟨gb323, 6, none⟩) (Kd.N_far (p := ⟨gb323, 5, none⟩) (Kd.N_far (p := ⟨gb323, 4, none⟩) (Kd.N_far (p := ⟨gb323, 3, none⟩) (Kd.N_far (p := ⟨gb323, 2, none⟩) (Kd.N_far (p := ⟨gb323, 1, none⟩) (Kd.N_far (p := ⟨gb323, 0, none⟩) (Kd.N_mono HO314.out (fun k_ hk => (⟨hk, hk.2⟩ : _ ∧ k_ ≠ gb323))) (fun _ hk => hk.2) (.int .i64 t304)) (fun _ hk => hk.2) (.int .i64 t305)) (fun _ hk => hk.2) (.slice Ao83 t306.length co83)) (fun _ hk => hk.2) (.slice Ao84 t309.length co84)) (fun _ hk => hk.2) (.slice Ao85 t312.length co85)) (fun _ hk => hk.2) (.slice Ao86 t315.length co86)) (fun _ hk => hk.2) (.slice Ao87 t318.length co87)) (fun _ hk => hk.2) (.bool t321)) (fun _ h_ => h_.1)))) k_ hk_.2.1), (Kd.fresh' (Kd.N_lt (by (with_reducible repeat (first | apply Kd.N_alloc | apply Kd.N_drewN | apply Kd.N_drew)); exact (Kd.N_mono (Kd.N_far (p := ⟨gb323, 7, none⟩) (Kd.N_far (p := ⟨gb323, 6, none⟩) (Kd.N_far (p := ⟨gb323, 5, none⟩) (Kd.N_far (p := ⟨gb323, 4, none⟩) (Kd.N_far (p := ⟨gb323, 3, none⟩) (Kd.N_far (p := ⟨gb323, 2, none⟩) (Kd.N_far (p := ⟨gb323, 1, none⟩) (Kd.N_far (p := ⟨gb323, 0, none⟩) (Kd.N_mono HO317.out (fun k_ hk => (⟨hk, hk.2⟩ : _ ∧ k_ ≠ gb323))) (fun _ hk => hk.2) (.int .i64 t304)) (fun _ hk => hk.2) (.int .i64 t305)) (fun _ hk => hk.2) (.slice Ao83 t306.length co83)) (fun _ hk => hk.2) (.slice Ao84 t309.length co84)) (fun _ hk => hk.2) (.slice Ao85 t312.length co85)) (fun _ hk => hk.2) (.slice Ao86 t315.length co86)) (fun _ hk => hk.2) (.slice Ao87 t318.length co87)) (fun _ hk => hk.2) (.bool t321)) (fun _ h_ => h_.1)))) k_ hk_.2.1), (Kd.fresh' (Kd.R_lt (by (with_reducible repeat (first | apply Kd.R_alloc | apply Kd.R_drewN | apply Kd.R_drew)); exact (Kd.R_mono (Kd.R_far (p := ⟨gb323, 7, none⟩) (Kd.R_far (p := ⟨gb323, 6, none⟩) (Kd.R_far (p := ⟨gb323, 5, none⟩) (Kd.R_far (p := ⟨gb323, 4, none⟩) (Kd.R_far (p := ⟨gb323, 3, none⟩) (Kd.R_far (p := ⟨gb323, 2, none⟩) (Kd.R_far (p := ⟨gb323, 1, none⟩) (Kd.R_far (p := ⟨gb323, 0, none⟩) (Kd.R_types HO320.out BK323.out (by decide)) (fun _ hk => hk.2) (.int .i64 t304)) (fun _ hk => hk.2) (.int .i64 t305)) (fun _ hk => hk.2) (.slice Ao83 t306.length co83)) (fun _ hk => hk.2) (.slice Ao84 t309.length co84)) (fun _ hk => hk.2) (.slice Ao85 t312.length co85)) (fun _ hk => hk.2) (.slice Ao86 t315.length co86)) (fun _ hk => hk.2) (.slice Ao87 t318.length co87)) (fun _ hk => hk.2) (.bool t321)) (fun _ h_ => h_.1)))) k_ hk_.2.1), (Kd.freshB (g := gb323) (o := .cells #[.int .i64 t304, .int .i64 t305, .slice Ao83 t306.length co83, .slice Ao84 t309.length co84, .slice Ao85 t312.length co85, .slice Ao86 t315.length co86, .slice Ao87 t318.length co87, .bool t321] 31 (0, 0)) (by (with_reducible repeat (first | refine blk_drewN ?_ _ | refine blk_drew ?_ | refine blk_alloc ?_ _)); refine blk_put (cs := #[.int .i64 t304, .int .i64 t305, .slice Ao83 t306.length co83, .slice Ao84 t309.length co84, .slice Ao85 t312.length co85, .slice Ao86 t315.length co86, .slice Ao87 t318.length co87, .bool false]) ?_ 7 _ rfl; (with_reducible repeat (first | refine blk_drewN ?_ _ | refine blk_drew ?_ | refine blk_alloc ?_ _)); refine blk_put (cs := #[.int .i64 t304, .int .i64 t305, .slice Ao83 t306.length co83, .slice Ao84 t309.length co84, .slice Ao85 t312.length co85, .slice Ao86 t315.length co86, .slice none 0 0, .bool false]) ?_ 6 _ rfl; (with_reducible repeat (first | refine blk_drewN ?_ _ | refine blk_drew ?_ | refine blk_alloc ?_ _)); refine blk_put (cs := #[.int .i64 t304, .int .i64 t305, .slice Ao83 t306.length co83, .slice Ao84 t309.length co84, .slice Ao85 t312.length co85, .slice none 0 0, .slice none 0 0, .bool false]) ?_ 5 _ rfl; (with_reducible repeat (first | refine blk_drewN ?_ _ | refine blk_drew ?_ | refine blk_alloc ?_ _)); refine blk_put (cs := #[.int .i64 t304, .int .i64 t305, .slice Ao83 t306.length co83, .slice Ao84 t309.length co84, .slice none 0 0, .slice none 0 0, .slice none 0 0, .bool false]) ?_ 4 _ rfl; (with_reducible repeat (first | refine blk_drewN ?_ _ | refine blk_drew ?_ | refine blk_alloc ?_ _)); refine blk_put (cs := #[.int .i64 t304, .int .i64 t305, .slice Ao83 t306.length co83, .slice none 0 0, .slice none 0 0, .slice none 0 0, .slice none 0 0, .bool false]) ?_ 3 _ rfl; (with_reducible repeat (first | refine blk_drewN ?_ _ | refine blk_drew ?_ | refine blk_alloc ?_ _)); refine blk_put (cs := #[.int .i64 t304, .int .i64 t305, .slice none 0 0, .slice none 0 0, .slice none 0 0, .slice none 0 0, .slice none 0 0, .bool false]) ?_ 2 _ rfl; (with_reducible repeat (first | refine blk_drewN ?_ _ | refine blk_drew ?_ | refine blk_alloc ?_ _)); refine blk_put (cs := #[.int .i64 t304, .int .i64 0, .slice none 0 0, .slice none 0 0, .slice none 0 0, .slice none 0 0, .slice none 0 0, .bool false]) ?_ 1 _ rfl; (with_reducible repeat (first | refine blk_drewN ?_ _ | refine blk_drew ?_ | refine blk_alloc ?_ _)); refine blk_put (cs := #[.int .i64 0, .int .i64 0, .slice none 0 0, .slice none 0 0, .slice none 0 0, .slice none 0 0, .slice none 0 0, .bool false]) ?_ 0 _ rfl; (with_reducible repeat (first | refine blk_drewN ?_ _ | refine blk_drew ?_ | refine blk_alloc ?_ _)); exact BK323.out) k_ hk_.2.1), (IsS84.fresh (by repeat (first | (with_reducible first | exact HI239.out | apply IsS84.alloc | apply IsS84.drewN | apply IsS84.drew | apply IsS84.set_1 | refine IsS84.far ?_ NB239_323.out _) | exact HI239.out)) k_ hk_.2.1)⟩)) (below_size (by repeat (first | (with_reducible first | exact HB.out | apply below_alloc | apply pw_below_drewN | apply below_drew1 | refine below_set ?_ (IsS84.ge HI239.out) | refine below_set ?_ GE323.out) | exact HB.out)))); have n10_ := Aside0.mk (Kd.N_lower (Kd.N_mono (ok' := fun k_ => some k_ ≠ (v327 : Value).ownBlock ∧ some k_ ≠ (v330 : Value).ownBlock ∧ some k_ ≠ (v333 : Value).ownBlock ∧ some k_ ≠ (v339 : Value).ownBlock ∧ some k_ ≠ (.slice Ao78 x7_2.length co78 : Value).ownBlock ∧ some k_ ≠ (.slice Ao88 x8_2.length co88 : Value).ownBlock ∧ some k_ ≠ (.slice Ao83 t306.length co83 : Value).ownBlock ∧ some k_ ≠ (.slice Ao84 t309.length co84 : Value).ownBlock ∧ some k_ ≠ (.slice Ao85 t312.length co85 : Value).ownBlock ∧ some k_ ≠ (.slice Ao86 t315.length co86 : Value).ownBlock ∧ some k_ ≠ (.slice Ao87 t318.length co87 : Value).ownBlock ∧ k_ ≠ gb323 ∧ k_ ≠ g239) (Kd.R_N (Kd.R_bound (Kd.R_apart' ho3 (Kd.R_typed ho0) (by decide)))) (fun k_ hk_ => ⟨hk_.1.2, hk_.1.1.1, hk_.1.1.2.1, hk_.1.1.2.2, (Kd.fresh' (Kd.N_lt (by (with_reducible repeat (first | apply Kd.N_alloc | apply Kd.N_drewN | apply Kd.N_drew)); exact (Kd.N_mono (Kd.N_far (p := ⟨gb323, 7, none⟩) (Kd.N_far (p := ⟨gb323, 6, none⟩) (Kd.N_far (p := ⟨gb323, 5, none⟩) (Kd.N_far (p := ⟨gb323, 4, none⟩) (Kd.N_far (p := ⟨gb323, 3, none⟩) (Kd.N_far (p := ⟨gb323, 2, none⟩) (Kd.N_far (p := ⟨gb323, 1, none⟩) (Kd.N_far (p := ⟨gb323, 0, none⟩) (Kd.N_mono HO_7.out (fun k_ hk => (⟨hk, hk.2⟩ : _ ∧ k_ ≠ gb323))) (fun _ hk => hk.2) (.int .i64 t304)) (fun _ hk => hk.2) (.int .i64 t305)) (fun _ hk => hk.2) (.slice Ao83 t306.length co83)) (fun _ hk => hk.2) (.slice Ao84 t309.length co84)) (fun _ hk => hk.2) (.slice Ao85 t312.length co85)) (fun _ hk => hk.2) (.slice Ao86 t315.length co86)) (fun _ hk => hk.2) (.slice Ao87 t318.length co87)) (fun _ hk => hk.2) (.bool t321)) (fun _ h_ => h_.1)))) k_ hk_.2.1), (Kd.fresh' (Kd.N_lt (by (with_reducible repeat (first | apply Kd.N_alloc | apply Kd.N_drewN | apply Kd.N_drew)); exact (Kd.N_mono (Kd.N_far (p := ⟨gb323, 7, none⟩) (Kd.N_far (p := ⟨gb323, 6, none⟩) (Kd.N_far (p := ⟨gb323, 5, none⟩) (Kd.N_far (p := ⟨gb323, 4, none⟩) (Kd.N_far (p := ⟨gb323, 3, none⟩) (Kd.N_far (p := ⟨gb323, 2, none⟩) (Kd.N_far (p := ⟨gb323, 1, none⟩) (Kd.N_far (p := ⟨gb323, 0, none⟩) (Kd.N_mono HO_8.out (fun k_ hk => (⟨hk, hk.2⟩ : _ ∧ k_ ≠ gb323))) (fun _ hk => hk.2) (.int .i64 t304)) (fun _ hk => hk.2) (.int .i64 t305)) (fun _ hk => hk.2) (.slice Ao83 t306.length co83)) (fun _ hk => hk.2) (.slice Ao84 t309.length co84)) (fun _ hk => hk.2) (.slice Ao85 t312.length co85)) (fun _ hk => hk.2) (.slice Ao86 t315.length co86)) (fun _ hk => hk.2) (.slice Ao87 t318.length co87)) (fun _ hk => hk.2) (.bool t321)) (fun _ h_ => h_.1)))) k_ hk_.2.1), (Kd.fresh' (Kd.R_lt (by (with_reducible repeat (first | apply Kd.R_alloc | apply Kd.R_drewN | apply Kd.R_drew)); exact (Kd.R_mono (Kd.R_far (p := ⟨gb323, 7, none⟩) (Kd.R_far (p := ⟨gb323, 6, none⟩) (Kd.R_far (p := ⟨gb323, 5, none⟩) (Kd.R_far (p := ⟨gb323, 4, none⟩) (Kd.R_far (p := ⟨gb323, 3, none⟩) (Kd.R_far (p := ⟨gb323, 2, none⟩) (Kd.R_far (p := ⟨gb323, 1, none⟩) (Kd.R_far (p := ⟨gb323, 0, none⟩) (Kd.R_types HO308.out BK323.out (by decide)) (fun _ hk => hk.2) (.int .i64 t304)) (fun _ hk => hk.2) (.int .i64 t305)) (fun _ hk => hk.2) (.slice Ao83 t306.length co83)) (fun _ hk => hk.2) (.slice Ao84 t309.length co84)) (fun _ hk => hk.2) (.slice Ao85 t312.length co85)) (fun _ hk => hk.2) (.slice Ao86 t315.length co86)) (fun _ hk => hk.2) (.slice Ao87 t318.length co87)) (fun _ hk => hk.2) (.bool t321)) (fun _ h_ => h_.1)))) k_ hk_.2.1), (Kd.fresh' (Kd.R_lt (by (with_reducible repeat (first | apply Kd.R_alloc | apply Kd.R_drewN | apply Kd.R_drew)); exact (Kd.R_mono (Kd.R_far (p := ⟨gb323, 7, none⟩) (Kd.R_far (p := ⟨gb323, 6, none⟩) (Kd.R_far (p := ⟨gb323, 5, none⟩) (Kd.R_far (p := ⟨gb323, 4, none⟩) (Kd.R_far (p := ⟨gb323, 3, none⟩) (Kd.R_far (p := ⟨gb323, 2, none⟩) (Kd.R_far (p := ⟨gb323, 1, none⟩) (Kd.R_far (p := ⟨gb323, 0, none⟩) (Kd.R_types HO311.out BK323.out (by decide)) (fun _ hk => hk.2) (.int .i64 t304)) (fun _ hk => hk.2) (.int .i64 t305)) (fun _ hk => hk.2) (.slice Ao83 t306.length co83)) (fun _ hk => hk.2) (.slice Ao84 t309.length co84)) (fun _ hk => hk.2) (.slice Ao85 t312.length co85)) (fun _ hk => hk.2) (.slice Ao86 t315.length co86)) (fun _ hk => hk.2) (.slice Ao87 t318.length co87)) (fun _ hk => hk.2) (.bool t321)) (fun _ h_ => h_.1)))) k_ hk_.2.1), (Kd.fresh' (Kd.N_lt (by (with_reducible repeat (first | apply Kd.N_alloc | apply Kd.N_drewN | apply Kd.N_drew)); exact (Kd.N_mono (Kd.N_far (p := ⟨gb323, 7, none⟩) (Kd.N_far (p := ⟨gb323, 6, none⟩) (Kd.N_far (p := ⟨gb323, 5, none⟩) (Kd.N_far (p := ⟨gb323, 4, none⟩) (Kd.N_far (p := ⟨gb323, 3, none⟩) (Kd.N_far (p := ⟨gb323, 2, none⟩) (Kd.N_far (p := ⟨gb323, 1, none⟩) (Kd.N_far (p := ⟨gb323, 0, none⟩) (Kd.N_mono HO314.out (fun k_ hk => (⟨hk, hk.2⟩ : _ ∧ k_ ≠ gb323))) (fun _ hk => hk.2) (.int .i64 t304)) (fun _ hk => hk.2) (.int .i64 t305)) (fun _ hk => hk.2) (.slice Ao83 t306.length co83)) (fun _ hk => hk.2) (.slice Ao84 t309.length co84)) (fun _ hk => hk.2) (.slice Ao85 t312.length co85)) (fun _ hk => hk.2) (.slice Ao86 t315.length co86)) (fun _ hk => hk.2) (.slice Ao87 t318.length co87)) (fun _ hk => hk.2) (.bool t321)) (fun _ h_ => h_.1)))) k_ hk_.2.1), (Kd.fresh' (Kd.N_lt (by (with_reducible repeat (first | apply Kd.N_alloc | apply Kd.N_drewN | apply Kd.N_drew)); exact (Kd.N_mono (Kd.N_far (p := ⟨gb323, 7, none⟩) (Kd.N_far (p := ⟨gb323, 6, none⟩) (Kd.N_far (p := ⟨gb323, 5, none⟩) (Kd.N_far (p := ⟨gb323, 4, none⟩) (Kd.N_far (p := ⟨gb323, 3, none⟩) (Kd.N_far (p := ⟨gb323, 2, none⟩) (Kd.N_far (p := ⟨gb323, 1, none⟩) (Kd.N_far (p := ⟨gb323, 0, none⟩) (Kd.N_mono HO317.out (fun k_ hk => (⟨hk, hk.2⟩ : _ ∧ k_ ≠ gb323))) (fun _ hk => hk.2) (.int .i64 t304)) (fun _ hk => hk.2) (.int .i64 t305)) (fun _ hk => hk.2) (.slice Ao83 t306.length co83)) (fun _ hk => hk.2) (.slice Ao84 t309.length co84)) (fun _ hk => hk.2) (.slice Ao85 t312.length co85)) (fun _ hk => hk.2) (.slice Ao86 t315.length co86)) (fun _ hk => hk.2) (.slice Ao87 t318.length co87)) (fun _ hk => hk.2) (.bool t321)) (fun _ h_ => h_.1)))) k_ hk_.2.1), (Kd.fresh' (Kd.R_lt (by (with_reducible repeat (first | apply Kd.R_alloc | apply Kd.R_drewN | apply Kd.R_drew)); exact (Kd.R_mono (Kd.R_far (p := ⟨gb323, 7, none⟩) (Kd.R_far (p := ⟨gb323, 6, none⟩) (Kd.R_far (p := ⟨gb323, 5, none⟩) (Kd.R_far (p := ⟨gb323, 4, none⟩) (Kd.R_far (p := ⟨gb323, 3, none⟩) (Kd.R_far (p := ⟨gb323, 2, none⟩) (Kd.R_far (p := ⟨gb323, 1, none⟩) (Kd.R_far (p := ⟨gb323, 0, none⟩) (Kd.R_types HO320.out BK323.out (by decide)) (fun _ hk => hk.2) (.int .i64 t304)) (fun _ hk => hk.2) (.int .i64 t305)) (fun _ hk => hk.2) (.slice Ao83 t306.length co83)) (fun _ hk => hk.2) (.slice Ao84 t309.length co84)) (fun _ hk => hk.2) (.slice Ao85 t312.length co85)) (fun _ hk => hk.2) (.slice Ao86 t315.length co86)) (fun _ hk => hk.2) (.slice Ao87 t318.length co87)) (fun _ hk => hk.2) (.bool t321)) (fun _ h_ => h_.1)))) k_ hk_.2.1), (Kd.freshB (g := gb323) (o := .cells #[.int .i64 t304, .int .i64 t305, .slice Ao83 t306.length co83, .slice Ao84 t309.length co84, .slice Ao85 t312.length co85, .slice Ao86 t315.length co86, .slice Ao87 t318.length co87, .bool t321] 31 (0, 0)) (by (with_reducible repeat (first | refine blk_drewN ?_ _ | refine blk_drew ?_ | refine blk_alloc ?_ _)); refine blk_put (cs := #[.int .i64 t304, .int .i64 t305, .slice Ao83 t306.length co83, .slice Ao84 t309.length co84, .slice Ao85 t312.length co85, .slice Ao86 t315.length co86, .slice Ao87 t318.length co87, .bool false]) ?_ 7 _ rfl; (with_reducible repeat (first | refine blk_drewN ?_ _ | refine blk_drew ?_ | refine blk_alloc ?_ _)); refine blk_put (cs := #[.int .i64 t304, .int .i64 t305, .slice Ao83 t306.length co83, .slice Ao84 t309.length co84, .slice Ao85 t312.length co85, .slice Ao86 t315.length co86, .slice none 0 0, .bool false]) ?_ 6 _ rfl; (with_reducible repeat (first | refine blk_drewN ?_ _ | refine blk_drew ?_ | refine blk_alloc ?_ _)); refine blk_put (cs := #[.int .i64 t304, .int .i64 t305, .slice Ao83 t306.length co83, .slice Ao84 t309.length co84, .slice Ao85 t312.length co85, .slice none 0 0, .slice none 0 0, .bool false]) ?_ 5 _ rfl; (with_reducible repeat (first | refine blk_drewN ?_ _ | refine blk_drew ?_ | refine blk_alloc ?_ _)); refine blk_put (cs := #[.int .i64 t304, .int .i64 t305, .slice Ao83 t306.length co83, .slice Ao84 t309.length co84, .slice none 0 0, .slice none 0 0, .slice none 0 0, .bool false]) ?_ 4 _ rfl; (with_reducible repeat (first | refine blk_drewN ?_ _ | refine blk_drew ?_ | refine blk_alloc ?_ _)); refine blk_put (cs := #[.int .i64 t304, .int .i64 t305, .slice Ao83 t306.length co83, .slice none 0 0, .slice none 0 0, .slice none 0 0, .slice none 0 0, .bool false]) ?_ 3 _ rfl; (with_reducible repeat (first | refine blk_drewN ?_ _ | refine blk_drew ?_ | refine blk_alloc ?_ _)); refine blk_put (cs := #[.int .i64 t304, .int .i64 t305, .slice none 0 0, .slice none 0 0, .slice none 0 0, .slice none 0 0, .slice none 0 0, .bool false]) ?_ 2 _ rfl; (with_reducible repeat (first | refine blk_drewN ?_ _ | refine blk_drew ?_ | refine blk_alloc ?_ _)); refine blk_put (cs := #[.int .i64 t304, .int .i64 0, .slice none 0 0, .slice none 0 0, .slice none 0 0, .slice none 0 0, .slice none 0 0, .bool false]) ?_ 1 _ rfl; (with_reducible repeat (first | refine blk_drewN ?_ _ | refine blk_drew ?_ | refine blk_alloc ?_ _)); refine blk_put (cs := #[.int .i64 0, .int .i64 0, .slice none 0 0, .slice none 0 0, .slice none 0 0, .slice none 0 0, .slice none 0 0, .bool false]) ?_ 0 _ rfl; (with_reducible repeat (first | refine blk_drewN ?_ _ | refine blk_drew ?_ | refine blk_alloc ?_ _)); exact BK323.out) k_ hk_.2.1), (IsS84.fresh (by repeat (first | (with_reducible first | exact HI239.out | apply IsS84.alloc | apply IsS84.drewN | apply IsS84.drew | apply IsS84.set_1 | refine IsS84.far ?_ NB239_323.out _) | exact HI239.out)) k_ hk_.2.1)⟩)) (below_size (by repeat (first | (with_reducible first | exact HB.out | apply below_alloc | apply pw_below_drewN | apply below_drew1 | refine below_set ?_ (IsS84.ge HI239.out) | refine below_set ?_ GE323.out) | exact HB.out)))); have n11_ := Aside0.mk (Kd.R_lower (Kd.R_new' (Kd.R_new' ho4 (Kd.R_lt (by (with_reducible repeat (first | apply Kd.R_alloc | apply Kd.R_drewN | apply Kd.R_drew)); exact (Kd.R_mono (Kd.R_far (p := ⟨gb323, 7, none⟩) (Kd.R_far (p := ⟨gb323, 6, none⟩) (Kd.R_far (p := ⟨gb323, 5, none⟩) (Kd.R_far (p := ⟨gb323, 4, none⟩) (Kd.R_far (p := ⟨gb323, 3, none⟩) (Kd.R_far (p := ⟨gb323, 2, none⟩) (Kd.R_far (p := ⟨gb323, 1, none⟩) (Kd.R_far (p := ⟨gb323, 0, none⟩) (Kd.R_types HO311.out BK323.out (by decide)) (fun _ hk => hk.2) (.int .i64 t304)) (fun _ hk => hk.2) (.int .i64 t305)) (fun _ hk => hk.2) (.slice Ao83 t306.length co83)) (fun _ hk => hk.2) (.slice Ao84 t309.length co84)) (fun _ hk => hk.2) (.slice Ao85 t312.length co85)) (fun _ hk => hk.2) (.slice Ao86 t315.length co86)) (fun _ hk => hk.2) (.slice Ao87 t318.length co87)) (fun _ hk => hk.2) (.bool t321)) (fun _ h_ => h_.1))))) (Kd.R_lt (by (with_reducible repeat (first | apply Kd.R_alloc | apply Kd.R_drewN | apply Kd.R_drew)); exact (Kd.R_mono (Kd.R_far (p := ⟨gb323, 7, none⟩) (Kd.R_far (p := ⟨gb323, 6, none⟩) (Kd.R_far (p := ⟨gb323, 5, none⟩) (Kd.R_far (p := ⟨gb323, 4, none⟩) (Kd.R_far (p := ⟨gb323, 3, none⟩) (Kd.R_far (p := ⟨gb323, 2, none⟩) (Kd.R_far (p := ⟨gb323, 1, none⟩) (Kd.R_far (p := ⟨gb323, 0, none⟩) (Kd.R_types HO320.out BK323.out (by decide)) (fun _ hk => hk.2) (.int .i64 t304)) (fun _ hk => hk.2) (.int .i64 t305)) (fun _ hk => hk.2) (.slice Ao83 t306.length co83)) (fun _ hk => hk.2) (.slice Ao84 t309.length co84)) (fun _ hk => hk.2) (.slice Ao85 t312.length co85)) (fun _ hk => hk.2) (.slice Ao86 t315.length co86)) (fun _ hk => hk.2) (.slice Ao87 t318.length co87)) (fun _ hk => hk.2) (.bool t321)) (fun _ h_ => h_.1))))) (below_size (by repeat (first | (with_reducible first | exact HB.out | apply below_alloc | apply pw_below_drewN | apply below_drew1 | refine below_set ?_ (IsS84.ge HI239.out) | refine below_set ?_ GE323.out) | exact HB.out)))); have n12_ := Aside0.mk (IsS84.below (show IsS84 w ((((((((w80.setCell ⟨gb323, 0, none⟩ (.int .i64 t304)).setCell ⟨gb323, 1, none⟩ (.int .i64 t305)).setCell ⟨gb323, 2, none⟩ (.slice Ao83 t306.length co83)).setCell ⟨gb323, 3, none⟩ (.slice Ao84 t309.length co84)).setCell ⟨gb323, 4, none⟩ (.slice Ao85 t312.length co85)).setCell ⟨gb323, 5, none⟩ (.slice Ao86 t315.length co86)).setCell ⟨gb323, 6, none⟩ (.slice Ao87 t318.length co87)).setCell ⟨gb323, 7, none⟩ (.bool t321)) g239 t237 x240001_2 from by repeat (first | (with_reducible first | exact HI239.out | apply IsS84.alloc | apply IsS84.drewN | apply IsS84.drew | apply IsS84.set_1 | refine IsS84.far ?_ NB239_323.out _) | exact HI239.out)) hb); have n13_ := Aside0.mk (blk_below (g := gb323) (o := .cells #[.int .i64 t304, .int .i64 t305, .slice Ao83 t306.length co83, .slice Ao84 t309.length co84, .slice Ao85 t312.length co85, .slice Ao86 t315.length co86, .slice Ao87 t318.length co87, .bool t321] 31 (0, 0)) (by (with_reducible repeat (first | refine blk_drewN ?_ _ | refine blk_drew ?_ | refine blk_alloc ?_ _)); refine blk_put (cs := #[.int .i64 t304, .int .i64 t305, .slice Ao83 t306.length co83, .slice Ao84 t309.length co84, .slice Ao85 t312.length co85, .slice Ao86 t315.length co86, .slice Ao87 t318.length co87, .bool false]) ?_ 7 _ rfl; (with_reducible repeat (first | refine blk_drewN ?_ _ | refine blk_drew ?_ | refine blk_alloc ?_ _)); refine blk_put (cs := #[.int .i64 t304, .int .i64 t305, .slice Ao83 t306.length co83, .slice Ao84 t309.length co84, .slice Ao85 t312.length co85, .slice Ao86 t315.length co86, .slice none 0 0, .bool false]) ?_ 6 _ rfl; (with_reducible repeat (first | refine blk_drewN ?_ _ | refine blk_drew ?_ | refine blk_alloc ?_ _)); refine blk_put (cs := #[.int .i64 t304, .int .i64 t305, .slice Ao83 t306.length co83, .slice Ao84 t309.length co84, .slice Ao85 t312.length co85, .slice none 0 0, .slice none 0 0, .bool false]) ?_ 5 _ rfl; (with_reducible repeat (first | refine blk_drewN ?_ _ | refine blk_drew ?_ | refine blk_alloc ?_ _)); refine blk_put (cs := #[.int .i64 t304, .int .i64 t305, .slice Ao83 t306.length co83, .slice Ao84 t309.length co84, .slice none 0 0, .slice none 0 0, .slice none 0 0, .bool false]) ?_ 4 _ rfl; (with_reducible repeat (first | refine blk_drewN ?_ _ | refine blk_drew ?_ | refine blk_alloc ?_ _)); refine blk_put (cs := #[.int .i64 t304, .int .i64 t305, .slice Ao83 t306.length co83, .slice none 0 0, .slice none 0 0, .slice none 0 0, .slice none 0 0, .bool false]) ?_ 3 _ rfl; (with_reducible repeat (first | refine blk_drewN ?_ _ | refine blk_drew ?_ | refine blk_alloc ?_ _)); refine blk_put (cs := #[.int .i64 t304, .int .i64 t305, .slice none 0 0, .slice none 0 0, .slice none 0 0, .slice none 0 0, .slice none 0 0, .bool false]) ?_ 2 _ rfl; (with_reducible repeat (first | refine blk_drewN ?_ _ | refine blk_drew ?_ | refine blk_alloc ?_ _)); refine blk_put (cs := #[.int .i64 t304, .int .i64 0, .slice none 0 0, .slice none 0 0, .slice none 0 0, .slice none 0 0, .slice none 0 0, .bool false]) ?_ 1 _ rfl; (with_reducible repeat (first | refine blk_drewN ?_ _ | refine blk_drew ?_ | refine blk_alloc ?_ _)); refine blk_put (cs := #[.int .i64 0, .int .i64 0, .slice none 0 0, .slice none 0 0, .slice none 0 0, .slice none 0 0, .slice none 0 0, .bool false]) ?_ 0 _ rfl; (with_reducible repeat (first | refine blk_drewN ?_ _ | refine blk_drew ?_ | refine blk_alloc ?_ _)); exact BK323.out) hb); have n14_ := Aside0.mk (below_step (by repeat (first | (with_reducible first | exact HB.out | apply below_alloc | apply pw_below_drewN | apply below_drew1 | refine below_set ?_ (IsS84.ge HI239.out) | refine below_set ?_ GE323.out) | exact HB.out)) hb); clear HO_7 HO_8 HO308 HO311 HO314 HO317 HO320 HI239 BK323 HB; have HO_7 := n0_; have HO_8 := n1_; have HO308 := n2_; have HO311 := n3_; have HO314 := n4_; have HO317 := n5_; have HO320 := n6_; have HO328 := n7_; have HO331 := n8_; have HO334 := n9_; have HO337 := n10_; have HO340 := n11_; have HI239 := n12_; have BK323 := n13_; have HB := n14_; clear n0_ n1_ n2_ n3_ n4_ n5_ n6_ n7_ n8_ n9_ n10_ n11_ n12_ n13_ n14_; (try clear hb); (try clear hb2); (try clear hk); (try clear hi); (try clear ho0); (try clear ho1); (try clear ho2); (try clear ho3); (try clear ho4)) | ((with_reducible refine gate_dst (N := 15) rfl ?_); (try (refine gate_guard (by rfl) ?_; dsimp only)); refine box_event ?hg (N := 15) ?hd (cs := #[.int .i64 0, .int .i64 0, .slice none 0 0, .slice none 0 0, .slice none 0 0, .slice none 0 0, .slice none 0 0, .bool false]) (t := 31) ?hr ?_; (case hd => rfl); (case hg => rfl); (case hr => first | (go_simp; done) | (go_simp; rfl)); intro gb343 hg w90 hbox hb; have n0_ := Aside0.mk (Kd.N_below (Kd.N_elderB (kN_ HO_7.out) gb343 (Nat.le_of_eq hg.symm)) hb); have n1_ := Aside0.mk (Kd.N_below (Kd.N_elderB (kN_ HO_8.out) gb343 (Nat.le_of_eq hg.symm)) hb); have n2_ := Aside0.mk (Kd.R_below (kR_ HO308.out) hb); have n3_ := Aside0.mk (Kd.R_below (kR_ HO311.out) hb); have n4_ := Aside0.mk (Kd.N_below (Kd.N_elderB (kN_ HO314.out) gb343 (Nat.le_of_eq hg.symm)) hb); have n5_ := Aside0.mk (Kd.N_below (Kd.N_elderB (kN_ HO317.out) gb343 (Nat.le_of_eq hg.symm)) hb); have n6_ := Aside0.mk (Kd.R_below (kR_ HO320.out) hb); have n7_ := Aside0.mk (Kd.R_below (kR_ HO328.out) hb); have n8_ := Aside0.mk (Kd.R_below (kR_ HO331.out) hb); have n9_ := Aside0.mk (Kd.N_below (Kd.N_elderB (kN_ HO334.out) gb343 (Nat.le_of_eq hg.symm)) hb); have n10_ := Aside0.mk (Kd.N_below (Kd.N_elderB (kN_ HO337.out) gb343 (Nat.le_of_eq hg.symm)) hb); have n11_ := Aside0.mk (Kd.R_below (kR_ HO340.out) hb); have n12_ := Aside0.mk (IsS84.below (by repeat (first | (with_reducible first | exact HI239.out | apply IsS84.alloc | apply IsS84.drewN | apply IsS84.drew | apply IsS84.set_1 | refine IsS84.far ?_ NB239_323.out _) | exact HI239.out)) hb); have n13_ := Aside0.mk (blk_below (g := gb323) (o := .cells #[.int .i64 t304, .int .i64 t305, .slice Ao83 t306.length co83, .slice Ao84 t309.length co84, .slice Ao85 t312.length co85, .slice Ao86 t315.length co86, .slice Ao87 t318.length co87, .bool t321] 31 (0, 0)) (bk_ BK323.out) hb); have n14_ := Aside0.mk (below_step (by repeat (first | (with_reducible first | exact HB.out | apply below_alloc | apply pw_below_drewN | apply below_drew1 | refine below_set ?_ (IsS84.ge HI239.out) | refine below_set ?_ GE323.out) | exact HB.out)) hb); have n15_ := Aside0.mk (hbox); have n16_ := Aside0.mk ((by rw [hg]; exact (below_size (by repeat (first | (with_reducible first | exact HB.out | apply below_alloc | apply pw_below_drewN | apply below_drew1 | refine below_set ?_ (IsS84.ge HI239.out) | refine below_set ?_ GE323.out) | exact HB.out))) : w.heap.size ≤ gb343)); have n17_ := Aside0.mk ((by rw [hg]; exact (below_size (by repeat (first | (with_reducible first | exact HB.out | apply below_alloc | apply pw_below_drewN | apply below_drew1 | refine below_set ?_ (IsS84.ge HI239.out) | refine below_set ?_ GE323.out) | exact HB.out))) : w.heap.size ≤ gb343)); have n18_ := Aside0.mk ((by rw [hg]; exact Nat.ne_of_lt (blk_lt (g := gb323) (o := .cells #[.int .i64 t304, .int .i64 t305, .slice Ao83 t306.length co83, .slice Ao84 t309.length co84, .slice Ao85 t312.length co85, .slice Ao86 t315.length co86, .slice Ao87 t318.length co87, .bool t321] 31 (0, 0)) (bk_ BK323.out)) : gb323 ≠ gb343)); have n19_ := Aside0.mk ((by rw [hg]; exact Nat.ne_of_gt (blk_lt (g := gb323) (o := .cells #[.int .i64 t304, .int .i64 t305, .slice Ao83 t306.length co83, .slice Ao84 t309.length co84, .slice Ao85 t312.length co85, .slice Ao86 t315.length co86, .slice Ao87 t318.length co87, .bool t321] 31 (0, 0)) (bk_ BK323.out)) : gb343 ≠ gb323)); have n20_ := Aside0.mk ((by rw [hg]; exact Nat.ne_of_lt (IsS84.lt (show IsS84 w _ g239 t237 x240001_2 from by repeat (first | (with_reducible first | exact HI239.out | apply IsS84.alloc | apply IsS84.drewN | apply IsS84.drew | apply IsS84.set_1 | refine IsS84.far ?_ NB239_323.out _) | exact HI239.out))) : g239 ≠ gb343)); have n21_ := Aside0.mk ((by rw [hg]; exact Nat.ne_of_gt (IsS84.lt (show IsS84 w _ g239 t237 x240001_2 from by repeat (first | (with_reducible first | exact HI239.out | apply IsS84.alloc | apply IsS84.drewN | apply IsS84.drew | apply IsS84.set_1 | refine IsS84.far ?_ NB239_323.out _) | exact HI239.out))) : gb343 ≠ g239)); clear HO_7 HO_8 HO308 HO311 HO314 HO317 HO320 HO328 HO331 HO334 HO337 HO340 HI239 BK323 HB; have HO_7 := n0_; have HO_8 := n1_; have HO308 := n2_; have HO311 := n3_; have HO314 := n4_; have HO317 := n5_; have HO320 := n6_; have HO328 := n7_; have HO331 := n8_; have HO334 := n9_; have HO337 := n10_; have HO340 := n11_; have HI239 := n12_; have BK323 := n13_; have HB := n14_; have BK343 := n15_; have GW343 := n16_; have GE343 := n17_; have NB323_343 := n18_; have NB343_323 := n19_; have NB239_343 := n20_; have NB343_239 := n21_; clear n0_ n1_ n2_ n3_ n4_ n5_ n6_ n7_ n8_ n9_ n10_ n11_ n12_ n13_ n14_ n15_ n16_ n17_ n18_ n19_ n20_ n21_ hb hbox hg; have hnb91 := NB343_323.out; have hnc91 := NB323_343.out; have hnb92 := NB343_239.out; have hnc92 := NB239_343.out; have hcz93_0 : w90.cell? ⟨gb343, 0, none⟩ = some (.int .i64 0) := (blk_cell BK343.out 0).trans rfl; have hcz93_1 : w90.cell? ⟨gb343, 1, none⟩ = some (.int .i64 0) := (blk_cell BK343.out 1).trans rfl; have hcz93_2 : w90.cell? ⟨gb343, 2, none⟩ = some (.slice none 0 0) := (blk_cell BK343.out 2).trans rfl; have hcz93_3 : w90.cell? ⟨gb343, 3, none⟩ = some (.slice none 0 0) := (blk_cell BK343.out 3).trans rfl; have hcz93_4 : w90.cell? ⟨gb343, 4, none⟩ = some (.slice none 0 0) := (blk_cell BK343.out 4).trans rfl; have hcz93_5 : w90.cell? ⟨gb343, 5, none⟩ = some (.slice none 0 0) := (blk_cell BK343.out 5).trans rfl; have hcz93_6 : w90.cell? ⟨gb343, 6, none⟩ = some (.slice none 0 0) := (blk_cell BK343.out 6).trans rfl; have hcz93_7 : w90.cell? ⟨gb343, 7, none⟩ = some (.bool false) := (blk_cell BK343.out 7).trans rfl; have hfz93_0 := blk_frozen BK343.out 0; have hfz93_1 := blk_frozen BK343.out 1; have hfz93_2 := blk_frozen BK343.out 2; have hfz93_3 := blk_frozen BK343.out 3; have hfz93_4 := blk_frozen BK343.out 4; have hfz93_5 := blk_frozen BK343.out 5; have hfz93_6 := blk_frozen BK343.out 6; have hfz93_7 := blk_frozen BK343.out 7; obtain ⟨Ao94, co94, eo94⟩ := Kd.R_slice HO328.out; subst eo94; obtain ⟨Ao95, co95, eo95⟩ := Kd.R_slice HO331.out; subst eo95; obtain ⟨Ao96, co96, eo96⟩ := Kd.N_slice HO334.out; subst eo96; obtain ⟨Ao97, co97, eo97⟩ := Kd.N_slice HO337.out; subst eo97; obtain ⟨Ao98, co98, eo98⟩ := Kd.R_slice HO340.out; subst eo98; have hcz99_0 : w90.cell? ⟨gb323, 0, none⟩ = some (.int .i64 t304) := (blk_cell BK323.out 0).trans rfl; have hcz99_1 : w90.cell? ⟨gb323, 1, none⟩ = some (.int .i64 t305) := (blk_cell BK323.out 1).trans rfl; have hcz99_2 : w90.cell? ⟨gb323, 2, none⟩ = some (.slice Ao83 t306.length co83) := (blk_cell BK323.out 2).trans rfl; have hcz99_3 : w90.cell? ⟨gb323, 3, none⟩ = some (.slice Ao84 t309.length co84) := (blk_cell BK323.out 3).trans rfl; have hcz99_4 : w90.cell? ⟨gb323, 4, none⟩ = some (.slice Ao85 t312.length co85) := (blk_cell BK323.out 4).trans rfl; have hcz99_5 : w90.cell? ⟨gb323, 5, none⟩ = some (.slice Ao86 t315.length co86) := (blk_cell BK323.out 5).trans rfl; have hcz99_6 : w90.cell? ⟨gb323, 6, none⟩ = some (.slice Ao87 t318.length co87) := (blk_cell BK323.out 6).trans rfl; have hcz99_7 : w90.cell? ⟨gb323, 7, none⟩ = some (.bool t321) := (blk_cell BK323.out 7).trans rfl; have hfz99_0 := blk_frozen BK323.out 0; have hfz99_1 := blk_frozen BK323.out 1; have hfz99_2 := blk_frozen BK323.out 2; have hfz99_3 := blk_frozen BK323.out 3; have hfz99_4 := blk_frozen BK323.out 4; have hfz99_5 := blk_frozen BK323.out 5; have hfz99_6 := blk_frozen BK323.out 6; have hfz99_7 := blk_frozen BK323.out 7) | (go_at_call 19; (with_reducible refine (Awake16.calls  t344 _ A77.out).mono ?_); rintro e w100 ⟨rfl, hb⟩; have n0_ := Aside0.mk (Kd.N_below (by (with_reducible repeat (first | apply Kd.N_alloc | apply Kd.N_drewN | apply Kd.N_drew)); exact (Kd.N_mono (Kd.N_far (p := ⟨gb343, 7, none⟩) (Kd.N_far (p := ⟨gb343, 6, none⟩) (Kd.N_far (p := ⟨gb343, 5, none⟩) (Kd.N_far (p := ⟨gb343, 4, none⟩) (Kd.N_far (p := ⟨gb343, 3, none⟩) (Kd.N_far (p := ⟨gb343, 2, none⟩) (Kd.N_far (p := ⟨gb343, 1, none⟩) (Kd.N_far (p := ⟨gb343, 0, none⟩) (Kd.N_mono HO_7.out (fun k_ hk => (⟨hk, hk.2⟩ : _ ∧ k_ ≠ gb343))) (fun _ hk => hk.2) (.int .i64 t324)) (fun _ hk => hk.2) (.int .i64 t325)) (fun _ hk => hk.2) (.slice Ao94 t326.length co94)) (fun _ hk => hk.2) (.slice Ao95 t329.length co95)) (fun _ hk => hk.2) (.slice Ao96 t332.length co96)) (fun _ hk => hk.2) (.slice Ao97 t335.length co97)) (fun _ hk => hk.2) (.slice Ao98 t338.length co98)) (fun _ hk => hk.2) (.bool t341)) (fun _ h_ => h_.1))) hb); have n1_ := Aside0.mk (Kd.N_below (by (with_reducible repeat (first | apply Kd.N_alloc | apply Kd.N_drewN | apply Kd.N_drew)); exact (Kd.N_mono (Kd.N_far (p := ⟨gb343, 7, none⟩) (Kd.N_far (p := ⟨gb343, 6, none⟩) (Kd.N_far (p := ⟨gb343, 5, none⟩) (Kd.N_far (p := ⟨gb343, 4, none⟩) (Kd.N_far (p := ⟨gb343, 3, none⟩) (Kd.N_far (p := ⟨gb343, 2, none⟩) (Kd.N_far (p := ⟨gb343, 1, none⟩) (Kd.N_far (p := ⟨gb343, 0, none⟩) (Kd.N_mono HO_8.out (fun k_ hk => (⟨hk, hk.2⟩ : _ ∧ k_ ≠ gb343))) (fun _ hk => hk.2) (.int .i64 t324)) (fun _ hk => hk.2) (.int .i64 t325)) (fun _ hk => hk.2) (.slice Ao94 t326.length co94)) (fun _ hk => hk.2) (.slice Ao95 t329.length co95)) (fun _ hk => hk.2) (.slice Ao96 t332.length co96)) (fun _ hk => hk.2) (.slice Ao97 t335.length co97)) (fun _ hk => hk.2) (.slice Ao98 t338.length co98)) (fun _ hk => hk.2) (.bool t341)) (fun _ h_ => h_.1))) hb); have n2_ := Aside0.mk (Kd.R_below (by (with_reducible repeat (first | apply Kd.R_alloc | apply Kd.R_drewN | apply Kd.R_drew)); exact (Kd.R_mono (Kd.R_far (p := ⟨gb343, 7, none⟩) (Kd.R_far (p := ⟨gb343, 6, none⟩) (Kd.R_far (p := ⟨gb343, 5, none⟩) (Kd.R_far (p := ⟨gb343, 4, none⟩) (Kd.R_far (p := ⟨gb343, 3, none⟩) (Kd.R_far (p := ⟨gb343, 2, none⟩) (Kd.R_far (p := ⟨gb343, 1, none⟩) (Kd.R_far (p := ⟨gb343, 0, none⟩) (Kd.R_types HO308.out BK343.out (by decide)) (fun _ hk => hk.2) (.int .i64 t324)) (fun _ hk => hk.2) (.int .i64 t325)) (fun _ hk => hk.2) (.slice Ao94 t326.length co94)) (fun _ hk => hk.2) (.slice Ao95 t329.length co95)) (fun _ hk => hk.2) (.slice Ao96 t332.length co96)) (fun _ hk => hk.2) (.slice Ao97 t335.length co97)) (fun _ hk => hk.2) (.slice Ao98 t338.length co98)) (fun _ hk => hk.2) (.bool t341)) (fun _ h_ => h_.1))) hb); have n3_ := Aside0.mk (Kd.R_below (by (with_reducible repeat (first | apply Kd.R_alloc | apply Kd.R_drewN | apply Kd.R_drew)); exact (Kd.R_mono (Kd.R_far (p := ⟨gb343, 7, none⟩) (Kd.R_far (p := ⟨gb343, 6, none⟩) (Kd.R_far (p := ⟨gb343, 5, none⟩) (Kd.R_far (p := ⟨gb343, 4, none⟩) (Kd.R_far (p := ⟨gb343, 3, none⟩) (Kd.R_far (p := ⟨gb343, 2, none⟩) (Kd.R_far (p := ⟨gb343, 1, none⟩) (Kd.R_far (p := ⟨gb343, 0, none⟩) (Kd.R_types HO311.out BK343.out (by decide)) (fun _ hk => hk.2) (.int .i64 t324)) (fun _ hk => hk.2) (.int .i64 t325)) (fun _ hk => hk.2) (.slice Ao94 t326.length co94)) (fun _ hk => hk.2) (.slice Ao95 t329.length co95)) (fun _ hk => hk.2) (.slice Ao96 t332.length co96)) (fun _ hk => hk.2) (.slice Ao97 t335.length co97)) (fun _ hk => hk.2) (.slice Ao98 t338.length co98)) (fun _ hk => hk.2) (.bool t341)) (fun _ h_ => h_.1))) hb); have n4_ := Aside0.mk (Kd.N_below (by (with_reducible repeat (first | apply Kd.N_alloc | apply Kd.N_drewN | apply Kd.N_drew)); exact (Kd.N_mono (Kd.N_far (p := ⟨gb343, 7, none⟩) (Kd.N_far (p := ⟨gb343, 6, none⟩) (Kd.N_far (p := ⟨gb343, 5, none⟩) (Kd.N_far (p := ⟨gb343, 4, none⟩) (Kd.N_far (p := ⟨gb343, 3, none⟩) (Kd.N_far (p := ⟨gb343, 2, none⟩) (Kd.N_far (p := ⟨gb343, 1, none⟩) (Kd.N_far (p := ⟨gb343, 0, none⟩) (Kd.N_mono HO314.out (fun k_ hk => (⟨hk, hk.2⟩ : _ ∧ k_ ≠ gb343))) (fun _ hk => hk.2) (.int .i64 t324)) (fun _ hk => hk.2) (.int .i64 t325)) (fun _ hk => hk.2) (.slice Ao94 t326.length co94)) (fun _ hk => hk.2) (.slice Ao95 t329.length co95)) (fun _ hk => hk.2) (.slice Ao96 t332.length co96)) (fun _ hk => hk.2) (.slice Ao97 t335.length co97)) (fun _ hk => hk.2) (.slice Ao98 t338.length co98)) (fun _ hk => hk.2) (.bool t341)) (fun _ h_ => h_.1))) hb); have n5_ := Aside0.mk (Kd.N_below (by (with_reducible repeat (first | apply Kd.N_alloc | apply Kd.N_drewN | apply Kd.N_drew)); exact (Kd.N_mono (Kd.N_far (p := ⟨gb343, 7, none⟩) (Kd.N_far (p := ⟨gb343, 6, none⟩) (Kd.N_far (p := ⟨gb343, 5, none⟩) (Kd.N_far (p := ⟨gb343, 4, none⟩) (Kd.N_far (p := ⟨gb343, 3, none⟩) (Kd.N_far (p := ⟨gb343, 2, none⟩) (Kd.N_far (p := ⟨gb343, 1, none⟩) (Kd.N_far (p := ⟨gb343, 0, none⟩) (Kd.N_mono HO317.out (fun k_ hk => (⟨hk, hk.2⟩ : _ ∧ k_ ≠ gb343))) (fun _ hk => hk.2) (.int .i64 t324)) (fun _ hk => hk.2) (.int .i64 t325)) (fun _ hk => hk.2) (.slice Ao94 t326.length co94)) (fun _ hk => hk.2) (.slice Ao95 t329.length co95)) (fun _ hk => hk.2) (.slice Ao96 t332.length co96)) (fun _ hk => hk.2) (.slice Ao97 t335.length co97)) (fun _ hk => hk.2) (.slice Ao98 t338.length co98)) (fun _ hk => hk.2) (.bool t341)) (fun _ h_ => h_.1))) hb); have n6_ := Aside0.mk (Kd.R_below (by (with_reducible repeat (first | apply Kd.R_alloc | apply Kd.R_drewN | apply Kd.R_drew)); exact (Kd.R_mono (Kd.R_far (p := ⟨gb343, 7, none⟩) (Kd.R_far (p := ⟨gb343, 6, none⟩) (Kd.R_far (p := ⟨gb343, 5, none⟩) (Kd.R_far (p := ⟨gb343, 4, none⟩) (Kd.R_far (p := ⟨gb343, 3, none⟩) (Kd.R_far (p := ⟨gb343, 2, none⟩) (Kd.R_far (p := ⟨gb343, 1, none⟩) (Kd.R_far (p := ⟨gb343, 0, none⟩) (Kd.R_types HO320.out BK343.out (by decide)) (fun _ hk => hk.2) (.int .i64 t324)) (fun _ hk => hk.2) (.int .i64 t325)) (fun _ hk => hk.2) (.slice Ao94 t326.length co94)) (fun _ hk => hk.2) (.slice Ao95 t329.length co95)) (fun _ hk => hk.2) (.slice Ao96 t332.length co96)) (fun _ hk => hk.2) (.slice Ao97 t335.length co97)) (fun _ hk => hk.2) (.slice Ao98 t338.length co98)) (fun _ hk => hk.2) (.bool t341)) (fun _ h_ => h_.1))) hb); have n7_ := Aside0.mk (Kd.R_below (by (with_reducible repeat (first | apply Kd.R_alloc | apply Kd.R_drewN | apply Kd.R_drew)); exact (Kd.R_mono (Kd.R_far (p := ⟨gb343, 7, none⟩) (Kd.R_far (p := ⟨gb343, 6, none⟩) (Kd.R_far (p := ⟨gb343, 5, none⟩) (Kd.R_far (p := ⟨gb343, 4, none⟩) (Kd.R_far (p := ⟨gb343, 3, none⟩) (Kd.R_far (p := ⟨gb343, 2, none⟩) (Kd.R_far (p := ⟨gb343, 1, none⟩) (Kd.R_far (p := ⟨gb343, 0, none⟩) (Kd.R_types HO328.out BK343.out (by decide)) (fun _ hk => hk.2) (.int .i64 t324)) (fun _ hk => hk.2) (.int .i64 t325)) (fun _ hk => hk.2) (.slice Ao94 t326.length co94)) (fun _ hk => hk.2) (.slice Ao95 t329.length co95)) (fun _ hk => hk.2) (.slice Ao96 t332.length co96)) (fun _ hk => hk.2) (.slice Ao97 t335.length co97)) (fun _ hk => hk.2) (.slice Ao98 t338.length co98)) (fun _ hk => hk.2) (.bool t341)) (fun _ h_ => h_.1))) hb); have n8_ := Aside0.mk (Kd.R_below (by (with_reducible repeat (first | apply Kd.R_alloc | apply Kd.R_drewN | apply Kd.R_drew)); exact (Kd.R_mono (Kd.R_far (p := ⟨gb343, 7, none⟩) (Kd.R_far (p := ⟨gb343, 6, none⟩) (Kd.R_far (p := ⟨gb343, 5, none⟩) (Kd.R_far (p := ⟨gb343, 4, none⟩) (Kd.R_far (p := ⟨gb343, 3, none⟩) (Kd.R_far (p := ⟨gb343, 2, none⟩) (Kd.R_far (p := ⟨gb343, 1, none⟩) (Kd.R_far (p := ⟨gb343, 0, none⟩) (Kd.R_types HO331.out BK343.out (by decide)) (fun _ hk => hk.2) (.int .i64 t324)) (fun _ hk => hk.2) (.int .i64 t325)) (fun _ hk => hk.2) (.slice Ao94 t326.length co94)) (fun _ hk => hk.2) (.slice Ao95 t329.length co95)) (fun _ hk => hk.2) (.slice Ao96 t332.length co96)) (fun _ hk => hk.2) (.slice Ao97 t335.length co97)) (fun _ hk => hk.2) (.slice Ao98 t338.length co98)) (fun _ hk => hk.2) (.bool t341)) (fun _ h_ => h_.1))) hb); have n9_ := Aside0.mk (Kd.N_below (by (with_reducible repeat (first | apply Kd.N_alloc | apply Kd.N_drewN | apply Kd.N_drew)); exact (Kd.N_mono (Kd.N_far (p := ⟨gb343, 7, none⟩) (Kd.N_far (p := ⟨gb343, 6, none⟩) (Kd.N_far (p := ⟨gb343, 5, none⟩) (Kd.N_far (p := ⟨gb343, 4, none⟩) (Kd.N_far (p := ⟨gb343, 3, none⟩) (Kd.N_far (p := ⟨gb343, 2, none⟩) (Kd.N_far (p := ⟨gb343, 1, none⟩) (Kd.N_far (p := ⟨gb343, 0, none⟩) (Kd.N_mono HO334.out (fun k_ hk => (⟨hk, hk.2⟩ : _ ∧ k_ ≠ gb343))) (fun _ hk => hk.2) (.int .i64 t324)) (fun _ hk => hk.2) (.int .i64 t325)) (fun _ hk => hk.2) (.slice Ao94 t326.length co94)) (fun _ hk => hk.2) (.slice Ao95 t329.length co95)) (fun _ hk => hk.2) (.slice Ao96 t332.length co96)) (fun _ hk => hk.2) (.slice Ao97 t335.length co97)) (fun _ hk => hk.2) (.slice Ao98 t338.length co98)) (fun _ hk => hk.2) (.bool t341)) (fun _ h_ => h_.1))) hb); have n10_ := Aside0.mk (Kd.N_below (by (with_reducible repeat (first | apply Kd.N_alloc | apply Kd.N_drewN | apply Kd.N_drew)); exact (Kd.N_mono (Kd.N_far (p := ⟨gb343, 7, none⟩) (Kd.N_far (p := ⟨gb343, 6, none⟩) (Kd.N_far (p := ⟨gb343, 5, none⟩) (Kd.N_far (p := ⟨gb343, 4, none⟩) (Kd.N_far (p := ⟨gb343, 3, none⟩) (Kd.N_far (p := ⟨gb343, 2, none⟩) (Kd.N_far (p := ⟨gb343, 1, none⟩) (Kd.N_far (p := ⟨gb343, 0, none⟩) (Kd.N_mono HO337.out (fun k_ hk => (⟨hk, hk.2⟩ : _ ∧ k_ ≠ gb343))) (fun _ hk => hk.2) (.int .i64 t324)) (fun _ hk => hk.2) (.int .i64 t325)) (fun _ hk => hk.2) (.slice Ao94 t326.length co94)) (fun _ hk => hk.2) (.slice Ao95 t329.length co95)) (fun _ hk => hk.2) (.slice Ao96 t332.length co96)) (fun _ hk => hk.2) (.slice Ao97 t335.length co97)) (fun _ hk => hk.2) (.slice Ao98 t338.length co98)) (fun _ hk => hk.2) (.bool t341)) (fun _ h_ => h_.1))) hb); have n11_ := Aside0.mk (Kd.R_below (by (with_reducible repeat (first | apply Kd.R_alloc | apply Kd.R_drewN | apply Kd.R_drew)); exact (Kd.R_mono (Kd.R_far (p := ⟨gb343, 7, none⟩) (Kd.R_far (p := ⟨gb343, 6, none⟩) (Kd.R_far (p := ⟨gb343, 5, none⟩) (Kd.R_far (p := ⟨gb343, 4, none⟩) (Kd.R_far (p := ⟨gb343, 3, none⟩) (Kd.R_far (p := ⟨gb343, 2, none⟩) (Kd.R_far (p := ⟨gb343, 1, none⟩) (Kd.R_far (p := ⟨gb343, 0, none⟩) (Kd.R_types HO340.out BK343.out (by decide)) (fun _ hk => hk.2) (.int .i64 t324)) (fun _ hk => hk.2) (.int .i64 t325)) (fun _ hk => hk.2) (.slice Ao94 t326.length co94)) (fun _ hk => hk.2) (.slice Ao95 t329.length co95)) (fun _ hk => hk.2) (.slice Ao96 t332.length co96)) (fun _ hk => hk.2) (.slice Ao97 t335.length co97)) (fun _ hk => hk.2) (.slice Ao98 t338.length co98)) (fun _ hk => hk.2) (.bool t341)) (fun _ h_ => h_.1))) hb); have n12_ := Aside0.mk (IsS84.below (show IsS84 w ((((((((w90.setCell ⟨gb343, 0, none⟩ (.int .i64 t324)).setCell ⟨gb343, 1, none⟩ (.int .i64 t325)).setCell ⟨gb343, 2, none⟩ (.slice Ao94 t326.length co94)).setCell ⟨gb343, 3, none⟩ (.slice Ao95 t329.length co95)).setCell ⟨gb343, 4, none⟩ (.slice Ao96 t332.length co96)).setCell ⟨gb343, 5, none⟩ (.slice Ao97 t335.length co97)).setCell ⟨gb343, 6, none⟩ (.slice Ao98 t338.length co98)).setCell ⟨gb343, 7, none⟩ (.bool t341)) g239 t237 x240001_2 from by repeat (first | (with_reducible first | exact HI239.out | apply IsS84.alloc | apply IsS84.drewN | apply IsS84.drew | apply IsS84.set_1 | refine IsS84.far ?_ NB239_323.out _ | refine IsS84.far ?_ NB239_343.out _) | exact HI239.out)) hb); have n13_ := Aside0.mk (blk_below (g := gb323) (o := .cells #[.int .i64 t304, .int .i64 t305, .slice Ao83 t306.length co83, .slice Ao84 t309.length co84, .slice Ao85 t312.length co85, .slice Ao86 t315.length co86, .slice Ao87 t318.length co87, .bool t321] 31 (0, 0)) (bf1_ BK323.out NB323_343.out) hb); have n14_ := Aside0.mk (blk_below (g := gb343) (o := .cells #[.int .i64 t324, .int .i64 t325, .slice Ao94 t326.length co94, .slice Ao95 t329.length co95, .slice Ao96 t332.length co96, .slice Ao97 t335.length co97, .slice Ao98 t338.length co98, .bool t341] 31 (0, 0)) (by (with_reducible repeat (first | refine blk_drewN ?_ _ | refine blk_drew ?_ | refine blk_alloc ?_ _)); refine blk_put (cs := #[.int .i64 t324, .int .i64 t325, .slice Ao94 t326.length co94, .slice Ao95 t329.length co95, .slice Ao96 t332.length co96, .slice Ao97 t335.length co97, .slice Ao98 t338.length co98, .bool false]) ?_ 7 _ rfl; (with_reducible repeat (first | refine blk_drewN ?_ _ | refine blk_drew ?_ | refine blk_alloc ?_ _)); refine blk_put (cs := #[.int .i64 t324, .int .i64 t325, .slice Ao94 t326.length co94, .slice Ao95 t329.length co95, .slice Ao96 t332.length co96, .slice Ao97 t335.length co97, .slice none 0 0, .bool false]) ?_ 6 _ rfl; (with_reducible repeat (first | refine blk_drewN ?_ _ | refine blk_drew ?_ | refine blk_alloc ?_ _)); refine blk_put (cs := #[.int .i64 t324, .int .i64 t325, .slice Ao94 t326.length co94, .slice Ao95 t329.length co95, .slice Ao96 t332.length co96, .slice none 0 0, .slice none 0 0, .bool false]) ?_ 5 _ rfl; (with_reducible repeat (first | refine blk_drewN ?_ _ | refine blk_drew ?_ | refine blk_alloc ?_ _)); refine blk_put (cs := #[.int .i64 t324, .int .i64 t325, .slice Ao94 t326.length co94, .slice Ao95 t329.length co95, .slice none 0 0, .slice none 0 0, .slice none 0 0, .bool false]) ?_ 4 _ rfl; (with_reducible repeat (first | refine blk_drewN ?_ _ | refine blk_drew ?_ | refine blk_alloc ?_ _)); refine blk_put (cs := #[.int .i64 t324, .int .i64 t325, .slice Ao94 t326.length co94, .slice none 0 0, .slice none 0 0, .slice none 0 0, .slice none 0 0, .bool false]) ?_ 3 _ rfl; (with_reducible repeat (first | refine blk_drewN ?_ _ | refine blk_drew ?_ | refine blk_alloc ?_ _)); refine blk_put (cs := #[.int .i64 t324, .int .i64 t325, .slice none 0 0, .slice none 0 0, .slice none 0 0, .slice none 0 0, .slice none 0 0, .bool false]) ?_ 2 _ rfl; (with_reducible repeat (first | refine blk_drewN ?_ _ | refine blk_drew ?_ | refine blk_alloc ?_ _)); refine blk_put (cs := #[.int .i64 t324, .int .i64 0, .slice none 0 0, .slice none 0 0, .slice none 0 0, .slice none 0 0, .slice none 0 0, .bool false]) ?_ 1 _ rfl; (with_reducible repeat (first | refine blk_drewN ?_ _ | refine blk_drew ?_ | refine blk_alloc ?_ _)); refine blk_put (cs := #[.int .i64 0, .int .i64 0, .slice none 0 0, .slice none 0 0, .slice none 0 0, .slice none 0 0, .slice none 0 0, .bool false]) ?_ 0 _ rfl; (with_reducible repeat (first | refine blk_drewN ?_ _ | refine blk_drew ?_ | refine blk_alloc ?_ _)); exact BK343.out) hb); have n15_ := Aside0.mk (below_step (by repeat (first | (with_reducible first | exact HB.out | apply below_alloc | apply pw_below_drewN | apply below_drew1 | refine below_set ?_ (IsS84.ge HI239.out) | refine below_set ?_ GE323.out | refine below_set ?_ GE343.out) | exact HB.out)) hb); clear HO_7 HO_8 HO308 HO311 HO314 HO317 HO320 HO328 HO331 HO334 HO337 HO340 HI239 BK323 BK343 HB; have HO_7 := n0_; have HO_8 := n1_; have HO308 := n2_; have HO311 := n3_; have HO314 := n4_; have HO317 := n5_; have HO320 := n6_; have HO328 := n7_; have HO331 := n8_; have HO334 := n9_; have HO337 := n10_; have HO340 := n11_; have HI239 := n12_; have BK323 := n13_; have BK343 := n14_; have HB := n15_; clear n0_ n1_ n2_ n3_ n4_ n5_ n6_ n7_ n8_ n9_ n10_ n11_ n12_ n13_ n14_ n15_; (try clear hb); (try clear hb2); (try clear hk); (try clear hi)))
       go_ret
       exact ⟨by first | rfl | (simp [errW_none, errW_some] <;> rfl) | (simp [*, errW_none, errW_some] <;> rfl), by repeat (first | (with_reducible first | exact HB.out | apply below_alloc | apply pw_below_drewN | apply below_drew1 | refine below_set ?_ (IsS84.ge HI239.out) | refine below_set ?_ GE323.out | refine below_set ?_ GE343.out) | exact HB.out)⟩
 ·
  replace c3 := Bool.eq_false_iff.mpr c3
  subst c3
  have H1 : ((Awake16.f).bind fun t236 => (some t236)) = some r := by rw [if_neg (show ¬ (false = true) by decide)] at H; exact H
  clear H
  have H := H1
  clear H1
  replace H := Option.bind_eq_some_iff.mp H
  obtain ⟨t236, A1010, H⟩ := H
  replace H : (some t236) = some r := H
  have A101 := Aside0.mk A1010
  clear A1010
  obtain rfl := Option.some.inj H
  go_enter Try.func5, Try.ntmps5
  go_wp2_with (first | ((with_reducible refine gate_callee (f := 18) rfl ?_); refine goesL_ (some 18) rfl rfl Try.func18 (by kernel_rfl) rfl #[.slice A0 l0.length c0] rfl (by (try simp only [List.map_toArray, List.map_cons, List.map_nil]); first | done | rfl | (simp only [List.length_drop, List.length_take]; rfl)) ?_; (with_reducible refine (made_Light.calls _ _ l0 false _ ?side1 ?side2 A2.out).mono ?_); (case side1 => repeat (first | exact HR0.out | (with_reducible refine Kd.C_alloc ?_ _) | (with_reducible refine Kd.C_drewN ?_ _) | (with_reducible refine Kd.C_drew ?_))); (case side2 => exact HC0.out); rintro e w' ⟨rfl, ⟨nd, rfl⟩⟩; refine ⟨_, rfl, ?_⟩) | ((with_reducible refine gate_callee (f := 19) rfl ?_); refine goesL_ (some 20) rfl rfl Try.func19 (by kernel_rfl) rfl #[] rfl (by (try simp only [List.map_toArray, List.map_cons, List.map_nil]); first | done | rfl | (simp only [List.length_drop, List.length_take]; rfl)) ?_; (with_reducible refine (Awake16.calls  t236 _ A101.out).mono ?_); rintro e w102 ⟨rfl, hb⟩; refine ⟨_, rfl, ?_⟩; have n0_ := Aside0.mk (below_step (hb0_ HB.out) hb); clear HB; have HB := n0_; clear n0_; (try clear hb); (try clear hb2); (try clear hk); (try clear hi)))
  go_ret
  exact ⟨by first | rfl | (simp [errW_none, errW_some] <;> rfl) | (simp [*, errW_none, errW_some] <;> rfl), by repeat (first | (with_reducible first | exact HB.out | apply below_alloc | apply pw_below_drewN | apply below_drew1) | exact HB.out)⟩

/-- THE ONE PURE STATEMENT of law16_ProductSingle: yours. -/
def law16_ProductSingle.Pure : Prop := ∀ (l0 : List Int), l0.length ≤ maxLen → l0.length * 8 ≤ 140737488351232 → (∀ x ∈ l0, (Lit.int .i64 x).wf = true) → ∃ k, law16_ProductSingle.f k l0 = some true
theorem law16_ProductSingle.walk (P : law16_ProductSingle.Pure) (a0 : Option Addr) (len0 cap0 : Nat) (z0 : List Int) (w : World) (w0 : (a0 = none ∧ len0 = 0 ∧ cap0 = 0 ∧ z0 = []) ∨ ∃ x, a0 = some x ∧ len0 ≤ cap0 ∧ cap0 ≤ maxLen ∧ z0.length = cap0 ∧ (∀ i, i < z0.length → w.cell? (x.add i) = some (.int .i64 (z0.getD i 0))) ∧ ∀ n ∈ z0, (Lit.int .i64 n).wf = true) (y0 : len0 * 8 ≤ 140737488351232) :
  Calls Try.prog 5 #[.slice a0 len0 cap0] w fun e w' => e = .returned (.bool true) ∧ Below w.heap.size w w' := by
 obtain ⟨l0, rfl, hr0, hm0, hw0, hc0⟩ := ReadsInt.ofRowC w0
 obtain ⟨k, h⟩ := P l0 hm0 y0 hw0
 refine (law16_ProductSingle.calls k _ _ l0 true w (Kd.C_of_reads (d := (0 : Int)) (h1 := fun _ => rfl) hr0) hc0 h rfl).mono ?_
 rintro e w' ⟨rfl, hd⟩
 exact ⟨rfl, hd⟩

end Go.Proofs.Ytpcephbhnbfcmaa.F
