-- Written by this session's program fork.py: a Lean function for each Go function and its walk. Not trusted: Lean checks it.
import Derived.Test.YtpcephbhnbfcmaaB0
import Derived.Test.YtpcephbhnbfcmaaB1
import Derived.Test.YtpcephbhnbfcmaaB2
import Derived.Test.YtpcephbhnbfcmaaB3
namespace Go.Proofs.Ytpcephbhnbfcmaa.B
open Go.RowKit Go.Proofs.YtpcephbhnbfcmaaW.PrintWords Go.Proofs.YtpcephbhnbfcmaaW.PrintLast Go.Proofs.YtpcephbhnbfcmaaW.PrintMore
attribute [local go_sem] max2_int min2_int max_two min_two max_three min_three max_four min_four   -- for this text's walks alone
set_option linter.unusedVariables false
set_option linter.unusedSimpArgs false

/-! ### libevolutionlaw15_MaskNumbers: function 9 -/
mutual
def libevolutionlaw15_MaskNumbers.j0 : Nat → List Int → List Int → Int → Int → Bool → Option (Bool)
  | 0, _, _, _, _, _ => none
  | k + 1, x0, x1, x2, x3, x25 => if x25 = true then ((libevolutionlaw15_awake.f k).bind fun t149 => (some t149)) else ((Extend.f x1 (x0.length : Int)).bind fun t150 => ((mask_Bits.f k t150 (wrap64 (Int.tmod x3 17))).bind fun bt153 => (if bt153.2 = true then (if 0 ≤ (IntKind.u64.wrap ((bt153.1.length : Int))) then (if (shl .i64 1 (IntKind.u64.wrap ((bt153.1.length : Int)))) = 0 then (none) else ((mask_Put.f k x0 bt153.1 (Int.tmod (wrap64 (x2)) (shl .i64 1 (IntKind.u64.wrap ((bt153.1.length : Int)))))).bind fun t159 => (if (t159.length : Int) = (x0.length : Int) then ((mask_Get.f k t159 bt153.1).bind fun t162 => (if t162 = (Int.tmod (wrap64 (x2)) (shl .i64 1 (IntKind.u64.wrap ((bt153.1.length : Int))))) then ((mask_Clear.f k t159 bt153.1).bind fun t163 => ((mask_Get.f k t163 bt153.1).bind fun t166 => (libevolutionlaw15_MaskNumbers.j1 k x0 bt153.1 t159 (t166 != 0)))) else (libevolutionlaw15_MaskNumbers.j1 k x0 bt153.1 t159 true))) else (libevolutionlaw15_MaskNumbers.j1 k x0 bt153.1 t159 true)))) else (none)) else ((mask_Count.f k t150).bind fun t157 => (if t157 < (wrap64 (Int.tmod x3 17)) then ((libevolutionlaw15_awake.f k).bind fun t158 => (some t158)) else (some false))))))
def libevolutionlaw15_MaskNumbers.j1 : Nat → List Int → List Int → List Int → Bool → Option (Bool)
  | 0, _, _, _, _ => none
  | k + 1, x0, x10, x13, x80 => if x80 = true then (some false) else (libevolutionlaw15_MaskNumbers.l0 k x0 x10 x13 0)
def libevolutionlaw15_MaskNumbers.l0 : Nat → List Int → List Int → List Int → Int → Option (Bool)
  | 0, _, _, _, _ => none
  | k + 1, x0, x10, x13, x14 => if x14 < (wrap64 (8 * (x0.length : Int))) then (libevolutionlaw15_MaskNumbers.l1 k x0 x10 x13 x14 false x10 (x10.length : Int) 0) else ((libevolutionlaw15_awake.f k).bind fun t167 => (some t167))
def libevolutionlaw15_MaskNumbers.l1 : Nat → List Int → List Int → List Int → Int → Bool → List Int → Int → Int → Option (Bool)
  | 0, _, _, _, _, _, _, _, _ => none
  | k + 1, x0, x10, x13, x14, x15, x88, x89, x90 => if x90 < x89 then (if 0 ≤ x90 then (if x90 < (x88.length : Int) then (if x15 = true then (libevolutionlaw15_MaskNumbers.l1 k x0 x10 x13 x14 true x88 x89 (wrap64 (x90 + 1))) else (libevolutionlaw15_MaskNumbers.l1 k x0 x10 x13 x14 (x14 == (rd x88 x90)) x88 x89 (wrap64 (x90 + 1)))) else (none)) else (none)) else (if x15 = true then (libevolutionlaw15_MaskNumbers.l0 k x0 x10 x13 (wrap64 (x14 + 1))) else (if 0 ≤ (wrap64 (Int.tdiv x14 8)) then (if (wrap64 (Int.tdiv x14 8)) < (x0.length : Int) then (if 0 ≤ (IntKind.u64.wrap (Int.tmod x14 8)) then (if (wrap64 (Int.tdiv x14 8)) < (x13.length : Int) then (if (Go.bits .and .u8 (shr .u8 (rd x0 (wrap64 (Int.tdiv x14 8))) (IntKind.u64.wrap (Int.tmod x14 8))) 1) = (Go.bits .and .u8 (shr .u8 (rd x13 (wrap64 (Int.tdiv x14 8))) (IntKind.u64.wrap (Int.tmod x14 8))) 1) then (libevolutionlaw15_MaskNumbers.l0 k x0 x10 x13 (wrap64 (x14 + 1))) else (some false)) else (none)) else (none)) else (none)) else (none)))
end
def libevolutionlaw15_MaskNumbers.f (k : Nat) (l0 : List Int) (l1 : List Int) (a2 : Int) (a3 : Int) : Option (Bool) := if (l0.length : Int) = 0 then (libevolutionlaw15_MaskNumbers.j0 k l0 l1 a2 a3 true) else (libevolutionlaw15_MaskNumbers.j0 k l0 l1 a2 a3 (decide ((l0.length : Int) > 100)))
theorem libevolutionlaw15_MaskNumbers.mono_l : ∀ k, (∀ y0 y1 y2 y3 y4, LeO (libevolutionlaw15_MaskNumbers.j0 k y0 y1 y2 y3 y4) (libevolutionlaw15_MaskNumbers.j0 (k + 1) y0 y1 y2 y3 y4)) ∧ (∀ y0 y1 y2 y3, LeO (libevolutionlaw15_MaskNumbers.j1 k y0 y1 y2 y3) (libevolutionlaw15_MaskNumbers.j1 (k + 1) y0 y1 y2 y3)) ∧ (∀ y0 y1 y2 y3, LeO (libevolutionlaw15_MaskNumbers.l0 k y0 y1 y2 y3) (libevolutionlaw15_MaskNumbers.l0 (k + 1) y0 y1 y2 y3)) ∧ (∀ y0 y1 y2 y3 y4 y5 y6 y7, LeO (libevolutionlaw15_MaskNumbers.l1 k y0 y1 y2 y3 y4 y5 y6 y7) (libevolutionlaw15_MaskNumbers.l1 (k + 1) y0 y1 y2 y3 y4 y5 y6 y7))
  | 0 => ⟨fun _ _ _ _ _ r h => by simp [libevolutionlaw15_MaskNumbers.j0] at h, fun _ _ _ _ r h => by simp [libevolutionlaw15_MaskNumbers.j1] at h, fun _ _ _ _ r h => by simp [libevolutionlaw15_MaskNumbers.l0] at h, fun _ _ _ _ _ _ _ _ r h => by simp [libevolutionlaw15_MaskNumbers.l1] at h⟩
  | k + 1 => by
    obtain ⟨ih0, ih1, ih2, ih3⟩ := libevolutionlaw15_MaskNumbers.mono_l k
    refine ⟨?_, ?_, ?_, ?_⟩
    · intro y0 y1 y2 y3 y4
      unfold libevolutionlaw15_MaskNumbers.j0
      repeat' first
      | (with_reducible exact ih0 _ _ _ _ _)
      | (with_reducible exact ih1 _ _ _ _)
      | (with_reducible exact ih2 _ _ _ _)
      | (with_reducible exact ih3 _ _ _ _ _ _ _ _)
      | (with_reducible exact libevolutionlaw15_awake.mono _)
      | (with_reducible exact mask_Bits.mono _ _ _)
      | (with_reducible exact mask_Clear.mono _ _ _)
      | (with_reducible exact mask_Count.mono _ _)
      | (with_reducible exact mask_Get.mono _ _ _)
      | (with_reducible exact mask_Put.mono _ _ _ _)
      | (with_reducible exact LeO.refl _)
      | (with_reducible exact LeO.none _)
      | (with_reducible refine LeO.ite ?_ ?_)
      | (with_reducible refine LeO.bind ?_ (fun _ => ?_))
      | exact ih0 _ _ _ _ _
      | exact ih1 _ _ _ _
      | exact ih2 _ _ _ _
      | exact ih3 _ _ _ _ _ _ _ _
      | exact libevolutionlaw15_awake.mono _
      | exact mask_Bits.mono _ _ _
      | exact mask_Clear.mono _ _ _
      | exact mask_Count.mono _ _
      | exact mask_Get.mono _ _ _
      | exact mask_Put.mono _ _ _ _
      | exact LeO.none _
      | refine LeO.ite ?_ ?_
      | refine LeO.bind ?_ (fun _ => ?_)
    · intro y0 y1 y2 y3
      unfold libevolutionlaw15_MaskNumbers.j1
      repeat' first
      | (with_reducible exact ih0 _ _ _ _ _)
      | (with_reducible exact ih1 _ _ _ _)
      | (with_reducible exact ih2 _ _ _ _)
      | (with_reducible exact ih3 _ _ _ _ _ _ _ _)
      | (with_reducible exact libevolutionlaw15_awake.mono _)
      | (with_reducible exact mask_Bits.mono _ _ _)
      | (with_reducible exact mask_Clear.mono _ _ _)
      | (with_reducible exact mask_Count.mono _ _)
      | (with_reducible exact mask_Get.mono _ _ _)
      | (with_reducible exact mask_Put.mono _ _ _ _)
      | (with_reducible exact LeO.refl _)
      | (with_reducible exact LeO.none _)
      | (with_reducible refine LeO.ite ?_ ?_)
      | (with_reducible refine LeO.bind ?_ (fun _ => ?_))
      | exact ih0 _ _ _ _ _
      | exact ih1 _ _ _ _
      | exact ih2 _ _ _ _
      | exact ih3 _ _ _ _ _ _ _ _
      | exact libevolutionlaw15_awake.mono _
      | exact mask_Bits.mono _ _ _
      | exact mask_Clear.mono _ _ _
      | exact mask_Count.mono _ _
      | exact mask_Get.mono _ _ _
      | exact mask_Put.mono _ _ _ _
      | exact LeO.none _
      | refine LeO.ite ?_ ?_
      | refine LeO.bind ?_ (fun _ => ?_)
    · intro y0 y1 y2 y3
      unfold libevolutionlaw15_MaskNumbers.l0
      repeat' first
      | (with_reducible exact ih0 _ _ _ _ _)
      | (with_reducible exact ih1 _ _ _ _)
      | (with_reducible exact ih2 _ _ _ _)
      | (with_reducible exact ih3 _ _ _ _ _ _ _ _)
      | (with_reducible exact libevolutionlaw15_awake.mono _)
      | (with_reducible exact mask_Bits.mono _ _ _)
      | (with_reducible exact mask_Clear.mono _ _ _)
      | (with_reducible exact mask_Count.mono _ _)
      | (with_reducible exact mask_Get.mono _ _ _)
      | (with_reducible exact mask_Put.mono _ _ _ _)
      | (with_reducible exact LeO.refl _)
      | (with_reducible exact LeO.none _)
      | (with_reducible refine LeO.ite ?_ ?_)
      | (with_reducible refine LeO.bind ?_ (fun _ => ?_))
      | exact ih0 _ _ _ _ _
      | exact ih1 _ _ _ _
      | exact ih2 _ _ _ _
      | exact ih3 _ _ _ _ _ _ _ _
      | exact libevolutionlaw15_awake.mono _
      | exact mask_Bits.mono _ _ _
      | exact mask_Clear.mono _ _ _
      | exact mask_Count.mono _ _
      | exact mask_Get.mono _ _ _
      | exact mask_Put.mono _ _ _ _
      | exact LeO.none _
      | refine LeO.ite ?_ ?_
      | refine LeO.bind ?_ (fun _ => ?_)
    · intro y0 y1 y2 y3 y4 y5 y6 y7
      unfold libevolutionlaw15_MaskNumbers.l1
      repeat' first
      | (with_reducible exact ih0 _ _ _ _ _)
      | (with_reducible exact ih1 _ _ _ _)
      | (with_reducible exact ih2 _ _ _ _)
      | (with_reducible exact ih3 _ _ _ _ _ _ _ _)
      | (with_reducible exact libevolutionlaw15_awake.mono _)
      | (with_reducible exact mask_Bits.mono _ _ _)
      | (with_reducible exact mask_Clear.mono _ _ _)
      | (with_reducible exact mask_Count.mono _ _)
      | (with_reducible exact mask_Get.mono _ _ _)
      | (with_reducible exact mask_Put.mono _ _ _ _)
      | (with_reducible exact LeO.refl _)
      | (with_reducible exact LeO.none _)
      | (with_reducible refine LeO.ite ?_ ?_)
      | (with_reducible refine LeO.bind ?_ (fun _ => ?_))
      | exact ih0 _ _ _ _ _
      | exact ih1 _ _ _ _
      | exact ih2 _ _ _ _
      | exact ih3 _ _ _ _ _ _ _ _
      | exact libevolutionlaw15_awake.mono _
      | exact mask_Bits.mono _ _ _
      | exact mask_Clear.mono _ _ _
      | exact mask_Count.mono _ _
      | exact mask_Get.mono _ _ _
      | exact mask_Put.mono _ _ _ _
      | exact LeO.none _
      | refine LeO.ite ?_ ?_
      | refine LeO.bind ?_ (fun _ => ?_)
theorem libevolutionlaw15_MaskNumbers.mono : ∀ a0 a1 a2 a3 k, LeO (libevolutionlaw15_MaskNumbers.f k a0 a1 a2 a3) (libevolutionlaw15_MaskNumbers.f (k + 1) a0 a1 a2 a3) := by
  intro a0 a1 a2 a3 k
  obtain ⟨ih0, ih1, ih2, ih3⟩ := libevolutionlaw15_MaskNumbers.mono_l k
  unfold libevolutionlaw15_MaskNumbers.f
  repeat' first
      | (with_reducible exact ih0 _ _ _ _ _)
      | (with_reducible exact ih1 _ _ _ _)
      | (with_reducible exact ih2 _ _ _ _)
      | (with_reducible exact ih3 _ _ _ _ _ _ _ _)
      | (with_reducible exact libevolutionlaw15_awake.mono _)
      | (with_reducible exact mask_Bits.mono _ _ _)
      | (with_reducible exact mask_Clear.mono _ _ _)
      | (with_reducible exact mask_Count.mono _ _)
      | (with_reducible exact mask_Get.mono _ _ _)
      | (with_reducible exact mask_Put.mono _ _ _ _)
      | (with_reducible exact LeO.refl _)
      | (with_reducible exact LeO.none _)
      | (with_reducible refine LeO.ite ?_ ?_)
      | (with_reducible refine LeO.bind ?_ (fun _ => ?_))
      | exact ih0 _ _ _ _ _
      | exact ih1 _ _ _ _
      | exact ih2 _ _ _ _
      | exact ih3 _ _ _ _ _ _ _ _
      | exact libevolutionlaw15_awake.mono _
      | exact mask_Bits.mono _ _ _
      | exact mask_Clear.mono _ _ _
      | exact mask_Count.mono _ _
      | exact mask_Get.mono _ _ _
      | exact mask_Put.mono _ _ _ _
      | exact LeO.none _
      | refine LeO.ite ?_ ?_
      | refine LeO.bind ?_ (fun _ => ?_)
set_option maxHeartbeats 8000000 in
set_option maxRecDepth 100000 in
theorem libevolutionlaw15_MaskNumbers.calls (k : Nat) (A0 : Option Addr) (c0 : Nat) (l0 : List Int) (A1 : Option Addr) (c1 : Nat) (l1 : List Int) (a2 : Int) (a3 : Int) (r : Bool) (w : World) (hr0 : Kd.C (Kd.int .u8) w A0 l0.length l0) (hc0 : l0.length ≤ c0) (hr1 : Kd.C (Kd.int .u8) w A1 l1.length l1) (hc1 : l1.length ≤ c1) (h : libevolutionlaw15_MaskNumbers.f k l0 l1 a2 a3 = some r) :
    Calls Try.prog 9 #[.slice A0 l0.length c0, .slice A1 l1.length c1, .int .u16 a2, .int .u8 a3] w fun e w' => e = .returned (.bool r) ∧ Below w.heap.size w w' := by
  have HR0 := Aside0.mk hr0
  have HC0 := Aside0.mk hc0
  clear hr0 hc0
  have HR1 := Aside0.mk hr1
  have HC1 := Aside0.mk hc1
  clear hr1 hc1
  have HB := Aside0.mk (Below.refl w.heap.size w)
  have H : (if (l0.length : Int) = 0 then (libevolutionlaw15_MaskNumbers.j0 k l0 l1 a2 a3 true) else (libevolutionlaw15_MaskNumbers.j0 k l0 l1 a2 a3 (decide ((l0.length : Int) > 100)))) = some r := h
  clear h
  have HC5 := Aside0.mk H
  clear H
  go_enter Try.func9, Try.ntmps9
  go_upto_region 1 with (fail)
  repeat (go_quiet (fail); go_upto_region 1 with (fail))
  go_cut [25] (fun v25 wc => ∃ (kq : Nat) (x25_4 : Bool), v25 = .bool x25_4 ∧ Aside0 (libevolutionlaw15_MaskNumbers.j0 kq l0 l1 a2 a3 x25_4 = some r) ∧ Aside0 (kq ≤ k) ∧ Aside0 (Below w.heap.size w wc))
  case first =>
    have H := HC5.out
    clear HC5
    by_cases c6 : (l0.length : Int) = 0
    · rw [if_pos c6] at H
      have c6b0 : ((l0.length : Int) == 0) = true := beq_iff_eq.mpr c6
      have c6b1 : ((l0.length : Int) != 0) = false := bne_eq_false_iff_eq.mpr c6
      clear c6
      (first | rw [c6b0] | (simp only [i64_w, i32_w]; rw [c6b0]) | skip)
      have H' := Aside0.mk H
      clear H
      go_wp2
      repeat (go_quiet (fail); try go_wp2)
      go_meet
      case rel => exact ⟨_, (true), (by first | rfl | (simp; done) | (simp [*]; done)), H', ⟨by first | omega | exact Nat.le_refl _⟩, ⟨by repeat (first | (with_reducible first | exact HB.out | apply below_alloc | apply pw_below_drewN | apply below_drew1) | exact HB.out)⟩⟩
    · rw [if_neg c6] at H
      have c6b0 : ((l0.length : Int) == 0) = false := beq_eq_false_iff_ne.mpr c6
      have c6b1 : ((l0.length : Int) != 0) = true := bne_iff_ne.mpr c6
      have c6b2 : ¬ (l0 = []) := fun h_ => c6 (by rw [h_]; rfl)
      (first | rw [c6b0] | (simp only [i64_w, i32_w]; rw [c6b0]) | skip)
      have H' := Aside0.mk H
      clear H
      go_wp2
      repeat (go_quiet (fail); try go_wp2)
      go_meet
      case rel => exact ⟨_, (decide ((l0.length : Int) > 100)), (by first | rfl | (simp; done) | (simp [*]; done)), H', ⟨by first | omega | exact Nat.le_refl _⟩, ⟨by repeat (first | (with_reducible first | exact HB.out | apply below_alloc | apply pw_below_drewN | apply below_drew1) | exact HB.out)⟩⟩
  case rest =>
    clear HC5
    try clear c1
    try clear p2
    try clear c6
    try clear c6b0
    try clear c6b1
    try clear c6b2
    obtain ⟨kq, x25_4, rfl, HA, HJ4, HB⟩ := hcut
    cases kq with
    | zero => exact absurd HA.out (by simp [libevolutionlaw15_MaskNumbers.j0])
    | succ kj4 =>
      have H := HA.out
      clear HA
      simp only [libevolutionlaw15_MaskNumbers.j0] at H
      by_cases c7 : x25_4 = true
      · subst c7
        have H1 : ((libevolutionlaw15_awake.f kj4).bind fun t149 => (some t149)) = some r := by rw [if_pos rfl] at H; exact H
        clear H
        have H := H1
        clear H1
        replace H := Option.bind_eq_some_iff.mp H
        obtain ⟨t149, A80, H⟩ := H
        replace H : (some t149) = some r := H
        have A8 := Aside0.mk A80
        clear A80
        obtain rfl := Option.some.inj H
        go_wp2_with (first | (go_at_call 43; (with_reducible refine (libevolutionlaw15_awake.calls kj4  t149 _ A8.out).mono ?_); rintro e w9 ⟨rfl, hb⟩; have n0_ := Aside0.mk (below_step (hb0_ HB.out) hb); clear HB; have HB := n0_; clear n0_; (try clear hb); (try clear hb2); (try clear hk); (try clear hi)))
        repeat (go_quiet (first | (go_at_call 43; (with_reducible refine (libevolutionlaw15_awake.calls kj4  t149 _ A8.out).mono ?_); rintro e w9 ⟨rfl, hb⟩; have n0_ := Aside0.mk (below_step (hb0_ HB.out) hb); clear HB; have HB := n0_; clear n0_; (try clear hb); (try clear hb2); (try clear hk); (try clear hi))); try go_wp2_with (first | (go_at_call 43; (with_reducible refine (libevolutionlaw15_awake.calls kj4  t149 _ A8.out).mono ?_); rintro e w9 ⟨rfl, hb⟩; have n0_ := Aside0.mk (below_step (hb0_ HB.out) hb); clear HB; have HB := n0_; clear n0_; (try clear hb); (try clear hb2); (try clear hk); (try clear hi))))
        go_ret
        exact ⟨by first | rfl | (simp [errW_none, errW_some] <;> rfl) | (simp [*, errW_none, errW_some] <;> rfl), by repeat (first | (with_reducible first | exact HB.out | apply below_alloc | apply pw_below_drewN | apply below_drew1) | exact HB.out)⟩
      · replace c7 := Bool.eq_false_iff.mpr c7
        subst c7
        have H1 : ((Extend.f l1 (l0.length : Int)).bind fun t150 => ((mask_Bits.f kj4 t150 (wrap64 (Int.tmod a3 17))).bind fun bt153 => (if bt153.2 = true then (if 0 ≤ (IntKind.u64.wrap ((bt153.1.length : Int))) then (if (shl .i64 1 (IntKind.u64.wrap ((bt153.1.length : Int)))) = 0 then (none) else ((mask_Put.f kj4 l0 bt153.1 (Int.tmod (wrap64 (a2)) (shl .i64 1 (IntKind.u64.wrap ((bt153.1.length : Int)))))).bind fun t159 => (if (t159.length : Int) = (l0.length : Int) then ((mask_Get.f kj4 t159 bt153.1).bind fun t162 => (if t162 = (Int.tmod (wrap64 (a2)) (shl .i64 1 (IntKind.u64.wrap ((bt153.1.length : Int))))) then ((mask_Clear.f kj4 t159 bt153.1).bind fun t163 => ((mask_Get.f kj4 t163 bt153.1).bind fun t166 => (libevolutionlaw15_MaskNumbers.j1 kj4 l0 bt153.1 t159 (t166 != 0)))) else (libevolutionlaw15_MaskNumbers.j1 kj4 l0 bt153.1 t159 true))) else (libevolutionlaw15_MaskNumbers.j1 kj4 l0 bt153.1 t159 true)))) else (none)) else ((mask_Count.f kj4 t150).bind fun t157 => (if t157 < (wrap64 (Int.tmod a3 17)) then ((libevolutionlaw15_awake.f kj4).bind fun t158 => (some t158)) else (some false)))))) = some r := by rw [if_neg (show ¬ (false = true) by decide)] at H; exact H
        clear H
        have H := H1
        clear H1
        replace H := Option.bind_eq_some_iff.mp H
        obtain ⟨t150, A100, H⟩ := H
        replace H : ((mask_Bits.f kj4 t150 (wrap64 (Int.tmod a3 17))).bind fun bt153 => (if bt153.2 = true then (if 0 ≤ (IntKind.u64.wrap ((bt153.1.length : Int))) then (if (shl .i64 1 (IntKind.u64.wrap ((bt153.1.length : Int)))) = 0 then (none) else ((mask_Put.f kj4 l0 bt153.1 (Int.tmod (wrap64 (a2)) (shl .i64 1 (IntKind.u64.wrap ((bt153.1.length : Int)))))).bind fun t159 => (if (t159.length : Int) = (l0.length : Int) then ((mask_Get.f kj4 t159 bt153.1).bind fun t162 => (if t162 = (Int.tmod (wrap64 (a2)) (shl .i64 1 (IntKind.u64.wrap ((bt153.1.length : Int))))) then ((mask_Clear.f kj4 t159 bt153.1).bind fun t163 => ((mask_Get.f kj4 t163 bt153.1).bind fun t166 => (libevolutionlaw15_MaskNumbers.j1 kj4 l0 bt153.1 t159 (t166 != 0)))) else (libevolutionlaw15_MaskNumbers.j1 kj4 l0 bt153.1 t159 true))) else (libevolutionlaw15_MaskNumbers.j1 kj4 l0 bt153.1 t159 true)))) else (none)) else ((mask_Count.f kj4 t150).bind fun t157 => (if t157 < (wrap64 (Int.tmod a3 17)) then ((libevolutionlaw15_awake.f kj4).bind fun t158 => (some t158)) else (some false))))) = some r := H
        have A10 := Aside0.mk A100
        clear A100
        replace H := Option.bind_eq_some_iff.mp H
        obtain ⟨⟨t153, t154⟩, A110, H⟩ := H
        replace H : (if t154 = true then (if 0 ≤ (IntKind.u64.wrap ((t153.length : Int))) then (if (shl .i64 1 (IntKind.u64.wrap ((t153.length : Int)))) = 0 then (none) else ((mask_Put.f kj4 l0 t153 (Int.tmod (wrap64 (a2)) (shl .i64 1 (IntKind.u64.wrap ((t153.length : Int)))))).bind fun t159 => (if (t159.length : Int) = (l0.length : Int) then ((mask_Get.f kj4 t159 t153).bind fun t162 => (if t162 = (Int.tmod (wrap64 (a2)) (shl .i64 1 (IntKind.u64.wrap ((t153.length : Int))))) then ((mask_Clear.f kj4 t159 t153).bind fun t163 => ((mask_Get.f kj4 t163 t153).bind fun t166 => (libevolutionlaw15_MaskNumbers.j1 kj4 l0 t153 t159 (t166 != 0)))) else (libevolutionlaw15_MaskNumbers.j1 kj4 l0 t153 t159 true))) else (libevolutionlaw15_MaskNumbers.j1 kj4 l0 t153 t159 true)))) else (none)) else ((mask_Count.f kj4 t150).bind fun t157 => (if t157 < (wrap64 (Int.tmod a3 17)) then ((libevolutionlaw15_awake.f kj4).bind fun t158 => (some t158)) else (some false)))) = some r := H
        have A11 := Aside0.mk A110
        clear A110
        by_cases c12 : t154 = true
        · subst c12
          have H1 : (if 0 ≤ (IntKind.u64.wrap ((t153.length : Int))) then (if (shl .i64 1 (IntKind.u64.wrap ((t153.length : Int)))) = 0 then (none) else ((mask_Put.f kj4 l0 t153 (Int.tmod (wrap64 (a2)) (shl .i64 1 (IntKind.u64.wrap ((t153.length : Int)))))).bind fun t159 => (if (t159.length : Int) = (l0.length : Int) then ((mask_Get.f kj4 t159 t153).bind fun t162 => (if t162 = (Int.tmod (wrap64 (a2)) (shl .i64 1 (IntKind.u64.wrap ((t153.length : Int))))) then ((mask_Clear.f kj4 t159 t153).bind fun t163 => ((mask_Get.f kj4 t163 t153).bind fun t166 => (libevolutionlaw15_MaskNumbers.j1 kj4 l0 t153 t159 (t166 != 0)))) else (libevolutionlaw15_MaskNumbers.j1 kj4 l0 t153 t159 true))) else (libevolutionlaw15_MaskNumbers.j1 kj4 l0 t153 t159 true)))) else (none)) = some r := by rw [if_pos rfl] at H; exact H
          clear H
          have H := H1
          clear H1
          obtain ⟨ji13, hji13⟩ : ∃ j_ : Int, (IntKind.u64.wrap ((t153.length : Int))) = j_ := ⟨_, rfl⟩
          replace H : (if 0 ≤ (ji13) then (if (shl .i64 1 (ji13)) = 0 then (none) else ((mask_Put.f kj4 l0 t153 (Int.tmod (wrap64 (a2)) (shl .i64 1 (ji13)))).bind fun t159 => (if (t159.length : Int) = (l0.length : Int) then ((mask_Get.f kj4 t159 t153).bind fun t162 => (if t162 = (Int.tmod (wrap64 (a2)) (shl .i64 1 (ji13))) then ((mask_Clear.f kj4 t159 t153).bind fun t163 => ((mask_Get.f kj4 t163 t153).bind fun t166 => (libevolutionlaw15_MaskNumbers.j1 kj4 l0 t153 t159 (t166 != 0)))) else (libevolutionlaw15_MaskNumbers.j1 kj4 l0 t153 t159 true))) else (libevolutionlaw15_MaskNumbers.j1 kj4 l0 t153 t159 true)))) else (none)) = some r := by first | (rw [hji13] at H; exact H) | (simp only [hji13] at H ⊢; exact H)
          (try rw [hji13] at A10)
          (try rw [hji13] at A11)
          by_cases c14 : 0 ≤ (ji13)
          · rw [if_pos c14] at H
            have c14b0 := eq_true c14
            have c14b1 : decide (0 ≤ (ji13)) = true := decide_eq_true c14
            clear c14
            obtain ⟨ji15, hji15⟩ : ∃ j_ : Int, (shl .i64 1 (ji13)) = j_ := ⟨_, rfl⟩
            replace H : (if (ji15) = 0 then (none) else ((mask_Put.f kj4 l0 t153 (Int.tmod (wrap64 (a2)) (ji15))).bind fun t159 => (if (t159.length : Int) = (l0.length : Int) then ((mask_Get.f kj4 t159 t153).bind fun t162 => (if t162 = (Int.tmod (wrap64 (a2)) (ji15)) then ((mask_Clear.f kj4 t159 t153).bind fun t163 => ((mask_Get.f kj4 t163 t153).bind fun t166 => (libevolutionlaw15_MaskNumbers.j1 kj4 l0 t153 t159 (t166 != 0)))) else (libevolutionlaw15_MaskNumbers.j1 kj4 l0 t153 t159 true))) else (libevolutionlaw15_MaskNumbers.j1 kj4 l0 t153 t159 true)))) = some r := by first | (rw [hji15] at H; exact H) | (simp only [hji15] at H ⊢; exact H)
            (try rw [hji15] at A10)
            (try rw [hji15] at A11)
            have hji15_ : (IntKind.i64.wrap (1 * 2 ^ min (ji13).toNat 64)) = ji15 := hji15
            have hji15z : (ji13) ≤ 64 → (IntKind.i64.wrap (1 * 2 ^ (ji13).toNat)) = ji15 := shl_small hji15
            have hji15u : (IntKind.i64.wrap (2 ^ min (ji13).toNat 64)) = ji15 := by have h_ := hji15_; rw [Int.one_mul] at h_; exact h_
            have hji15v : (ji13) ≤ 64 → (IntKind.i64.wrap (2 ^ (ji13).toNat)) = ji15 := fun hle_ => by have h_ := hji15z hle_; rw [Int.one_mul] at h_; exact h_
            have hji15y : (wrap64 (1 * 2 ^ min (ji13).toNat 64)) = ji15 := (i64_w _).symm.trans hji15_
            have hji15x : (ji13) ≤ 64 → (wrap64 (1 * 2 ^ (ji13).toNat)) = ji15 := fun h_ => (i64_w _).symm.trans (hji15z h_)
            by_cases c16 : (ji15) = 0
            · rw [if_pos c16] at H
              exact absurd H (by simp)
            · rw [if_neg c16] at H
              have c16b0 : ((ji15) == 0) = false := beq_eq_false_iff_ne.mpr c16
              have c16b1 : ((ji15) != 0) = true := bne_iff_ne.mpr c16
              replace H := Option.bind_eq_some_iff.mp H
              obtain ⟨t159, A170, H⟩ := H
              replace H : (if (t159.length : Int) = (l0.length : Int) then ((mask_Get.f kj4 t159 t153).bind fun t162 => (if t162 = (Int.tmod (wrap64 (a2)) (ji15)) then ((mask_Clear.f kj4 t159 t153).bind fun t163 => ((mask_Get.f kj4 t163 t153).bind fun t166 => (libevolutionlaw15_MaskNumbers.j1 kj4 l0 t153 t159 (t166 != 0)))) else (libevolutionlaw15_MaskNumbers.j1 kj4 l0 t153 t159 true))) else (libevolutionlaw15_MaskNumbers.j1 kj4 l0 t153 t159 true)) = some r := H
              have A17 := Aside0.mk A170
              clear A170
              have HC18 := Aside0.mk H
              clear H
              go_upto_region 9 with (first | (go_at_call 46; (with_reducible refine (Extend.calls _ _ l1 (l0.length : Int) t150 _ ?side1 ?side2 A10.out).mono ?_); (case side1 => repeat (first | exact (Kd.C_below HR1.out HB.out) | (with_reducible refine Kd.C_alloc ?_ _) | (with_reducible refine Kd.C_drewN ?_ _) | (with_reducible refine Kd.C_drew ?_))); (case side2 => exact HC1.out); rintro e w19 ⟨v151, rfl, ho0, hb⟩; have n0_ := Aside0.mk (Kd.V_lower (Kd.V_mono (ok' := fun k_ => True) ho0 (fun k_ hk_ => trivial)) (below_size (hb0_ HB.out))); have n1_ := Aside0.mk (below_step (hb0_ HB.out) hb); clear HB; have HO152 := n0_; have HB := n1_; clear n0_ n1_; (try clear hb); (try clear hb2); (try clear hk); (try clear hi); (try clear ho0); obtain ⟨Ao20, co20, eo20⟩ := Kd.V_slice HO152.out; subst eo20) | (go_at_call 44; (with_reducible refine (mask_Bits.calls kj4 _ _ t150 (wrap64 (Int.tmod a3 17)) t153 true _ ?side1 ?side2 A11.out).mono ?_); (case side1 => repeat (first | exact (Kd.V_reads' HO152.out).2.2 | (with_reducible refine Kd.C_alloc ?_ _) | (with_reducible refine Kd.C_drewN ?_ _) | (with_reducible refine Kd.C_drew ?_))); (case side2 => exact (Kd.V_reads' HO152.out).2.1); rintro e w21 ⟨v155, rfl, ho0, hb⟩; have n0_ := Aside0.mk (Kd.V_elder' (kV_ HO152.out) (Kd.R_base ho0) hb); have n1_ := Aside0.mk (Kd.R_lower ho0 (below_size (hb0_ HB.out))); have n2_ := Aside0.mk (below_step (hb0_ HB.out) hb); clear HO152 HB; have HO152 := n0_; have HO156 := n1_; have HB := n2_; clear n0_ n1_ n2_; (try clear hb); (try clear hb2); (try clear hk); (try clear hi); (try clear ho0); obtain ⟨Ao22, co22, eo22⟩ := Kd.R_slice HO156.out; subst eo22) | (go_at_call 47; (with_reducible refine (mask_Put.calls kj4 _ _ l0 _ _ t153 (Int.tmod (wrap64 (a2)) (ji15)) t159 _ ?side1 ?side2 ?side3 ?side4 A17.out).mono ?_); (case side1 => repeat (first | exact (Kd.C_below HR0.out HB.out) | (with_reducible refine Kd.C_alloc ?_ _) | (with_reducible refine Kd.C_drewN ?_ _) | (with_reducible refine Kd.C_drew ?_))); (case side2 => exact HC0.out); (case side3 => repeat (first | exact (Kd.R_reads' HO156.out).2.2 | (with_reducible refine Kd.C_alloc ?_ _) | (with_reducible refine Kd.C_drewN ?_ _) | (with_reducible refine Kd.C_drew ?_))); (case side4 => exact (Kd.R_reads' HO156.out).2.1); rintro e w23 ⟨v160, rfl, ho0, hb⟩; have n0_ := Aside0.mk (Kd.V_elder' (kV_ HO152.out) (Kd.R_base ho0) hb); have n1_ := Aside0.mk (Kd.R_below (kR_ HO156.out) hb); have n2_ := Aside0.mk (Kd.R_lower ho0 (below_size (hb0_ HB.out))); have n3_ := Aside0.mk (below_step (hb0_ HB.out) hb); clear HO152 HO156 HB; have HO152 := n0_; have HO156 := n1_; have HO161 := n2_; have HB := n3_; clear n0_ n1_ n2_ n3_; (try clear hb); (try clear hb2); (try clear hk); (try clear hi); (try clear ho0)))
              repeat (go_quiet (first | (go_at_call 46; (with_reducible refine (Extend.calls _ _ l1 (l0.length : Int) t150 _ ?side1 ?side2 A10.out).mono ?_); (case side1 => repeat (first | exact (Kd.C_below HR1.out HB.out) | (with_reducible refine Kd.C_alloc ?_ _) | (with_reducible refine Kd.C_drewN ?_ _) | (with_reducible refine Kd.C_drew ?_))); (case side2 => exact HC1.out); rintro e w19 ⟨v151, rfl, ho0, hb⟩; have n0_ := Aside0.mk (Kd.V_lower (Kd.V_mono (ok' := fun k_ => True) ho0 (fun k_ hk_ => trivial)) (below_size (hb0_ HB.out))); have n1_ := Aside0.mk (below_step (hb0_ HB.out) hb); clear HB; have HO152 := n0_; have HB := n1_; clear n0_ n1_; (try clear hb); (try clear hb2); (try clear hk); (try clear hi); (try clear ho0); obtain ⟨Ao20, co20, eo20⟩ := Kd.V_slice HO152.out; subst eo20) | (go_at_call 44; (with_reducible refine (mask_Bits.calls kj4 _ _ t150 (wrap64 (Int.tmod a3 17)) t153 true _ ?side1 ?side2 A11.out).mono ?_); (case side1 => repeat (first | exact (Kd.V_reads' HO152.out).2.2 | (with_reducible refine Kd.C_alloc ?_ _) | (with_reducible refine Kd.C_drewN ?_ _) | (with_reducible refine Kd.C_drew ?_))); (case side2 => exact (Kd.V_reads' HO152.out).2.1); rintro e w21 ⟨v155, rfl, ho0, hb⟩; have n0_ := Aside0.mk (Kd.V_elder' (kV_ HO152.out) (Kd.R_base ho0) hb); have n1_ := Aside0.mk (Kd.R_lower ho0 (below_size (hb0_ HB.out))); have n2_ := Aside0.mk (below_step (hb0_ HB.out) hb); clear HO152 HB; have HO152 := n0_; have HO156 := n1_; have HB := n2_; clear n0_ n1_ n2_; (try clear hb); (try clear hb2); (try clear hk); (try clear hi); (try clear ho0); obtain ⟨Ao22, co22, eo22⟩ := Kd.R_slice HO156.out; subst eo22) | (go_at_call 47; (with_reducible refine (mask_Put.calls kj4 _ _ l0 _ _ t153 (Int.tmod (wrap64 (a2)) (ji15)) t159 _ ?side1 ?side2 ?side3 ?side4 A17.out).mono ?_); (case side1 => repeat (first | exact (Kd.C_below HR0.out HB.out) | (with_reducible refine Kd.C_alloc ?_ _) | (with_reducible refine Kd.C_drewN ?_ _) | (with_reducible refine Kd.C_drew ?_))); (case side2 => exact HC0.out); (case side3 => repeat (first | exact (Kd.R_reads' HO156.out).2.2 | (with_reducible refine Kd.C_alloc ?_ _) | (with_reducible refine Kd.C_drewN ?_ _) | (with_reducible refine Kd.C_drew ?_))); (case side4 => exact (Kd.R_reads' HO156.out).2.1); rintro e w23 ⟨v160, rfl, ho0, hb⟩; have n0_ := Aside0.mk (Kd.V_elder' (kV_ HO152.out) (Kd.R_base ho0) hb); have n1_ := Aside0.mk (Kd.R_below (kR_ HO156.out) hb); have n2_ := Aside0.mk (Kd.R_lower ho0 (below_size (hb0_ HB.out))); have n3_ := Aside0.mk (below_step (hb0_ HB.out) hb); clear HO152 HO156 HB; have HO152 := n0_; have HO156 := n1_; have HO161 := n2_; have HB := n3_; clear n0_ n1_ n2_ n3_; (try clear hb); (try clear hb2); (try clear hk); (try clear hi); (try clear ho0))); go_upto_region 9 with (first | (go_at_call 46; (with_reducible refine (Extend.calls _ _ l1 (l0.length : Int) t150 _ ?side1 ?side2 A10.out).mono ?_); (case side1 => repeat (first | exact (Kd.C_below HR1.out HB.out) | (with_reducible refine Kd.C_alloc ?_ _) | (with_reducible refine Kd.C_drewN ?_ _) | (with_reducible refine Kd.C_drew ?_))); (case side2 => exact HC1.out); rintro e w19 ⟨v151, rfl, ho0, hb⟩; have n0_ := Aside0.mk (Kd.V_lower (Kd.V_mono (ok' := fun k_ => True) ho0 (fun k_ hk_ => trivial)) (below_size (hb0_ HB.out))); have n1_ := Aside0.mk (below_step (hb0_ HB.out) hb); clear HB; have HO152 := n0_; have HB := n1_; clear n0_ n1_; (try clear hb); (try clear hb2); (try clear hk); (try clear hi); (try clear ho0); obtain ⟨Ao20, co20, eo20⟩ := Kd.V_slice HO152.out; subst eo20) | (go_at_call 44; (with_reducible refine (mask_Bits.calls kj4 _ _ t150 (wrap64 (Int.tmod a3 17)) t153 true _ ?side1 ?side2 A11.out).mono ?_); (case side1 => repeat (first | exact (Kd.V_reads' HO152.out).2.2 | (with_reducible refine Kd.C_alloc ?_ _) | (with_reducible refine Kd.C_drewN ?_ _) | (with_reducible refine Kd.C_drew ?_))); (case side2 => exact (Kd.V_reads' HO152.out).2.1); rintro e w21 ⟨v155, rfl, ho0, hb⟩; have n0_ := Aside0.mk (Kd.V_elder' (kV_ HO152.out) (Kd.R_base ho0) hb); have n1_ := Aside0.mk (Kd.R_lower ho0 (below_size (hb0_ HB.out))); have n2_ := Aside0.mk (below_step (hb0_ HB.out) hb); clear HO152 HB; have HO152 := n0_; have HO156 := n1_; have HB := n2_; clear n0_ n1_ n2_; (try clear hb); (try clear hb2); (try clear hk); (try clear hi); (try clear ho0); obtain ⟨Ao22, co22, eo22⟩ := Kd.R_slice HO156.out; subst eo22) | (go_at_call 47; (with_reducible refine (mask_Put.calls kj4 _ _ l0 _ _ t153 (Int.tmod (wrap64 (a2)) (ji15)) t159 _ ?side1 ?side2 ?side3 ?side4 A17.out).mono ?_); (case side1 => repeat (first | exact (Kd.C_below HR0.out HB.out) | (with_reducible refine Kd.C_alloc ?_ _) | (with_reducible refine Kd.C_drewN ?_ _) | (with_reducible refine Kd.C_drew ?_))); (case side2 => exact HC0.out); (case side3 => repeat (first | exact (Kd.R_reads' HO156.out).2.2 | (with_reducible refine Kd.C_alloc ?_ _) | (with_reducible refine Kd.C_drewN ?_ _) | (with_reducible refine Kd.C_drew ?_))); (case side4 => exact (Kd.R_reads' HO156.out).2.1); rintro e w23 ⟨v160, rfl, ho0, hb⟩; have n0_ := Aside0.mk (Kd.V_elder' (kV_ HO152.out) (Kd.R_base ho0) hb); have n1_ := Aside0.mk (Kd.R_below (kR_ HO156.out) hb); have n2_ := Aside0.mk (Kd.R_lower ho0 (below_size (hb0_ HB.out))); have n3_ := Aside0.mk (below_step (hb0_ HB.out) hb); clear HO152 HO156 HB; have HO152 := n0_; have HO156 := n1_; have HO161 := n2_; have HB := n3_; clear n0_ n1_ n2_ n3_; (try clear hb); (try clear hb2); (try clear hk); (try clear hi); (try clear ho0))))
              (try simp only [Act.put, List.setIfInBounds_toArray, List.set_cons_zero, List.set_cons_succ])
              go_cut [80] (fun v80 wc => ∃ (kq : Nat) (x80_17 : Bool), v80 = .bool x80_17 ∧ Aside0 (libevolutionlaw15_MaskNumbers.j1 kq l0 t153 t159 x80_17 = some r) ∧ Aside0 (kq ≤ kj4) ∧ Aside0 (Kd.R (Kd.int .i64) 3 wc w.heap.size (fun _ => True) (.slice Ao22 t153.length co22) t153) ∧ Aside0 (Kd.R (Kd.int .u8) 5 wc w.heap.size (fun _ => True) v160 t159) ∧ Aside0 (Below w.heap.size w wc))
              case first =>
                have H := HC18.out
                clear HC18
                by_cases c24 : (t159.length : Int) = (l0.length : Int)
                · rw [if_pos c24] at H
                  have c24b0 : ((t159.length : Int) == (l0.length : Int)) = true := beq_iff_eq.mpr c24
                  have c24b1 : ((t159.length : Int) != (l0.length : Int)) = false := bne_eq_false_iff_eq.mpr c24
                  have c24b2 : (t159.length == l0.length) = true := by first | simpa using c24 | (simp at c24 ⊢; omega)
                  clear c24
                  (first | rw [c24b0] | (simp only [i64_w, i32_w]; rw [c24b0]) | skip)
                  replace H := Option.bind_eq_some_iff.mp H
                  obtain ⟨t162, A250, H⟩ := H
                  replace H : (if t162 = (Int.tmod (wrap64 (a2)) (ji15)) then ((mask_Clear.f kj4 t159 t153).bind fun t163 => ((mask_Get.f kj4 t163 t153).bind fun t166 => (libevolutionlaw15_MaskNumbers.j1 kj4 l0 t153 t159 (t166 != 0)))) else (libevolutionlaw15_MaskNumbers.j1 kj4 l0 t153 t159 true)) = some r := H
                  have A25 := Aside0.mk A250
                  clear A250
                  by_cases c26 : t162 = (Int.tmod (wrap64 (a2)) (ji15))
                  · rw [if_pos c26] at H
                    have c26b0 : (t162 == (Int.tmod (wrap64 (a2)) (ji15))) = true := beq_iff_eq.mpr c26
                    have c26b1 : (t162 != (Int.tmod (wrap64 (a2)) (ji15))) = false := bne_eq_false_iff_eq.mpr c26
                    clear c26
                    replace H := Option.bind_eq_some_iff.mp H
                    obtain ⟨t163, A270, H⟩ := H
                    replace H : ((mask_Get.f kj4 t163 t153).bind fun t166 => (libevolutionlaw15_MaskNumbers.j1 kj4 l0 t153 t159 (t166 != 0))) = some r := H
                    have A27 := Aside0.mk A270
                    clear A270
                    replace H := Option.bind_eq_some_iff.mp H
                    obtain ⟨t166, A280, H⟩ := H
                    replace H : (libevolutionlaw15_MaskNumbers.j1 kj4 l0 t153 t159 (t166 != 0)) = some r := H
                    have A28 := Aside0.mk A280
                    clear A280
                    have H' := Aside0.mk H
                    clear H
                    obtain ⟨Ao29, co29, eo29⟩ := Kd.R_slice HO161.out
                    subst eo29
                    go_wp2_with (first | (go_at_call 48; (with_reducible refine (mask_Get.calls kj4 _ _ t159 _ _ t153 t162 _ ?side1 ?side2 ?side3 ?side4 A25.out).mono ?_); (case side1 => repeat (first | exact (Kd.R_reads' HO161.out).2.2 | (with_reducible refine Kd.C_alloc ?_ _) | (with_reducible refine Kd.C_drewN ?_ _) | (with_reducible refine Kd.C_drew ?_))); (case side2 => exact (Kd.R_reads' HO161.out).2.1); (case side3 => repeat (first | exact (Kd.R_reads' HO156.out).2.2 | (with_reducible refine Kd.C_alloc ?_ _) | (with_reducible refine Kd.C_drewN ?_ _) | (with_reducible refine Kd.C_drew ?_))); (case side4 => exact (Kd.R_reads' HO156.out).2.1); rintro e w30 ⟨rfl, hb⟩; have n0_ := Aside0.mk (Kd.V_below (kV_ HO152.out) hb); have n1_ := Aside0.mk (Kd.R_below (kR_ HO156.out) hb); have n2_ := Aside0.mk (Kd.R_below (kR_ HO161.out) hb); have n3_ := Aside0.mk (below_step (hb0_ HB.out) hb); clear HO152 HO156 HO161 HB; have HO152 := n0_; have HO156 := n1_; have HO161 := n2_; have HB := n3_; clear n0_ n1_ n2_ n3_; (try clear hb); (try clear hb2); (try clear hk); (try clear hi)) | (go_at_call 49; (with_reducible refine (mask_Clear.calls kj4 _ _ t159 _ _ t153 t163 _ ?side1 ?side2 ?side3 ?side4 A27.out).mono ?_); (case side1 => repeat (first | exact (Kd.R_reads' HO161.out).2.2 | (with_reducible refine Kd.C_alloc ?_ _) | (with_reducible refine Kd.C_drewN ?_ _) | (with_reducible refine Kd.C_drew ?_))); (case side2 => exact (Kd.R_reads' HO161.out).2.1); (case side3 => repeat (first | exact (Kd.R_reads' HO156.out).2.2 | (with_reducible refine Kd.C_alloc ?_ _) | (with_reducible refine Kd.C_drewN ?_ _) | (with_reducible refine Kd.C_drew ?_))); (case side4 => exact (Kd.R_reads' HO156.out).2.1); rintro e w31 ⟨v164, rfl, ho0, hb⟩; have n0_ := Aside0.mk (Kd.V_elder' (kV_ HO152.out) (Kd.R_base ho0) hb); have n1_ := Aside0.mk (Kd.R_below (kR_ HO156.out) hb); have n2_ := Aside0.mk (Kd.R_elder' (kR_ HO161.out) (Kd.R_base ho0) hb); have n3_ := Aside0.mk (Kd.R_lower (Kd.R_new' ho0 (Kd.R_lt (kR_ HO161.out))) (below_size (hb0_ HB.out))); have n4_ := Aside0.mk (below_step (hb0_ HB.out) hb); clear HO152 HO156 HO161 HB; have HO152 := n0_; have HO156 := n1_; have HO161 := n2_; have HO165 := n3_; have HB := n4_; clear n0_ n1_ n2_ n3_ n4_; (try clear hb); (try clear hb2); (try clear hk); (try clear hi); (try clear ho0); obtain ⟨Ao32, co32, eo32⟩ := Kd.R_slice HO165.out; subst eo32) | (go_at_call 48; (with_reducible refine (mask_Get.calls kj4 _ _ t163 _ _ t153 t166 _ ?side1 ?side2 ?side3 ?side4 A28.out).mono ?_); (case side1 => repeat (first | exact (Kd.R_reads' HO165.out).2.2 | (with_reducible refine Kd.C_alloc ?_ _) | (with_reducible refine Kd.C_drewN ?_ _) | (with_reducible refine Kd.C_drew ?_))); (case side2 => exact (Kd.R_reads' HO165.out).2.1); (case side3 => repeat (first | exact (Kd.R_reads' HO156.out).2.2 | (with_reducible refine Kd.C_alloc ?_ _) | (with_reducible refine Kd.C_drewN ?_ _) | (with_reducible refine Kd.C_drew ?_))); (case side4 => exact (Kd.R_reads' HO156.out).2.1); rintro e w33 ⟨rfl, hb⟩; have n0_ := Aside0.mk (Kd.V_below (kV_ HO152.out) hb); have n1_ := Aside0.mk (Kd.R_below (kR_ HO156.out) hb); have n2_ := Aside0.mk (Kd.R_below (kR_ HO161.out) hb); have n3_ := Aside0.mk (Kd.R_below (kR_ HO165.out) hb); have n4_ := Aside0.mk (below_step (hb0_ HB.out) hb); clear HO152 HO156 HO161 HO165 HB; have HO152 := n0_; have HO156 := n1_; have HO161 := n2_; have HO165 := n3_; have HB := n4_; clear n0_ n1_ n2_ n3_ n4_; (try clear hb); (try clear hb2); (try clear hk); (try clear hi)))
                    repeat (go_quiet (first | (go_at_call 48; (with_reducible refine (mask_Get.calls kj4 _ _ t159 _ _ t153 t162 _ ?side1 ?side2 ?side3 ?side4 A25.out).mono ?_); (case side1 => repeat (first | exact (Kd.R_reads' HO161.out).2.2 | (with_reducible refine Kd.C_alloc ?_ _) | (with_reducible refine Kd.C_drewN ?_ _) | (with_reducible refine Kd.C_drew ?_))); (case side2 => exact (Kd.R_reads' HO161.out).2.1); (case side3 => repeat (first | exact (Kd.R_reads' HO156.out).2.2 | (with_reducible refine Kd.C_alloc ?_ _) | (with_reducible refine Kd.C_drewN ?_ _) | (with_reducible refine Kd.C_drew ?_))); (case side4 => exact (Kd.R_reads' HO156.out).2.1); rintro e w30 ⟨rfl, hb⟩; have n0_ := Aside0.mk (Kd.V_below (kV_ HO152.out) hb); have n1_ := Aside0.mk (Kd.R_below (kR_ HO156.out) hb); have n2_ := Aside0.mk (Kd.R_below (kR_ HO161.out) hb); have n3_ := Aside0.mk (below_step (hb0_ HB.out) hb); clear HO152 HO156 HO161 HB; have HO152 := n0_; have HO156 := n1_; have HO161 := n2_; have HB := n3_; clear n0_ n1_ n2_ n3_; (try clear hb); (try clear hb2); (try clear hk); (try clear hi)) | (go_at_call 49; (with_reducible refine (mask_Clear.calls kj4 _ _ t159 _ _ t153 t163 _ ?side1 ?side2 ?side3 ?side4 A27.out).mono ?_); (case side1 => repeat (first | exact (Kd.R_reads' HO161.out).2.2 | (with_reducible refine Kd.C_alloc ?_ _) | (with_reducible refine Kd.C_drewN ?_ _) | (with_reducible refine Kd.C_drew ?_))); (case side2 => exact (Kd.R_reads' HO161.out).2.1); (case side3 => repeat (first | exact (Kd.R_reads' HO156.out).2.2 | (with_reducible refine Kd.C_alloc ?_ _) | (with_reducible refine Kd.C_drewN ?_ _) | (with_reducible refine Kd.C_drew ?_))); (case side4 => exact (Kd.R_reads' HO156.out).2.1); rintro e w31 ⟨v164, rfl, ho0, hb⟩; have n0_ := Aside0.mk (Kd.V_elder' (kV_ HO152.out) (Kd.R_base ho0) hb); have n1_ := Aside0.mk (Kd.R_below (kR_ HO156.out) hb); have n2_ := Aside0.mk (Kd.R_elder' (kR_ HO161.out) (Kd.R_base ho0) hb); have n3_ := Aside0.mk (Kd.R_lower (Kd.R_new' ho0 (Kd.R_lt (kR_ HO161.out))) (below_size (hb0_ HB.out))); have n4_ := Aside0.mk (below_step (hb0_ HB.out) hb); clear HO152 HO156 HO161 HB; have HO152 := n0_; have HO156 := n1_; have HO161 := n2_; have HO165 := n3_; have HB := n4_; clear n0_ n1_ n2_ n3_ n4_; (try clear hb); (try clear hb2); (try clear hk); (try clear hi); (try clear ho0); obtain ⟨Ao32, co32, eo32⟩ := Kd.R_slice HO165.out; subst eo32) | (go_at_call 48; (with_reducible refine (mask_Get.calls kj4 _ _ t163 _ _ t153 t166 _ ?side1 ?side2 ?side3 ?side4 A28.out).mono ?_); (case side1 => repeat (first | exact (Kd.R_reads' HO165.out).2.2 | (with_reducible refine Kd.C_alloc ?_ _) | (with_reducible refine Kd.C_drewN ?_ _) | (with_reducible refine Kd.C_drew ?_))); (case side2 => exact (Kd.R_reads' HO165.out).2.1); (case side3 => repeat (first | exact (Kd.R_reads' HO156.out).2.2 | (with_reducible refine Kd.C_alloc ?_ _) | (with_reducible refine Kd.C_drewN ?_ _) | (with_reducible refine Kd.C_drew ?_))); (case side4 => exact (Kd.R_reads' HO156.out).2.1); rintro e w33 ⟨rfl, hb⟩; have n0_ := Aside0.mk (Kd.V_below (kV_ HO152.out) hb); have n1_ := Aside0.mk (Kd.R_below (kR_ HO156.out) hb); have n2_ := Aside0.mk (Kd.R_below (kR_ HO161.out) hb); have n3_ := Aside0.mk (Kd.R_below (kR_ HO165.out) hb); have n4_ := Aside0.mk (below_step (hb0_ HB.out) hb); clear HO152 HO156 HO161 HO165 HB; have HO152 := n0_; have HO156 := n1_; have HO161 := n2_; have HO165 := n3_; have HB := n4_; clear n0_ n1_ n2_ n3_ n4_; (try clear hb); (try clear hb2); (try clear hk); (try clear hi))); try go_wp2_with (first | (go_at_call 48; (with_reducible refine (mask_Get.calls kj4 _ _ t159 _ _ t153 t162 _ ?side1 ?side2 ?side3 ?side4 A25.out).mono ?_); (case side1 => repeat (first | exact (Kd.R_reads' HO161.out).2.2 | (with_reducible refine Kd.C_alloc ?_ _) | (with_reducible refine Kd.C_drewN ?_ _) | (with_reducible refine Kd.C_drew ?_))); (case side2 => exact (Kd.R_reads' HO161.out).2.1); (case side3 => repeat (first | exact (Kd.R_reads' HO156.out).2.2 | (with_reducible refine Kd.C_alloc ?_ _) | (with_reducible refine Kd.C_drewN ?_ _) | (with_reducible refine Kd.C_drew ?_))); (case side4 => exact (Kd.R_reads' HO156.out).2.1); rintro e w30 ⟨rfl, hb⟩; have n0_ := Aside0.mk (Kd.V_below (kV_ HO152.out) hb); have n1_ := Aside0.mk (Kd.R_below (kR_ HO156.out) hb); have n2_ := Aside0.mk (Kd.R_below (kR_ HO161.out) hb); have n3_ := Aside0.mk (below_step (hb0_ HB.out) hb); clear HO152 HO156 HO161 HB; have HO152 := n0_; have HO156 := n1_; have HO161 := n2_; have HB := n3_; clear n0_ n1_ n2_ n3_; (try clear hb); (try clear hb2); (try clear hk); (try clear hi)) | (go_at_call 49; (with_reducible refine (mask_Clear.calls kj4 _ _ t159 _ _ t153 t163 _ ?side1 ?side2 ?side3 ?side4 A27.out).mono ?_); (case side1 => repeat (first | exact (Kd.R_reads' HO161.out).2.2 | (with_reducible refine Kd.C_alloc ?_ _) | (with_reducible refine Kd.C_drewN ?_ _) | (with_reducible refine Kd.C_drew ?_))); (case side2 => exact (Kd.R_reads' HO161.out).2.1); (case side3 => repeat (first | exact (Kd.R_reads' HO156.out).2.2 | (with_reducible refine Kd.C_alloc ?_ _) | (with_reducible refine Kd.C_drewN ?_ _) | (with_reducible refine Kd.C_drew ?_))); (case side4 => exact (Kd.R_reads' HO156.out).2.1); rintro e w31 ⟨v164, rfl, ho0, hb⟩; have n0_ := Aside0.mk (Kd.V_elder' (kV_ HO152.out) (Kd.R_base ho0) hb); have n1_ := Aside0.mk (Kd.R_below (kR_ HO156.out) hb); have n2_ := Aside0.mk (Kd.R_elder' (kR_ HO161.out) (Kd.R_base ho0) hb); have n3_ := Aside0.mk (Kd.R_lower (Kd.R_new' ho0 (Kd.R_lt (kR_ HO161.out))) (below_size (hb0_ HB.out))); have n4_ := Aside0.mk (below_step (hb0_ HB.out) hb); clear HO152 HO156 HO161 HB; have HO152 := n0_; have HO156 := n1_; have HO161 := n2_; have HO165 := n3_; have HB := n4_; clear n0_ n1_ n2_ n3_ n4_; (try clear hb); (try clear hb2); (try clear hk); (try clear hi); (try clear ho0); obtain ⟨Ao32, co32, eo32⟩ := Kd.R_slice HO165.out; subst eo32) | (go_at_call 48; (with_reducible refine (mask_Get.calls kj4 _ _ t163 _ _ t153 t166 _ ?side1 ?side2 ?side3 ?side4 A28.out).mono ?_); (case side1 => repeat (first | exact (Kd.R_reads' HO165.out).2.2 | (with_reducible refine Kd.C_alloc ?_ _) | (with_reducible refine Kd.C_drewN ?_ _) | (with_reducible refine Kd.C_drew ?_))); (case side2 => exact (Kd.R_reads' HO165.out).2.1); (case side3 => repeat (first | exact (Kd.R_reads' HO156.out).2.2 | (with_reducible refine Kd.C_alloc ?_ _) | (with_reducible refine Kd.C_drewN ?_ _) | (with_reducible refine Kd.C_drew ?_))); (case side4 => exact (Kd.R_reads' HO156.out).2.1); rintro e w33 ⟨rfl, hb⟩; have n0_ := Aside0.mk (Kd.V_below (kV_ HO152.out) hb); have n1_ := Aside0.mk (Kd.R_below (kR_ HO156.out) hb); have n2_ := Aside0.mk (Kd.R_below (kR_ HO161.out) hb); have n3_ := Aside0.mk (Kd.R_below (kR_ HO165.out) hb); have n4_ := Aside0.mk (below_step (hb0_ HB.out) hb); clear HO152 HO156 HO161 HO165 HB; have HO152 := n0_; have HO156 := n1_; have HO161 := n2_; have HO165 := n3_; have HB := n4_; clear n0_ n1_ n2_ n3_ n4_; (try clear hb); (try clear hb2); (try clear hk); (try clear hi))))
                    go_meet
                    case rel => exact ⟨_, ((t166 != 0)), (by first | rfl | (simp; done) | (simp [*]; done)), H', ⟨by have := HJ4.out; first | omega | exact Nat.le_refl _⟩, ⟨by (with_reducible repeat (first | apply Kd.R_alloc | apply Kd.R_drewN | apply Kd.R_drew)); exact HO156.out⟩, ⟨by (with_reducible repeat (first | apply Kd.R_alloc | apply Kd.R_drewN | apply Kd.R_drew)); exact Kd.R_mono HO161.out (fun _ hk => trivial)⟩, ⟨by repeat (first | (with_reducible first | exact HB.out | apply below_alloc | apply pw_below_drewN | apply below_drew1) | exact HB.out)⟩⟩
                  · rw [if_neg c26] at H
                    have c26b0 : (t162 == (Int.tmod (wrap64 (a2)) (ji15))) = false := beq_eq_false_iff_ne.mpr c26
                    have c26b1 : (t162 != (Int.tmod (wrap64 (a2)) (ji15))) = true := bne_iff_ne.mpr c26
                    have H' := Aside0.mk H
                    clear H
                    obtain ⟨Ao34, co34, eo34⟩ := Kd.R_slice HO161.out
                    subst eo34
                    go_wp2_with (first | (go_at_call 48; (with_reducible refine (mask_Get.calls kj4 _ _ t159 _ _ t153 t162 _ ?side1 ?side2 ?side3 ?side4 A25.out).mono ?_); (case side1 => repeat (first | exact (Kd.R_reads' HO161.out).2.2 | (with_reducible refine Kd.C_alloc ?_ _) | (with_reducible refine Kd.C_drewN ?_ _) | (with_reducible refine Kd.C_drew ?_))); (case side2 => exact (Kd.R_reads' HO161.out).2.1); (case side3 => repeat (first | exact (Kd.R_reads' HO156.out).2.2 | (with_reducible refine Kd.C_alloc ?_ _) | (with_reducible refine Kd.C_drewN ?_ _) | (with_reducible refine Kd.C_drew ?_))); (case side4 => exact (Kd.R_reads' HO156.out).2.1); rintro e w35 ⟨rfl, hb⟩; have n0_ := Aside0.mk (Kd.V_below (kV_ HO152.out) hb); have n1_ := Aside0.mk (Kd.R_below (kR_ HO156.out) hb); have n2_ := Aside0.mk (Kd.R_below (kR_ HO161.out) hb); have n3_ := Aside0.mk (below_step (hb0_ HB.out) hb); clear HO152 HO156 HO161 HB; have HO152 := n0_; have HO156 := n1_; have HO161 := n2_; have HB := n3_; clear n0_ n1_ n2_ n3_; (try clear hb); (try clear hb2); (try clear hk); (try clear hi)))
                    repeat (go_quiet (first | (go_at_call 48; (with_reducible refine (mask_Get.calls kj4 _ _ t159 _ _ t153 t162 _ ?side1 ?side2 ?side3 ?side4 A25.out).mono ?_); (case side1 => repeat (first | exact (Kd.R_reads' HO161.out).2.2 | (with_reducible refine Kd.C_alloc ?_ _) | (with_reducible refine Kd.C_drewN ?_ _) | (with_reducible refine Kd.C_drew ?_))); (case side2 => exact (Kd.R_reads' HO161.out).2.1); (case side3 => repeat (first | exact (Kd.R_reads' HO156.out).2.2 | (with_reducible refine Kd.C_alloc ?_ _) | (with_reducible refine Kd.C_drewN ?_ _) | (with_reducible refine Kd.C_drew ?_))); (case side4 => exact (Kd.R_reads' HO156.out).2.1); rintro e w35 ⟨rfl, hb⟩; have n0_ := Aside0.mk (Kd.V_below (kV_ HO152.out) hb); have n1_ := Aside0.mk (Kd.R_below (kR_ HO156.out) hb); have n2_ := Aside0.mk (Kd.R_below (kR_ HO161.out) hb); have n3_ := Aside0.mk (below_step (hb0_ HB.out) hb); clear HO152 HO156 HO161 HB; have HO152 := n0_; have HO156 := n1_; have HO161 := n2_; have HB := n3_; clear n0_ n1_ n2_ n3_; (try clear hb); (try clear hb2); (try clear hk); (try clear hi))); try go_wp2_with (first | (go_at_call 48; (with_reducible refine (mask_Get.calls kj4 _ _ t159 _ _ t153 t162 _ ?side1 ?side2 ?side3 ?side4 A25.out).mono ?_); (case side1 => repeat (first | exact (Kd.R_reads' HO161.out).2.2 | (with_reducible refine Kd.C_alloc ?_ _) | (with_reducible refine Kd.C_drewN ?_ _) | (with_reducible refine Kd.C_drew ?_))); (case side2 => exact (Kd.R_reads' HO161.out).2.1); (case side3 => repeat (first | exact (Kd.R_reads' HO156.out).2.2 | (with_reducible refine Kd.C_alloc ?_ _) | (with_reducible refine Kd.C_drewN ?_ _) | (with_reducible refine Kd.C_drew ?_))); (case side4 => exact (Kd.R_reads' HO156.out).2.1); rintro e w35 ⟨rfl, hb⟩; have n0_ := Aside0.mk (Kd.V_below (kV_ HO152.out) hb); have n1_ := Aside0.mk (Kd.R_below (kR_ HO156.out) hb); have n2_ := Aside0.mk (Kd.R_below (kR_ HO161.out) hb); have n3_ := Aside0.mk (below_step (hb0_ HB.out) hb); clear HO152 HO156 HO161 HB; have HO152 := n0_; have HO156 := n1_; have HO161 := n2_; have HB := n3_; clear n0_ n1_ n2_ n3_; (try clear hb); (try clear hb2); (try clear hk); (try clear hi))))
                    go_meet
                    case rel => exact ⟨_, (true), (by first | rfl | (simp; done) | (simp [*]; done)), H', ⟨by have := HJ4.out; first | omega | exact Nat.le_refl _⟩, ⟨by (with_reducible repeat (first | apply Kd.R_alloc | apply Kd.R_drewN | apply Kd.R_drew)); exact HO156.out⟩, ⟨by (with_reducible repeat (first | apply Kd.R_alloc | apply Kd.R_drewN | apply Kd.R_drew)); exact HO161.out⟩, ⟨by repeat (first | (with_reducible first | exact HB.out | apply below_alloc | apply pw_below_drewN | apply below_drew1) | exact HB.out)⟩⟩
                · rw [if_neg c24] at H
                  have c24b0 : ((t159.length : Int) == (l0.length : Int)) = false := beq_eq_false_iff_ne.mpr c24
                  have c24b1 : ((t159.length : Int) != (l0.length : Int)) = true := bne_iff_ne.mpr c24
                  have c24b2 : (t159.length == l0.length) = false := by first | simpa using c24 | (simp at c24 ⊢; omega)
                  (first | rw [c24b0] | (simp only [i64_w, i32_w]; rw [c24b0]) | skip)
                  have H' := Aside0.mk H
                  clear H
                  obtain ⟨Ao36, co36, eo36⟩ := Kd.R_slice HO161.out
                  subst eo36
                  go_wp2
                  repeat (go_quiet (fail); try go_wp2)
                  go_meet
                  case rel => exact ⟨_, (true), (by first | rfl | (simp; done) | (simp [*]; done)), H', ⟨by have := HJ4.out; first | omega | exact Nat.le_refl _⟩, ⟨by (with_reducible repeat (first | apply Kd.R_alloc | apply Kd.R_drewN | apply Kd.R_drew)); exact HO156.out⟩, ⟨by (with_reducible repeat (first | apply Kd.R_alloc | apply Kd.R_drewN | apply Kd.R_drew)); exact HO161.out⟩, ⟨by repeat (first | (with_reducible first | exact HB.out | apply below_alloc | apply pw_below_drewN | apply below_drew1) | exact HB.out)⟩⟩
              case rest =>
                clear HC18
                try clear c1
                try clear c2
                try clear p2
                try clear c6
                try clear c6b0
                try clear c6b1
                try clear c6b2
                try clear p6
                try clear c7
                try clear c9
                try clear c12
                try clear c14
                try clear c14b0
                try clear c14b1
                try clear c16
                try clear c16b0
                try clear c16b1
                try clear c24
                try clear c24b0
                try clear c24b1
                try clear c24b2
                try clear c26
                try clear c26b0
                try clear c26b1
                try clear p2
                obtain ⟨kq, x80_17, rfl, HA, HJ17, HO_10, HO_13, HB⟩ := hcut
                cases kq with
                | zero => exact absurd HA.out (by simp [libevolutionlaw15_MaskNumbers.j1])
                | succ kj17 =>
                  have H := HA.out
                  clear HA
                  simp only [libevolutionlaw15_MaskNumbers.j1] at H
                  by_cases c37 : x80_17 = true
                  · subst c37
                    have H1 : (some false) = some r := by rw [if_pos rfl] at H; exact H
                    clear H
                    have H := H1
                    clear H1
                    obtain rfl := Option.some.inj H
                    go_wp2
                    repeat (go_quiet (fail); try go_wp2)
                    go_ret
                    exact ⟨by first | rfl | (simp [errW_none, errW_some] <;> rfl) | (simp only [← hji13, ← hji15]; first | rfl | (simp [errW_none, errW_some] <;> rfl)) | (simp [*, errW_none, errW_some] <;> rfl), by repeat (first | (with_reducible first | exact HB.out | apply below_alloc | apply pw_below_drewN | apply below_drew1) | exact HB.out)⟩
                  · replace c37 := Bool.eq_false_iff.mpr c37
                    subst c37
                    have H1 : (libevolutionlaw15_MaskNumbers.l0 kj17 l0 t153 t159 0) = some r := by rw [if_neg (show ¬ (false = true) by decide)] at H; exact H
                    clear H
                    have H := H1
                    clear H1
                    have H' := Aside0.mk H
                    clear H
                    go_wp2
                    repeat (go_quiet (fail); try go_wp2)
                    go_loopg [14] kj17 (fun kq v14 w' => ∃ (x14_3 : Int), v14 = .int .i64 x14_3 ∧ Aside0 (libevolutionlaw15_MaskNumbers.l0 kq l0 t153 t159 x14_3 = some r) ∧ Aside0 (kq ≤ kj17) ∧ Aside0 (Kd.R (Kd.int .i64) 3 w' w.heap.size (fun _ => True) (.slice Ao22 t153.length co22) t153) ∧ Aside0 (Kd.R (Kd.int .u8) 5 w' w.heap.size (fun _ => True) v160 t159) ∧ Aside0 (Below w.heap.size w w'))
                    case atStart => exact ⟨(0), (by first | rfl | (simp; done) | (simp [*]; done)), H', ⟨Nat.le_refl _⟩, ⟨by (with_reducible repeat (first | apply Kd.R_alloc | apply Kd.R_drewN | apply Kd.R_drew)); exact HO_10.out⟩, ⟨by (with_reducible repeat (first | apply Kd.R_alloc | apply Kd.R_drewN | apply Kd.R_drew)); exact HO_13.out⟩, ⟨by repeat (first | (with_reducible first | exact HB.out | apply below_alloc | apply pw_below_drewN | apply below_drew1) | exact HB.out)⟩⟩
                    case round =>
                      clear H'
                      try clear c1
                      try clear c2
                      try clear p2
                      try clear c3
                      try clear c6
                      try clear c6b0
                      try clear c6b1
                      try clear c6b2
                      try clear p6
                      try clear c7
                      try clear c9
                      try clear c12
                      try clear c14
                      try clear c14b0
                      try clear c14b1
                      try clear c16
                      try clear c16b0
                      try clear c16b1
                      try clear c24
                      try clear c24b0
                      try clear c24b1
                      try clear c24b2
                      try clear c26
                      try clear c26b0
                      try clear c26b1
                      try clear c37
                      try clear p2
                      try clear p6
                      obtain ⟨x14_3, rfl, HA, HK3, HO_10, HO_13, HB⟩ := hrel
                      cases gk with
                      | zero => exact absurd HA.out (by simp [libevolutionlaw15_MaskNumbers.l0])
                      | succ k3 =>
                        have H := HA.out
                        clear HA
                        simp only [libevolutionlaw15_MaskNumbers.l0] at H
                        by_cases c38 : x14_3 < (wrap64 (8 * (l0.length : Int)))
                        · rw [if_pos c38] at H
                          have c38b0 : decide (x14_3 < (wrap64 (8 * (l0.length : Int)))) = true := decide_eq_true c38
                          clear c38
                          have H' := Aside0.mk H
                          clear H
                          go_wp2
                          repeat (go_quiet (fail); try go_wp2)
                          go_loopg [15, 90] k3 (fun kq v15 v90 w' => ∃ (x15_4 : Bool) (x90_4 : Int), v15 = .bool x15_4 ∧ v90 = .int .i64 x90_4 ∧ Aside0 (libevolutionlaw15_MaskNumbers.l1 kq l0 t153 t159 x14_3 x15_4 t153 (t153.length : Int) x90_4 = some r) ∧ Aside0 (kq ≤ k3) ∧ Aside0 (Kd.R (Kd.int .i64) 3 w' w.heap.size (fun _ => True) (.slice Ao22 t153.length co22) t153) ∧ Aside0 (Kd.R (Kd.int .u8) 5 w' w.heap.size (fun _ => True) v160 t159) ∧ Aside0 (Kd.R (Kd.int .i64) 3 w' w.heap.size (fun _ => True) (.slice Ao22 t153.length co22) t153) ∧ Aside0 (Below w.heap.size w w'))
                          case atStart => exact ⟨(false), (0), (by first | rfl | (simp; done) | (simp [*]; done)), (by first | rfl | (simp; done) | (simp [*]; done)), H', ⟨Nat.le_refl _⟩, ⟨by (with_reducible repeat (first | apply Kd.R_alloc | apply Kd.R_drewN | apply Kd.R_drew)); exact HO_10.out⟩, ⟨by (with_reducible repeat (first | apply Kd.R_alloc | apply Kd.R_drewN | apply Kd.R_drew)); exact HO_13.out⟩, ⟨by (with_reducible repeat (first | apply Kd.R_alloc | apply Kd.R_drewN | apply Kd.R_drew)); exact HO_10.out⟩, ⟨by repeat (first | (with_reducible first | exact HB.out | apply below_alloc | apply pw_below_drewN | apply below_drew1) | exact HB.out)⟩⟩
                          case round =>
                            clear H'
                            try clear c1
                            try clear c2
                            try clear p2
                            try clear c3
                            try clear c6
                            try clear c6b0
                            try clear c6b1
                            try clear c6b2
                            try clear p6
                            try clear c7
                            try clear c9
                            try clear c12
                            try clear c14
                            try clear c14b0
                            try clear c14b1
                            try clear c16
                            try clear c16b0
                            try clear c16b1
                            try clear c24
                            try clear c24b0
                            try clear c24b1
                            try clear c24b2
                            try clear c26
                            try clear c26b0
                            try clear c26b1
                            try clear c37
                            try clear c38
                            try clear c38b0
                            try clear p2
                            try clear p6
                            obtain ⟨x15_4, x90_4, rfl, rfl, HA, HK4, HO_10, HO_13, HO_88, HB⟩ := hrel
                            cases gk with
                            | zero => exact absurd HA.out (by simp [libevolutionlaw15_MaskNumbers.l1])
                            | succ k4 =>
                              have H := HA.out
                              clear HA
                              simp only [libevolutionlaw15_MaskNumbers.l1] at H
                              by_cases c39 : x90_4 < (t153.length : Int)
                              · rw [if_pos c39] at H
                                have c39b0 : decide (x90_4 < (t153.length : Int)) = true := decide_eq_true c39
                                clear c39
                                by_cases c40 : 0 ≤ x90_4
                                · rw [if_pos c40] at H
                                  have c40b0 : decide (0 ≤ x90_4) = true := decide_eq_true c40
                                  clear c40
                                  by_cases c41 : x90_4 < (t153.length : Int)
                                  · rw [if_pos c41] at H
                                    have c41b0 : decide (x90_4 < (t153.length : Int)) = true := decide_eq_true c41
                                    clear c41
                                    by_cases c42 : x15_4 = true
                                    · subst c42
                                      have H1 : (libevolutionlaw15_MaskNumbers.l1 k4 l0 t153 t159 x14_3 true t153 (t153.length : Int) (wrap64 (x90_4 + 1))) = some r := by rw [if_pos rfl] at H; exact H
                                      clear H
                                      have H := H1
                                      clear H1
                                      have H' := Aside0.mk H
                                      clear H
                                      have p168 : 0 ≤ (x90_4 : Int) := od_
                                      have q168 : x90_4 < (t153.length : Int) := od_
                                      obtain ⟨ad168, e168, hx168_0⟩ := Kd.at_int (Kd.R_reads' HO_88.out).2.2 x90_4 p168 q168
                                      cases e168
                                      replace p168 := eq_true p168
                                      replace q168 := eq_true q168
                                      go_wp2
                                      repeat (go_quiet (fail); try go_wp2)
                                      go_roundg k4
                                      case measure => have := HJ4.out; have := HJ17.out; have := HK3.out; have := HK4.out; omega
                                      case rel => exact ⟨(true), (wrap64 (x90_4 + 1)), (by first | rfl | (simp; done) | (simp [*]; done)), (by first | rfl | (simp; done) | (simp [*]; done)), H', ⟨by have := HJ4.out; have := HJ17.out; have := HK3.out; have := HK4.out; omega⟩, ⟨by (with_reducible repeat (first | apply Kd.R_alloc | apply Kd.R_drewN | apply Kd.R_drew)); exact HO_10.out⟩, ⟨by (with_reducible repeat (first | apply Kd.R_alloc | apply Kd.R_drewN | apply Kd.R_drew)); exact HO_13.out⟩, ⟨by (with_reducible repeat (first | apply Kd.R_alloc | apply Kd.R_drewN | apply Kd.R_drew)); exact HO_88.out⟩, ⟨by repeat (first | (with_reducible first | exact HB.out | apply below_alloc | apply pw_below_drewN | apply below_drew1) | exact HB.out)⟩⟩
                                    · replace c42 := Bool.eq_false_iff.mpr c42
                                      subst c42
                                      have H1 : (libevolutionlaw15_MaskNumbers.l1 k4 l0 t153 t159 x14_3 (x14_3 == (rd t153 x90_4)) t153 (t153.length : Int) (wrap64 (x90_4 + 1))) = some r := by rw [if_neg (show ¬ (false = true) by decide)] at H; exact H
                                      clear H
                                      have H := H1
                                      clear H1
                                      have H' := Aside0.mk H
                                      clear H
                                      have p168 : 0 ≤ (x90_4 : Int) := od_
                                      have q168 : x90_4 < (t153.length : Int) := od_
                                      obtain ⟨ad168, e168, hx168_0⟩ := Kd.at_int (Kd.R_reads' HO_88.out).2.2 x90_4 p168 q168
                                      cases e168
                                      replace p168 := eq_true p168
                                      replace q168 := eq_true q168
                                      go_wp2
                                      repeat (go_quiet (fail); try go_wp2)
                                      go_roundg k4
                                      case measure => have := HJ4.out; have := HJ17.out; have := HK3.out; have := HK4.out; omega
                                      case rel => exact ⟨((x14_3 == (rd t153 x90_4))), (wrap64 (x90_4 + 1)), (by first | rfl | (simp; done) | (simp [*]; done)), (by first | rfl | (simp; done) | (simp [*]; done)), H', ⟨by have := HJ4.out; have := HJ17.out; have := HK3.out; have := HK4.out; omega⟩, ⟨by (with_reducible repeat (first | apply Kd.R_alloc | apply Kd.R_drewN | apply Kd.R_drew)); exact HO_10.out⟩, ⟨by (with_reducible repeat (first | apply Kd.R_alloc | apply Kd.R_drewN | apply Kd.R_drew)); exact HO_13.out⟩, ⟨by (with_reducible repeat (first | apply Kd.R_alloc | apply Kd.R_drewN | apply Kd.R_drew)); exact HO_88.out⟩, ⟨by repeat (first | (with_reducible first | exact HB.out | apply below_alloc | apply pw_below_drewN | apply below_drew1) | exact HB.out)⟩⟩
                                  · rw [if_neg c41] at H
                                    exact absurd H (by simp)
                                · rw [if_neg c40] at H
                                  exact absurd H (by simp)
                              · rw [if_neg c39] at H
                                have c39b0 : decide (x90_4 < (t153.length : Int)) = false := decide_eq_false c39
                                clear c39
                                by_cases c43 : x15_4 = true
                                · subst c43
                                  have H1 : (libevolutionlaw15_MaskNumbers.l0 k4 l0 t153 t159 (wrap64 (x14_3 + 1))) = some r := by rw [if_pos rfl] at H; exact H
                                  clear H
                                  have H := H1
                                  clear H1
                                  have H' := Aside0.mk H
                                  clear H
                                  go_wp2
                                  repeat (go_quiet (fail); try go_wp2)
                                  go_roundg k4
                                  case measure => have := HJ4.out; have := HJ17.out; have := HK3.out; have := HK4.out; omega
                                  case rel => exact ⟨(wrap64 (x14_3 + 1)), (by first | rfl | (simp; done) | (simp [*]; done)), H', ⟨by have := HJ4.out; have := HJ17.out; have := HK3.out; have := HK4.out; omega⟩, ⟨by (with_reducible repeat (first | apply Kd.R_alloc | apply Kd.R_drewN | apply Kd.R_drew)); exact HO_10.out⟩, ⟨by (with_reducible repeat (first | apply Kd.R_alloc | apply Kd.R_drewN | apply Kd.R_drew)); exact HO_13.out⟩, ⟨by repeat (first | (with_reducible first | exact HB.out | apply below_alloc | apply pw_below_drewN | apply below_drew1) | exact HB.out)⟩⟩
                                · replace c43 := Bool.eq_false_iff.mpr c43
                                  subst c43
                                  have H1 : (if 0 ≤ (wrap64 (Int.tdiv x14_3 8)) then (if (wrap64 (Int.tdiv x14_3 8)) < (l0.length : Int) then (if 0 ≤ (IntKind.u64.wrap (Int.tmod x14_3 8)) then (if (wrap64 (Int.tdiv x14_3 8)) < (t159.length : Int) then (if (Go.bits .and .u8 (shr .u8 (rd l0 (wrap64 (Int.tdiv x14_3 8))) (IntKind.u64.wrap (Int.tmod x14_3 8))) 1) = (Go.bits .and .u8 (shr .u8 (rd t159 (wrap64 (Int.tdiv x14_3 8))) (IntKind.u64.wrap (Int.tmod x14_3 8))) 1) then (libevolutionlaw15_MaskNumbers.l0 k4 l0 t153 t159 (wrap64 (x14_3 + 1))) else (some false)) else (none)) else (none)) else (none)) else (none)) = some r := by rw [if_neg (show ¬ (false = true) by decide)] at H; exact H
                                  clear H
                                  have H := H1
                                  clear H1
                                  obtain ⟨ji44, hji44⟩ : ∃ j_ : Int, (wrap64 (Int.tdiv x14_3 8)) = j_ := ⟨_, rfl⟩
                                  replace H : (if 0 ≤ (ji44) then (if (ji44) < (l0.length : Int) then (if 0 ≤ (IntKind.u64.wrap (Int.tmod x14_3 8)) then (if (ji44) < (t159.length : Int) then (if (Go.bits .and .u8 (shr .u8 (rd l0 (ji44)) (IntKind.u64.wrap (Int.tmod x14_3 8))) 1) = (Go.bits .and .u8 (shr .u8 (rd t159 (ji44)) (IntKind.u64.wrap (Int.tmod x14_3 8))) 1) then (libevolutionlaw15_MaskNumbers.l0 k4 l0 t153 t159 (wrap64 (x14_3 + 1))) else (some false)) else (none)) else (none)) else (none)) else (none)) = some r := by first | (rw [hji44] at H; exact H) | (simp only [hji44] at H ⊢; exact H)
                                  have hji44w : (IntKind.i64.wrap (Int.tdiv x14_3 8)) = ji44 := (i64_w _).trans hji44
                                  by_cases c45 : 0 ≤ (ji44)
                                  · rw [if_pos c45] at H
                                    have c45b0 : decide (0 ≤ (ji44)) = true := decide_eq_true c45
                                    clear c45
                                    by_cases c46 : (ji44) < (l0.length : Int)
                                    · rw [if_pos c46] at H
                                      have c46b0 : decide ((ji44) < (l0.length : Int)) = true := decide_eq_true c46
                                      clear c46
                                      obtain ⟨ji47, hji47⟩ : ∃ j_ : Int, (IntKind.u64.wrap (Int.tmod x14_3 8)) = j_ := ⟨_, rfl⟩
                                      replace H : (if 0 ≤ (ji47) then (if (ji44) < (t159.length : Int) then (if (Go.bits .and .u8 (shr .u8 (rd l0 (ji44)) (ji47)) 1) = (Go.bits .and .u8 (shr .u8 (rd t159 (ji44)) (ji47)) 1) then (libevolutionlaw15_MaskNumbers.l0 k4 l0 t153 t159 (wrap64 (x14_3 + 1))) else (some false)) else (none)) else (none)) = some r := by first | (rw [hji47] at H; exact H) | (simp only [hji47] at H ⊢; exact H)
                                      by_cases c48 : 0 ≤ (ji47)
                                      · rw [if_pos c48] at H
                                        have c48b0 := eq_true c48
                                        have c48b1 : decide (0 ≤ (ji47)) = true := decide_eq_true c48
                                        clear c48
                                        obtain ⟨ji49, hji49⟩ : ∃ j_ : Int, (shr .u8 (rd l0 (ji44)) (ji47)) = j_ := ⟨_, rfl⟩
                                        replace H : (if (ji44) < (t159.length : Int) then (if (Go.bits .and .u8 (ji49) 1) = (Go.bits .and .u8 (shr .u8 (rd t159 (ji44)) (ji47)) 1) then (libevolutionlaw15_MaskNumbers.l0 k4 l0 t153 t159 (wrap64 (x14_3 + 1))) else (some false)) else (none)) = some r := by first | (rw [hji49] at H; exact H) | (simp only [hji49] at H ⊢; exact H)
                                        have hji49_ : ((rd l0 (ji44)) / 2 ^ min (ji47).toNat 8) = ji49 := hji49
                                        have hji49z : (ji47) ≤ 8 → ((rd l0 (ji44)) / 2 ^ (ji47).toNat) = ji49 := shr_small hji49
                                        by_cases c50 : (ji44) < (t159.length : Int)
                                        · rw [if_pos c50] at H
                                          have c50b0 : decide ((ji44) < (t159.length : Int)) = true := decide_eq_true c50
                                          clear c50
                                          have c51b0 := eq_true (od_ : 0 ≤ (ji47))
                                          obtain ⟨ji52, hji52⟩ : ∃ j_ : Int, (shr .u8 (rd t159 (ji44)) (ji47)) = j_ := ⟨_, rfl⟩
                                          replace H : (if (Go.bits .and .u8 (ji49) 1) = (Go.bits .and .u8 (ji52) 1) then (libevolutionlaw15_MaskNumbers.l0 k4 l0 t153 t159 (wrap64 (x14_3 + 1))) else (some false)) = some r := by first | (rw [hji52] at H; exact H) | (simp only [hji52] at H ⊢; exact H)
                                          have hji52_ : ((rd t159 (ji44)) / 2 ^ min (ji47).toNat 8) = ji52 := hji52
                                          have hji52z : (ji47) ≤ 8 → ((rd t159 (ji44)) / 2 ^ (ji47).toNat) = ji52 := shr_small hji52
                                          by_cases c53 : (Go.bits .and .u8 (ji49) 1) = (Go.bits .and .u8 (ji52) 1)
                                          · rw [if_pos c53] at H
                                            have c53b0 : ((Go.bits .and .u8 (ji49) 1) == (Go.bits .and .u8 (ji52) 1)) = true := beq_iff_eq.mpr c53
                                            have c53b1 : ((Go.bits .and .u8 (ji49) 1) != (Go.bits .and .u8 (ji52) 1)) = false := bne_eq_false_iff_eq.mpr c53
                                            clear c53
                                            have H' := Aside0.mk H
                                            clear H
                                            have p169 : 0 ≤ ((ji44) : Int) := od_
                                            have q169 : (ji44) < (l0.length : Int) := od_
                                            obtain ⟨ad169, e169, hx169_0⟩ := Kd.at_int HR0.out (ji44) p169 q169
                                            cases e169
                                            replace hx169_0 := (HB.out.cell (World.block_lt_of_cell? w _ hx169_0)).trans hx169_0
                                            replace p169 := eq_true p169
                                            replace q169 := eq_true q169
                                            obtain ⟨Ao54, co54, eo54⟩ := Kd.R_slice HO_13.out
                                            subst eo54
                                            have p170 : 0 ≤ ((ji44) : Int) := od_
                                            have q170 : (ji44) < (t159.length : Int) := od_
                                            obtain ⟨ad170, e170, hx170_0⟩ := Kd.at_int (Kd.R_reads' HO_13.out).2.2 (ji44) p170 q170
                                            cases e170
                                            replace p170 := eq_true p170
                                            replace q170 := eq_true q170
                                            go_wp2
                                            repeat (go_quiet (fail); try go_wp2)
                                            go_roundg k4
                                            case measure => have := HJ4.out; have := HJ17.out; have := HK3.out; have := HK4.out; omega
                                            case rel => exact ⟨(wrap64 (x14_3 + 1)), (by first | rfl | (simp; done) | (simp [*]; done)), H', ⟨by have := HJ4.out; have := HJ17.out; have := HK3.out; have := HK4.out; omega⟩, ⟨by (with_reducible repeat (first | apply Kd.R_alloc | apply Kd.R_drewN | apply Kd.R_drew)); exact HO_10.out⟩, ⟨by (with_reducible repeat (first | apply Kd.R_alloc | apply Kd.R_drewN | apply Kd.R_drew)); exact HO_13.out⟩, ⟨by repeat (first | (with_reducible first | exact HB.out | apply below_alloc | apply pw_below_drewN | apply below_drew1) | exact HB.out)⟩⟩
                                          · rw [if_neg c53] at H
                                            have c53b0 : ((Go.bits .and .u8 (ji49) 1) == (Go.bits .and .u8 (ji52) 1)) = false := beq_eq_false_iff_ne.mpr c53
                                            have c53b1 : ((Go.bits .and .u8 (ji49) 1) != (Go.bits .and .u8 (ji52) 1)) = true := bne_iff_ne.mpr c53
                                            obtain rfl := Option.some.inj H
                                            have p169 : 0 ≤ ((ji44) : Int) := od_
                                            have q169 : (ji44) < (l0.length : Int) := od_
                                            obtain ⟨ad169, e169, hx169_0⟩ := Kd.at_int HR0.out (ji44) p169 q169
                                            cases e169
                                            replace hx169_0 := (HB.out.cell (World.block_lt_of_cell? w _ hx169_0)).trans hx169_0
                                            replace p169 := eq_true p169
                                            replace q169 := eq_true q169
                                            obtain ⟨Ao55, co55, eo55⟩ := Kd.R_slice HO_13.out
                                            subst eo55
                                            have p170 : 0 ≤ ((ji44) : Int) := od_
                                            have q170 : (ji44) < (t159.length : Int) := od_
                                            obtain ⟨ad170, e170, hx170_0⟩ := Kd.at_int (Kd.R_reads' HO_13.out).2.2 (ji44) p170 q170
                                            cases e170
                                            replace p170 := eq_true p170
                                            replace q170 := eq_true q170
                                            go_wp2
                                            repeat (go_quiet (fail); try go_wp2)
                                            go_ret
                                            exact ⟨by first | rfl | (simp [errW_none, errW_some] <;> rfl) | (simp only [← hji13, ← hji15, ← hji44, ← hji47, ← hji49, ← hji52]; first | rfl | (simp [errW_none, errW_some] <;> rfl)) | (simp [*, errW_none, errW_some] <;> rfl), by repeat (first | (with_reducible first | exact HB.out | apply below_alloc | apply pw_below_drewN | apply below_drew1) | exact HB.out)⟩
                                        · rw [if_neg c50] at H
                                          exact absurd H (by simp)
                                      · rw [if_neg c48] at H
                                        exact absurd H (by simp)
                                    · rw [if_neg c46] at H
                                      exact absurd H (by simp)
                                  · rw [if_neg c45] at H
                                    exact absurd H (by simp)
                        · rw [if_neg c38] at H
                          have c38b0 : decide (x14_3 < (wrap64 (8 * (l0.length : Int)))) = false := decide_eq_false c38
                          clear c38
                          replace H := Option.bind_eq_some_iff.mp H
                          obtain ⟨t167, A560, H⟩ := H
                          replace H : (some t167) = some r := H
                          have A56 := Aside0.mk A560
                          clear A560
                          obtain rfl := Option.some.inj H
                          go_wp2_with (first | (go_at_call 43; (with_reducible refine (libevolutionlaw15_awake.calls k3  t167 _ A56.out).mono ?_); rintro e w57 ⟨rfl, hb⟩; have n0_ := Aside0.mk (Kd.R_below (kR_ HO_10.out) hb); have n1_ := Aside0.mk (Kd.R_below (kR_ HO_13.out) hb); have n2_ := Aside0.mk (below_step (hb0_ HB.out) hb); clear HO_10 HO_13 HB; have HO_10 := n0_; have HO_13 := n1_; have HB := n2_; clear n0_ n1_ n2_; (try clear hb); (try clear hb2); (try clear hk); (try clear hi)))
                          repeat (go_quiet (first | (go_at_call 43; (with_reducible refine (libevolutionlaw15_awake.calls k3  t167 _ A56.out).mono ?_); rintro e w57 ⟨rfl, hb⟩; have n0_ := Aside0.mk (Kd.R_below (kR_ HO_10.out) hb); have n1_ := Aside0.mk (Kd.R_below (kR_ HO_13.out) hb); have n2_ := Aside0.mk (below_step (hb0_ HB.out) hb); clear HO_10 HO_13 HB; have HO_10 := n0_; have HO_13 := n1_; have HB := n2_; clear n0_ n1_ n2_; (try clear hb); (try clear hb2); (try clear hk); (try clear hi))); try go_wp2_with (first | (go_at_call 43; (with_reducible refine (libevolutionlaw15_awake.calls k3  t167 _ A56.out).mono ?_); rintro e w57 ⟨rfl, hb⟩; have n0_ := Aside0.mk (Kd.R_below (kR_ HO_10.out) hb); have n1_ := Aside0.mk (Kd.R_below (kR_ HO_13.out) hb); have n2_ := Aside0.mk (below_step (hb0_ HB.out) hb); clear HO_10 HO_13 HB; have HO_10 := n0_; have HO_13 := n1_; have HB := n2_; clear n0_ n1_ n2_; (try clear hb); (try clear hb2); (try clear hk); (try clear hi))))
                          go_ret
                          exact ⟨by first | rfl | (simp [errW_none, errW_some] <;> rfl) | (simp only [← hji13, ← hji15]; first | rfl | (simp [errW_none, errW_some] <;> rfl)) | (simp [*, errW_none, errW_some] <;> rfl), by repeat (first | (with_reducible first | exact HB.out | apply below_alloc | apply pw_below_drewN | apply below_drew1) | exact HB.out)⟩
          · rw [if_neg c14] at H
            exact absurd H (by simp)
        · replace c12 := Bool.eq_false_iff.mpr c12
          subst c12
          have H1 : ((mask_Count.f kj4 t150).bind fun t157 => (if t157 < (wrap64 (Int.tmod a3 17)) then ((libevolutionlaw15_awake.f kj4).bind fun t158 => (some t158)) else (some false))) = some r := by rw [if_neg (show ¬ (false = true) by decide)] at H; exact H
          clear H
          have H := H1
          clear H1
          replace H := Option.bind_eq_some_iff.mp H
          obtain ⟨t157, A580, H⟩ := H
          replace H : (if t157 < (wrap64 (Int.tmod a3 17)) then ((libevolutionlaw15_awake.f kj4).bind fun t158 => (some t158)) else (some false)) = some r := H
          have A58 := Aside0.mk A580
          clear A580
          by_cases c59 : t157 < (wrap64 (Int.tmod a3 17))
          · rw [if_pos c59] at H
            have c59b0 : decide (t157 < (wrap64 (Int.tmod a3 17))) = true := decide_eq_true c59
            clear c59
            replace H := Option.bind_eq_some_iff.mp H
            obtain ⟨t158, A600, H⟩ := H
            replace H : (some t158) = some r := H
            have A60 := Aside0.mk A600
            clear A600
            obtain rfl := Option.some.inj H
            go_wp2_with (first | (go_at_call 46; (with_reducible refine (Extend.calls _ _ l1 (l0.length : Int) t150 _ ?side1 ?side2 A10.out).mono ?_); (case side1 => repeat (first | exact (Kd.C_below HR1.out HB.out) | (with_reducible refine Kd.C_alloc ?_ _) | (with_reducible refine Kd.C_drewN ?_ _) | (with_reducible refine Kd.C_drew ?_))); (case side2 => exact HC1.out); rintro e w61 ⟨v151, rfl, ho0, hb⟩; have n0_ := Aside0.mk (Kd.V_lower (Kd.V_mono (ok' := fun k_ => True) ho0 (fun k_ hk_ => trivial)) (below_size (hb0_ HB.out))); have n1_ := Aside0.mk (below_step (hb0_ HB.out) hb); clear HB; have HO152 := n0_; have HB := n1_; clear n0_ n1_; (try clear hb); (try clear hb2); (try clear hk); (try clear hi); (try clear ho0); obtain ⟨Ao62, co62, eo62⟩ := Kd.V_slice HO152.out; subst eo62) | (go_at_call 44; (with_reducible refine (mask_Bits.calls kj4 _ _ t150 (wrap64 (Int.tmod a3 17)) t153 false _ ?side1 ?side2 A11.out).mono ?_); (case side1 => repeat (first | exact (Kd.V_reads' HO152.out).2.2 | (with_reducible refine Kd.C_alloc ?_ _) | (with_reducible refine Kd.C_drewN ?_ _) | (with_reducible refine Kd.C_drew ?_))); (case side2 => exact (Kd.V_reads' HO152.out).2.1); rintro e w63 ⟨v155, rfl, ho0, hb⟩; have n0_ := Aside0.mk (Kd.V_elder' (kV_ HO152.out) (Kd.R_base ho0) hb); have n1_ := Aside0.mk (Kd.R_lower ho0 (below_size (hb0_ HB.out))); have n2_ := Aside0.mk (below_step (hb0_ HB.out) hb); clear HO152 HB; have HO152 := n0_; have HO156 := n1_; have HB := n2_; clear n0_ n1_ n2_; (try clear hb); (try clear hb2); (try clear hk); (try clear hi); (try clear ho0)) | (go_at_call 45; (with_reducible refine (mask_Count.calls kj4 _ _ t150 t157 _ ?side1 ?side2 A58.out).mono ?_); (case side1 => repeat (first | exact (Kd.V_reads' HO152.out).2.2 | (with_reducible refine Kd.C_alloc ?_ _) | (with_reducible refine Kd.C_drewN ?_ _) | (with_reducible refine Kd.C_drew ?_))); (case side2 => exact (Kd.V_reads' HO152.out).2.1); rintro e w' ⟨rfl, ⟨nd, rfl⟩⟩; (try first | exact ⟨rfl, _, World.drewN_drewN _ _ _⟩ | exact ⟨rfl, _, Eq.trans (World.drewN_drewN _ _ _) (congrArg (World.drewN _) (Nat.add_assoc _ _ _))⟩)) | (go_at_call 43; (with_reducible refine (libevolutionlaw15_awake.calls kj4  t158 _ A60.out).mono ?_); rintro e w64 ⟨rfl, hb⟩; have n0_ := Aside0.mk (Kd.V_below (kV_ HO152.out) hb); have n1_ := Aside0.mk (Kd.R_below (kR_ HO156.out) hb); have n2_ := Aside0.mk (below_step (hb0_ HB.out) hb); clear HO152 HO156 HB; have HO152 := n0_; have HO156 := n1_; have HB := n2_; clear n0_ n1_ n2_; (try clear hb); (try clear hb2); (try clear hk); (try clear hi)))
            repeat (go_quiet (first | (go_at_call 46; (with_reducible refine (Extend.calls _ _ l1 (l0.length : Int) t150 _ ?side1 ?side2 A10.out).mono ?_); (case side1 => repeat (first | exact (Kd.C_below HR1.out HB.out) | (with_reducible refine Kd.C_alloc ?_ _) | (with_reducible refine Kd.C_drewN ?_ _) | (with_reducible refine Kd.C_drew ?_))); (case side2 => exact HC1.out); rintro e w61 ⟨v151, rfl, ho0, hb⟩; have n0_ := Aside0.mk (Kd.V_lower (Kd.V_mono (ok' := fun k_ => True) ho0 (fun k_ hk_ => trivial)) (below_size (hb0_ HB.out))); have n1_ := Aside0.mk (below_step (hb0_ HB.out) hb); clear HB; have HO152 := n0_; have HB := n1_; clear n0_ n1_; (try clear hb); (try clear hb2); (try clear hk); (try clear hi); (try clear ho0); obtain ⟨Ao62, co62, eo62⟩ := Kd.V_slice HO152.out; subst eo62) | (go_at_call 44; (with_reducible refine (mask_Bits.calls kj4 _ _ t150 (wrap64 (Int.tmod a3 17)) t153 false _ ?side1 ?side2 A11.out).mono ?_); (case side1 => repeat (first | exact (Kd.V_reads' HO152.out).2.2 | (with_reducible refine Kd.C_alloc ?_ _) | (with_reducible refine Kd.C_drewN ?_ _) | (with_reducible refine Kd.C_drew ?_))); (case side2 => exact (Kd.V_reads' HO152.out).2.1); rintro e w63 ⟨v155, rfl, ho0, hb⟩; have n0_ := Aside0.mk (Kd.V_elder' (kV_ HO152.out) (Kd.R_base ho0) hb); have n1_ := Aside0.mk (Kd.R_lower ho0 (below_size (hb0_ HB.out))); have n2_ := Aside0.mk (below_step (hb0_ HB.out) hb); clear HO152 HB; have HO152 := n0_; have HO156 := n1_; have HB := n2_; clear n0_ n1_ n2_; (try clear hb); (try clear hb2); (try clear hk); (try clear hi); (try clear ho0)) | (go_at_call 45; (with_reducible refine (mask_Count.calls kj4 _ _ t150 t157 _ ?side1 ?side2 A58.out).mono ?_); (case side1 => repeat (first | exact (Kd.V_reads' HO152.out).2.2 | (with_reducible refine Kd.C_alloc ?_ _) | (with_reducible refine Kd.C_drewN ?_ _) | (with_reducible refine Kd.C_drew ?_))); (case side2 => exact (Kd.V_reads' HO152.out).2.1); rintro e w' ⟨rfl, ⟨nd, rfl⟩⟩; (try first | exact ⟨rfl, _, World.drewN_drewN _ _ _⟩ | exact ⟨rfl, _, Eq.trans (World.drewN_drewN _ _ _) (congrArg (World.drewN _) (Nat.add_assoc _ _ _))⟩)) | (go_at_call 43; (with_reducible refine (libevolutionlaw15_awake.calls kj4  t158 _ A60.out).mono ?_); rintro e w64 ⟨rfl, hb⟩; have n0_ := Aside0.mk (Kd.V_below (kV_ HO152.out) hb); have n1_ := Aside0.mk (Kd.R_below (kR_ HO156.out) hb); have n2_ := Aside0.mk (below_step (hb0_ HB.out) hb); clear HO152 HO156 HB; have HO152 := n0_; have HO156 := n1_; have HB := n2_; clear n0_ n1_ n2_; (try clear hb); (try clear hb2); (try clear hk); (try clear hi))); try go_wp2_with (first | (go_at_call 46; (with_reducible refine (Extend.calls _ _ l1 (l0.length : Int) t150 _ ?side1 ?side2 A10.out).mono ?_); (case side1 => repeat (first | exact (Kd.C_below HR1.out HB.out) | (with_reducible refine Kd.C_alloc ?_ _) | (with_reducible refine Kd.C_drewN ?_ _) | (with_reducible refine Kd.C_drew ?_))); (case side2 => exact HC1.out); rintro e w61 ⟨v151, rfl, ho0, hb⟩; have n0_ := Aside0.mk (Kd.V_lower (Kd.V_mono (ok' := fun k_ => True) ho0 (fun k_ hk_ => trivial)) (below_size (hb0_ HB.out))); have n1_ := Aside0.mk (below_step (hb0_ HB.out) hb); clear HB; have HO152 := n0_; have HB := n1_; clear n0_ n1_; (try clear hb); (try clear hb2); (try clear hk); (try clear hi); (try clear ho0); obtain ⟨Ao62, co62, eo62⟩ := Kd.V_slice HO152.out; subst eo62) | (go_at_call 44; (with_reducible refine (mask_Bits.calls kj4 _ _ t150 (wrap64 (Int.tmod a3 17)) t153 false _ ?side1 ?side2 A11.out).mono ?_); (case side1 => repeat (first | exact (Kd.V_reads' HO152.out).2.2 | (with_reducible refine Kd.C_alloc ?_ _) | (with_reducible refine Kd.C_drewN ?_ _) | (with_reducible refine Kd.C_drew ?_))); (case side2 => exact (Kd.V_reads' HO152.out).2.1); rintro e w63 ⟨v155, rfl, ho0, hb⟩; have n0_ := Aside0.mk (Kd.V_elder' (kV_ HO152.out) (Kd.R_base ho0) hb); have n1_ := Aside0.mk (Kd.R_lower ho0 (below_size (hb0_ HB.out))); have n2_ := Aside0.mk (below_step (hb0_ HB.out) hb); clear HO152 HB; have HO152 := n0_; have HO156 := n1_; have HB := n2_; clear n0_ n1_ n2_; (try clear hb); (try clear hb2); (try clear hk); (try clear hi); (try clear ho0)) | (go_at_call 45; (with_reducible refine (mask_Count.calls kj4 _ _ t150 t157 _ ?side1 ?side2 A58.out).mono ?_); (case side1 => repeat (first | exact (Kd.V_reads' HO152.out).2.2 | (with_reducible refine Kd.C_alloc ?_ _) | (with_reducible refine Kd.C_drewN ?_ _) | (with_reducible refine Kd.C_drew ?_))); (case side2 => exact (Kd.V_reads' HO152.out).2.1); rintro e w' ⟨rfl, ⟨nd, rfl⟩⟩; (try first | exact ⟨rfl, _, World.drewN_drewN _ _ _⟩ | exact ⟨rfl, _, Eq.trans (World.drewN_drewN _ _ _) (congrArg (World.drewN _) (Nat.add_assoc _ _ _))⟩)) | (go_at_call 43; (with_reducible refine (libevolutionlaw15_awake.calls kj4  t158 _ A60.out).mono ?_); rintro e w64 ⟨rfl, hb⟩; have n0_ := Aside0.mk (Kd.V_below (kV_ HO152.out) hb); have n1_ := Aside0.mk (Kd.R_below (kR_ HO156.out) hb); have n2_ := Aside0.mk (below_step (hb0_ HB.out) hb); clear HO152 HO156 HB; have HO152 := n0_; have HO156 := n1_; have HB := n2_; clear n0_ n1_ n2_; (try clear hb); (try clear hb2); (try clear hk); (try clear hi))))
            go_ret
            exact ⟨by first | rfl | (simp [errW_none, errW_some] <;> rfl) | (simp [*, errW_none, errW_some] <;> rfl), by repeat (first | (with_reducible first | exact HB.out | apply below_alloc | apply pw_below_drewN | apply below_drew1) | exact HB.out)⟩
          · rw [if_neg c59] at H
            have c59b0 : decide (t157 < (wrap64 (Int.tmod a3 17))) = false := decide_eq_false c59
            clear c59
            obtain rfl := Option.some.inj H
            go_wp2_with (first | (go_at_call 46; (with_reducible refine (Extend.calls _ _ l1 (l0.length : Int) t150 _ ?side1 ?side2 A10.out).mono ?_); (case side1 => repeat (first | exact (Kd.C_below HR1.out HB.out) | (with_reducible refine Kd.C_alloc ?_ _) | (with_reducible refine Kd.C_drewN ?_ _) | (with_reducible refine Kd.C_drew ?_))); (case side2 => exact HC1.out); rintro e w65 ⟨v151, rfl, ho0, hb⟩; have n0_ := Aside0.mk (Kd.V_lower (Kd.V_mono (ok' := fun k_ => True) ho0 (fun k_ hk_ => trivial)) (below_size (hb0_ HB.out))); have n1_ := Aside0.mk (below_step (hb0_ HB.out) hb); clear HB; have HO152 := n0_; have HB := n1_; clear n0_ n1_; (try clear hb); (try clear hb2); (try clear hk); (try clear hi); (try clear ho0); obtain ⟨Ao66, co66, eo66⟩ := Kd.V_slice HO152.out; subst eo66) | (go_at_call 44; (with_reducible refine (mask_Bits.calls kj4 _ _ t150 (wrap64 (Int.tmod a3 17)) t153 false _ ?side1 ?side2 A11.out).mono ?_); (case side1 => repeat (first | exact (Kd.V_reads' HO152.out).2.2 | (with_reducible refine Kd.C_alloc ?_ _) | (with_reducible refine Kd.C_drewN ?_ _) | (with_reducible refine Kd.C_drew ?_))); (case side2 => exact (Kd.V_reads' HO152.out).2.1); rintro e w67 ⟨v155, rfl, ho0, hb⟩; have n0_ := Aside0.mk (Kd.V_elder' (kV_ HO152.out) (Kd.R_base ho0) hb); have n1_ := Aside0.mk (Kd.R_lower ho0 (below_size (hb0_ HB.out))); have n2_ := Aside0.mk (below_step (hb0_ HB.out) hb); clear HO152 HB; have HO152 := n0_; have HO156 := n1_; have HB := n2_; clear n0_ n1_ n2_; (try clear hb); (try clear hb2); (try clear hk); (try clear hi); (try clear ho0)) | (go_at_call 45; (with_reducible refine (mask_Count.calls kj4 _ _ t150 t157 _ ?side1 ?side2 A58.out).mono ?_); (case side1 => repeat (first | exact (Kd.V_reads' HO152.out).2.2 | (with_reducible refine Kd.C_alloc ?_ _) | (with_reducible refine Kd.C_drewN ?_ _) | (with_reducible refine Kd.C_drew ?_))); (case side2 => exact (Kd.V_reads' HO152.out).2.1); rintro e w' ⟨rfl, ⟨nd, rfl⟩⟩; (try first | exact ⟨rfl, _, World.drewN_drewN _ _ _⟩ | exact ⟨rfl, _, Eq.trans (World.drewN_drewN _ _ _) (congrArg (World.drewN _) (Nat.add_assoc _ _ _))⟩)))
            repeat (go_quiet (first | (go_at_call 46; (with_reducible refine (Extend.calls _ _ l1 (l0.length : Int) t150 _ ?side1 ?side2 A10.out).mono ?_); (case side1 => repeat (first | exact (Kd.C_below HR1.out HB.out) | (with_reducible refine Kd.C_alloc ?_ _) | (with_reducible refine Kd.C_drewN ?_ _) | (with_reducible refine Kd.C_drew ?_))); (case side2 => exact HC1.out); rintro e w65 ⟨v151, rfl, ho0, hb⟩; have n0_ := Aside0.mk (Kd.V_lower (Kd.V_mono (ok' := fun k_ => True) ho0 (fun k_ hk_ => trivial)) (below_size (hb0_ HB.out))); have n1_ := Aside0.mk (below_step (hb0_ HB.out) hb); clear HB; have HO152 := n0_; have HB := n1_; clear n0_ n1_; (try clear hb); (try clear hb2); (try clear hk); (try clear hi); (try clear ho0); obtain ⟨Ao66, co66, eo66⟩ := Kd.V_slice HO152.out; subst eo66) | (go_at_call 44; (with_reducible refine (mask_Bits.calls kj4 _ _ t150 (wrap64 (Int.tmod a3 17)) t153 false _ ?side1 ?side2 A11.out).mono ?_); (case side1 => repeat (first | exact (Kd.V_reads' HO152.out).2.2 | (with_reducible refine Kd.C_alloc ?_ _) | (with_reducible refine Kd.C_drewN ?_ _) | (with_reducible refine Kd.C_drew ?_))); (case side2 => exact (Kd.V_reads' HO152.out).2.1); rintro e w67 ⟨v155, rfl, ho0, hb⟩; have n0_ := Aside0.mk (Kd.V_elder' (kV_ HO152.out) (Kd.R_base ho0) hb); have n1_ := Aside0.mk (Kd.R_lower ho0 (below_size (hb0_ HB.out))); have n2_ := Aside0.mk (below_step (hb0_ HB.out) hb); clear HO152 HB; have HO152 := n0_; have HO156 := n1_; have HB := n2_; clear n0_ n1_ n2_; (try clear hb); (try clear hb2); (try clear hk); (try clear hi); (try clear ho0)) | (go_at_call 45; (with_reducible refine (mask_Count.calls kj4 _ _ t150 t157 _ ?side1 ?side2 A58.out).mono ?_); (case side1 => repeat (first | exact (Kd.V_reads' HO152.out).2.2 | (with_reducible refine Kd.C_alloc ?_ _) | (with_reducible refine Kd.C_drewN ?_ _) | (with_reducible refine Kd.C_drew ?_))); (case side2 => exact (Kd.V_reads' HO152.out).2.1); rintro e w' ⟨rfl, ⟨nd, rfl⟩⟩; (try first | exact ⟨rfl, _, World.drewN_drewN _ _ _⟩ | exact ⟨rfl, _, Eq.trans (World.drewN_drewN _ _ _) (congrArg (World.drewN _) (Nat.add_assoc _ _ _))⟩))); try go_wp2_with (first | (go_at_call 46; (with_reducible refine (Extend.calls _ _ l1 (l0.length : Int) t150 _ ?side1 ?side2 A10.out).mono ?_); (case side1 => repeat (first | exact (Kd.C_below HR1.out HB.out) | (with_reducible refine Kd.C_alloc ?_ _) | (with_reducible refine Kd.C_drewN ?_ _) | (with_reducible refine Kd.C_drew ?_))); (case side2 => exact HC1.out); rintro e w65 ⟨v151, rfl, ho0, hb⟩; have n0_ := Aside0.mk (Kd.V_lower (Kd.V_mono (ok' := fun k_ => True) ho0 (fun k_ hk_ => trivial)) (below_size (hb0_ HB.out))); have n1_ := Aside0.mk (below_step (hb0_ HB.out) hb); clear HB; have HO152 := n0_; have HB := n1_; clear n0_ n1_; (try clear hb); (try clear hb2); (try clear hk); (try clear hi); (try clear ho0); obtain ⟨Ao66, co66, eo66⟩ := Kd.V_slice HO152.out; subst eo66) | (go_at_call 44; (with_reducible refine (mask_Bits.calls kj4 _ _ t150 (wrap64 (Int.tmod a3 17)) t153 false _ ?side1 ?side2 A11.out).mono ?_); (case side1 => repeat (first | exact (Kd.V_reads' HO152.out).2.2 | (with_reducible refine Kd.C_alloc ?_ _) | (with_reducible refine Kd.C_drewN ?_ _) | (with_reducible refine Kd.C_drew ?_))); (case side2 => exact (Kd.V_reads' HO152.out).2.1); rintro e w67 ⟨v155, rfl, ho0, hb⟩; have n0_ := Aside0.mk (Kd.V_elder' (kV_ HO152.out) (Kd.R_base ho0) hb); have n1_ := Aside0.mk (Kd.R_lower ho0 (below_size (hb0_ HB.out))); have n2_ := Aside0.mk (below_step (hb0_ HB.out) hb); clear HO152 HB; have HO152 := n0_; have HO156 := n1_; have HB := n2_; clear n0_ n1_ n2_; (try clear hb); (try clear hb2); (try clear hk); (try clear hi); (try clear ho0)) | (go_at_call 45; (with_reducible refine (mask_Count.calls kj4 _ _ t150 t157 _ ?side1 ?side2 A58.out).mono ?_); (case side1 => repeat (first | exact (Kd.V_reads' HO152.out).2.2 | (with_reducible refine Kd.C_alloc ?_ _) | (with_reducible refine Kd.C_drewN ?_ _) | (with_reducible refine Kd.C_drew ?_))); (case side2 => exact (Kd.V_reads' HO152.out).2.1); rintro e w' ⟨rfl, ⟨nd, rfl⟩⟩; (try first | exact ⟨rfl, _, World.drewN_drewN _ _ _⟩ | exact ⟨rfl, _, Eq.trans (World.drewN_drewN _ _ _) (congrArg (World.drewN _) (Nat.add_assoc _ _ _))⟩))))
            go_ret
            exact ⟨by first | rfl | (simp [errW_none, errW_some] <;> rfl) | (simp [*, errW_none, errW_some] <;> rfl), by repeat (first | (with_reducible first | exact HB.out | apply below_alloc | apply pw_below_drewN | apply below_drew1) | exact HB.out)⟩

/-- THE ONE PURE STATEMENT of libevolutionlaw15_MaskNumbers: yours. -/
def libevolutionlaw15_MaskNumbers.Pure : Prop := ∀ (l0 : List Int) (l1 : List Int) (a2 : Int) (a3 : Int), l0.length ≤ maxLen → l0.length * 1 ≤ 140737488351232 → (∀ x ∈ l0, (Lit.int .u8 x).wf = true) → l1.length ≤ maxLen → l1.length * 1 ≤ 140737488351232 → (∀ x ∈ l1, (Lit.int .u8 x).wf = true) → (Lit.int .u16 a2).wf = true → (Lit.int .u8 a3).wf = true → ∃ k, libevolutionlaw15_MaskNumbers.f k l0 l1 a2 a3 = some true
theorem libevolutionlaw15_MaskNumbers.walk (P : libevolutionlaw15_MaskNumbers.Pure) (a0 : Option Addr) (len0 cap0 : Nat) (z0 : List Int) (a1 : Option Addr) (len1 cap1 : Nat) (z1 : List Int) (a2 : Int) (a3 : Int) (w : World) (w0 : (a0 = none ∧ len0 = 0 ∧ cap0 = 0 ∧ z0 = []) ∨ ∃ x, a0 = some x ∧ len0 ≤ cap0 ∧ cap0 ≤ maxLen ∧ z0.length = cap0 ∧ (∀ i, i < z0.length → w.cell? (x.add i) = some (.int .u8 (z0.getD i 0))) ∧ ∀ n ∈ z0, (Lit.int .u8 n).wf = true) (y0 : len0 * 1 ≤ 140737488351232) (w1 : (a1 = none ∧ len1 = 0 ∧ cap1 = 0 ∧ z1 = []) ∨ ∃ x, a1 = some x ∧ len1 ≤ cap1 ∧ cap1 ≤ maxLen ∧ z1.length = cap1 ∧ (∀ i, i < z1.length → w.cell? (x.add i) = some (.int .u8 (z1.getD i 0))) ∧ ∀ n ∈ z1, (Lit.int .u8 n).wf = true) (y1 : len1 * 1 ≤ 140737488351232) (w2 : (Lit.int .u16 a2).wf = true) (w3 : (Lit.int .u8 a3).wf = true) :
    Calls Try.prog 9 #[.slice a0 len0 cap0, .slice a1 len1 cap1, .int .u16 a2, .int .u8 a3] w fun e w' => e = .returned (.bool true) ∧ Below w.heap.size w w' := by
  obtain ⟨l0, rfl, hr0, hm0, hw0, hc0⟩ := ReadsInt.ofRowC w0
  obtain ⟨l1, rfl, hr1, hm1, hw1, hc1⟩ := ReadsInt.ofRowC w1
  obtain ⟨k, h⟩ := P l0 l1 a2 a3 hm0 y0 hw0 hm1 y1 hw1 w2 w3
  refine (libevolutionlaw15_MaskNumbers.calls k _ _ l0 _ _ l1 a2 a3 true w (Kd.C_of_reads (d := (0 : Int)) (h1 := fun _ => rfl) hr0) hc0 (Kd.C_of_reads (d := (0 : Int)) (h1 := fun _ => rfl) hr1) hc1 h).mono ?_
  rintro e w' ⟨rfl, hd⟩
  exact ⟨rfl, hd⟩

end Go.Proofs.Ytpcephbhnbfcmaa.B
