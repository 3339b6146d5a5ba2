-- Written by this session's program fork.py: a Lean function for each Go function and its walk. Not trusted: Lean checks it.
import Derived.Test.YtpcephbhnbfcmaaG0
import Derived.Test.YtpcephbhnbfcmaaG3
import Derived.Test.YtpcephbhnbfcmaaG4
import Derived.Test.YtpcephbhnbfcmaaG6
namespace Go.Proofs.Ytpcephbhnbfcmaa.G
open Go.RowKit Go.Proofs.YtpcephbhnbfcmaaW.PrintWords Go.Proofs.YtpcephbhnbfcmaaW.PrintLast Go.Proofs.YtpcephbhnbfcmaaW.PrintMore
attribute [local go_sem] max2_int min2_int max_two min_two max_three min_three max_four min_four   -- for this text's walks alone
set_option linter.unusedVariables false
set_option linter.unusedSimpArgs false

/-! ### mask_Put: function 47 -/
def mask_Put.l0 : Nat → Int → List Int → List Int → Int → Int → Option (List Int)
 | 0, _, _, _, _, _ => none
 | k + 1, x2, x7, x12, x13, x14 => if x14 < x13 then (if 0 ≤ x14 then (if x14 < (x12.length : Int) then (if x14 < 63 then ((mask_set.f k x7 (rd x12 x14) ((Go.bits .and .i64 (shr .i64 x2 x14) 1) == 1)).bind fun t216 => (mask_Put.l0 k x2 t216 x12 x13 (wrap64 (x14 + 1)))) else ((mask_set.f k x7 (rd x12 x14) false).bind fun t217 => (mask_Put.l0 k x2 t217 x12 x13 (wrap64 (x14 + 1))))) else (none)) else (none)) else (some x7)
def mask_Put.f (k : Nat) (l0 : List Int) (l1 : List Int) (a2 : Int) : Option (List Int) := (CloneB.f l0).bind fun t212 => (mask_Put.l0 k a2 t212 l1 (l1.length : Int) 0)
theorem mask_Put.mono_l : ∀ k, (∀ y0 y1 y2 y3 y4, LeO (mask_Put.l0 k y0 y1 y2 y3 y4) (mask_Put.l0 (k + 1) y0 y1 y2 y3 y4))
 | 0 => fun _ _ _ _ _ r h => by simp [mask_Put.l0] at h
 | k + 1 => by
  have ih0 := mask_Put.mono_l k
  ·
   intro y0 y1 y2 y3 y4
   unfold mask_Put.l0
   repeat' first
   | (with_reducible exact ih0 _ _ _ _ _)
   | (with_reducible exact mask_set.mono _ _ _ _)
   | (with_reducible exact LeO.refl _)
   | (with_reducible exact LeO.none _)
   | (with_reducible refine LeO.ite ?_ ?_)
   | (with_reducible refine LeO.bind ?_ (fun _ => ?_))
   | exact ih0 _ _ _ _ _
   | exact mask_set.mono _ _ _ _
   | exact LeO.none _
   | refine LeO.ite ?_ ?_
   | refine LeO.bind ?_ (fun _ => ?_)
theorem mask_Put.mono : ∀ a0 a1 a2 k, LeO (mask_Put.f k a0 a1 a2) (mask_Put.f (k + 1) a0 a1 a2) := by
 intro a0 a1 a2 k
 have ih0 := mask_Put.mono_l k
 unfold mask_Put.f
 repeat' first
   | (with_reducible exact ih0 _ _ _ _ _)
   | (with_reducible exact mask_set.mono _ _ _ _)
   | (with_reducible exact LeO.refl _)
   | (with_reducible exact LeO.none _)
   | (with_reducible refine LeO.ite ?_ ?_)
   | (with_reducible refine LeO.bind ?_ (fun _ => ?_))
   | exact ih0 _ _ _ _ _
   | exact mask_set.mono _ _ _ _
   | exact LeO.none _
   | refine LeO.ite ?_ ?_
   | refine LeO.bind ?_ (fun _ => ?_)
set_option maxHeartbeats 8000000 in
set_option maxRecDepth 100000 in
theorem mask_Put.calls (k : Nat) (A0 : Option Addr) (c0 : Nat) (l0 : List Int) (A1 : Option Addr) (c1 : Nat) (l1 : List Int) (a2 : Int) (r : List Int) (w : World) (hr0 : Kd.C (Kd.int .u8) w A0 l0.length l0) (hc0 : l0.length ≤ c0) (hr1 : Kd.C (Kd.int .i64) w A1 l1.length l1) (hc1 : l1.length ≤ c1) (h : mask_Put.f k l0 l1 a2 = some r) :
  Calls Try.prog 47 #[.slice A0 l0.length c0, .slice A1 l1.length c1, .int .i64 a2] w fun e w' => ∃ v0_ : Value, e = .returned (v0_) ∧ Kd.R (Kd.int .u8) 5 w' w.heap.size (fun _ => True) v0_ r ∧ Below w.heap.size w w' := by
 have HR0 := Aside0.mk hr0
 have HC0 := Aside0.mk hc0
 clear hr0 hc0
 have HR1 := Aside0.mk hr1
 have HC1 := Aside0.mk hc1
 clear hr1 hc1
 have HB := Aside0.mk (Below.refl w.heap.size w)
 have H : ((CloneB.f l0).bind fun t212 => (mask_Put.l0 k a2 t212 l1 (l1.length : Int) 0)) = some r := h
 clear h
 replace H := Option.bind_eq_some_iff.mp H
 obtain ⟨t212, A40, H⟩ := H
 replace H : (mask_Put.l0 k a2 t212 l1 (l1.length : Int) 0) = some r := H
 have A4 := Aside0.mk A40
 clear A40
 have H' := Aside0.mk H
 clear H
 go_enter Try.func47, Try.ntmps47
 go_wp2_with (first | ((with_reducible refine gate_callee (f := 81) rfl ?_); refine goesL_ (some 11) rfl rfl Try.func81 (by kernel_rfl) rfl #[.slice A0 l0.length c0] rfl (by (try simp only [List.map_toArray, List.map_cons, List.map_nil]); first | done | rfl | (simp only [List.length_drop, List.length_take]; rfl)) ?_; (with_reducible refine (CloneB.calls _ _ l0 t212 _ ?side1 ?side2 A4.out).mono ?_); (case side1 => exact kD_ HR0.out); (case side2 => exact HC0.out); rintro e w5 ⟨v213, rfl, ho0, hb⟩; refine ⟨_, rfl, ?_⟩; have n0_ := Aside0.mk (Kd.R_lower ho0 (below_size (hb0_ HB.out))); have n1_ := Aside0.mk (below_step (hb0_ HB.out) hb); clear HB; revert n0_ n1_; intro HO214 HB; (try clear hb); (try clear hb2); (try clear hk); (try clear hi); (try clear ho0)))
 go_loopg [14] k (fun kq v14 w' => ∃ (x7_1 : List Int) (x14_1 : Int), v14 = .int .i64 x14_1 ∧ Aside0 (mask_Put.l0 kq a2 x7_1 l1 (l1.length : Int) x14_1 = some r) ∧ Aside0 (kq ≤ k) ∧ Aside0 (Kd.R (Kd.int .u8) 5 w' w.heap.size (fun _ => True) v213 x7_1) ∧ Aside0 (Below w.heap.size w w'))
 case atStart => exact ⟨(t212), (0), (by first | rfl | (simp; done) | (simp [*]; done)), H', ⟨Nat.le_refl _⟩, ⟨by (with_reducible repeat (first | apply Kd.R_alloc | apply Kd.R_drewN | apply Kd.R_drew)); exact HO214.out⟩, ⟨(hb0_ HB.out)⟩⟩
 case round =>
  clear H'
  try clear c1
  try clear p2
  try clear c4
  obtain ⟨x7_1, x14_1, rfl, HA, HK1, HO_7, HB⟩ := hrel
  cases gk with
  | zero => exact absurd HA.out (by simp [mask_Put.l0])
  | succ k1 =>
   have H := HA.out
   clear HA
   simp only [mask_Put.l0] at H
   by_cases c6 : x14_1 < (l1.length : Int)
   ·
    rw [if_pos c6] at H
    have c6b0 : decide (x14_1 < (l1.length : Int)) = true := decide_eq_true c6
    clear c6
    by_cases c7 : 0 ≤ x14_1
    rotate_left
    ·
     rw [if_neg c7] at H
     exact absurd H (by simp)
    rw [if_pos c7] at H
    have c7b0 : decide (0 ≤ x14_1) = true := decide_eq_true c7
    clear c7
    by_cases c8 : x14_1 < (l1.length : Int)
    rotate_left
    ·
     rw [if_neg c8] at H
     exact absurd H (by simp)
    rw [if_pos c8] at H
    have c8b0 : decide (x14_1 < (l1.length : Int)) = true := decide_eq_true c8
    clear c8
    by_cases c9 : x14_1 < 63
    ·
     rw [if_pos c9] at H
     have c9b0 : decide (x14_1 < 63) = true := decide_eq_true c9
     clear c9
     have c10b0 := eq_true (od_ : 0 ≤ x14_1)
     obtain ⟨ji11, hji11⟩ : ∃ j_ : Int, (shr .i64 a2 x14_1) = j_ := ⟨_, rfl⟩
     replace H : ((mask_set.f k1 x7_1 (rd l1 x14_1) ((Go.bits .and .i64 (ji11) 1) == 1)).bind fun t216 => (mask_Put.l0 k1 a2 t216 l1 (l1.length : Int) (wrap64 (x14_1 + 1)))) = some r := by first | (rw [hji11] at H; exact H) | (simp only [hji11] at H ⊢; exact H)
     have hji11_ : (a2 / 2 ^ min x14_1.toNat 64) = ji11 := hji11
     have hji11z : x14_1 ≤ 64 → (a2 / 2 ^ x14_1.toNat) = ji11 := shr_small hji11
     replace H := Option.bind_eq_some_iff.mp H
     obtain ⟨t216, A120, H⟩ := H
     replace H : (mask_Put.l0 k1 a2 t216 l1 (l1.length : Int) (wrap64 (x14_1 + 1))) = some r := H
     have A12 := Aside0.mk A120
     clear A120
     have H' := Aside0.mk H
     clear H
     have p215 : 0 ≤ (x14_1 : Int) := od_
     have q215 : x14_1 < (l1.length : Int) := od_
     obtain ⟨ad215, e215, hx215_0⟩ := Kd.at_int HR1.out x14_1 p215 q215
     cases e215
     replace hx215_0 := (HB.out.cell (World.block_lt_of_cell? w _ hx215_0)).trans hx215_0
     replace p215 := eq_true p215
     replace q215 := eq_true q215
     obtain ⟨Ao13, co13, eo13⟩ := Kd.R_slice HO_7.out
     subst eo13
     go_wp2_with (first | ((with_reducible refine gate_callee (f := 88) rfl ?_); refine goesL_ (some 30) rfl rfl Try.func88 (by kernel_rfl) rfl #[.slice Ao13 x7_1.length co13, .int .i64 (rd l1 x14_1), .bool ((Go.bits .and .i64 (ji11) 1) == 1)] rfl (by (try simp only [List.map_toArray, List.map_cons, List.map_nil]); first | done | (simp only [hji11]; rfl) | rfl | (simp only [List.length_drop, List.length_take]; rfl)) ?_; (with_reducible refine (mask_set.calls k1 (fun k_ => some k_ = (.slice Ao13 x7_1.length co13 : Value).ownBlock) (.slice Ao13 x7_1.length co13) x7_1 (rd l1 x14_1) ((Go.bits .and .i64 (ji11) 1) == 1) t216 w _ ?side1 ?side2 A12.out).mono ?_); (case side1 => repeat (first | (with_reducible first | exact HB.out | apply below_alloc | apply pw_below_drewN | apply below_drew1) | exact HB.out)); (case side2 => exact Kd.R_tight rfl HO_7.out); rintro e w14 ⟨rfl, hy0, hb, hkp⟩; refine ⟨_, rfl, ?_⟩; have n0_ := Aside0.mk (Kd.R_reok rfl hy0 (fun k_ e_ => HO_7.out.1 k_ e_)); have n1_ := Aside0.mk (hb); clear HO_7 HB; revert n0_ n1_; intro HO_7 HB; (try clear hb); (try clear hkp); (try clear hy0)))
     go_roundg k1
     case measure => have := HK1.out; omega
     case rel => exact ⟨(t216), (wrap64 (x14_1 + 1)), (by first | rfl | (simp; done) | (simp [*]; done)), H', ⟨by have := HK1.out; omega⟩, ⟨by (with_reducible repeat (first | apply Kd.R_alloc | apply Kd.R_drewN | apply Kd.R_drew)); exact HO_7.out⟩, ⟨(hb0_ HB.out)⟩⟩
    ·
     rw [if_neg c9] at H
     have c9b0 : decide (x14_1 < 63) = false := decide_eq_false c9
     clear c9
     replace H := Option.bind_eq_some_iff.mp H
     obtain ⟨t217, A150, H⟩ := H
     replace H : (mask_Put.l0 k1 a2 t217 l1 (l1.length : Int) (wrap64 (x14_1 + 1))) = some r := H
     have A15 := Aside0.mk A150
     clear A150
     have H' := Aside0.mk H
     clear H
     have p215 : 0 ≤ (x14_1 : Int) := od_
     have q215 : x14_1 < (l1.length : Int) := od_
     obtain ⟨ad215, e215, hx215_0⟩ := Kd.at_int HR1.out x14_1 p215 q215
     cases e215
     replace hx215_0 := (HB.out.cell (World.block_lt_of_cell? w _ hx215_0)).trans hx215_0
     replace p215 := eq_true p215
     replace q215 := eq_true q215
     obtain ⟨Ao16, co16, eo16⟩ := Kd.R_slice HO_7.out
     subst eo16
     go_wp2_with (first | ((with_reducible refine gate_callee (f := 88) rfl ?_); refine goesL_ (some 30) rfl rfl Try.func88 (by kernel_rfl) rfl #[.slice Ao16 x7_1.length co16, .int .i64 (rd l1 x14_1), .bool false] rfl (by (try simp only [List.map_toArray, List.map_cons, List.map_nil]); first | done | rfl | (simp only [List.length_drop, List.length_take]; rfl)) ?_; (with_reducible refine (mask_set.calls k1 (fun k_ => some k_ = (.slice Ao16 x7_1.length co16 : Value).ownBlock) (.slice Ao16 x7_1.length co16) x7_1 (rd l1 x14_1) false t217 w _ ?side1 ?side2 A15.out).mono ?_); (case side1 => repeat (first | (with_reducible first | exact HB.out | apply below_alloc | apply pw_below_drewN | apply below_drew1) | exact HB.out)); (case side2 => exact Kd.R_tight rfl HO_7.out); rintro e w17 ⟨rfl, hy0, hb, hkp⟩; refine ⟨_, rfl, ?_⟩; have n0_ := Aside0.mk (Kd.R_reok rfl hy0 (fun k_ e_ => HO_7.out.1 k_ e_)); have n1_ := Aside0.mk (hb); clear HO_7 HB; revert n0_ n1_; intro HO_7 HB; (try clear hb); (try clear hkp); (try clear hy0)))
     go_roundg k1
     case measure => have := HK1.out; omega
     case rel => exact ⟨(t217), (wrap64 (x14_1 + 1)), (by first | rfl | (simp; done) | (simp [*]; done)), H', ⟨by have := HK1.out; omega⟩, ⟨by (with_reducible repeat (first | apply Kd.R_alloc | apply Kd.R_drewN | apply Kd.R_drew)); exact HO_7.out⟩, ⟨(hb0_ HB.out)⟩⟩
   ·
    rw [if_neg c6] at H
    have c6b0 : decide (x14_1 < (l1.length : Int)) = false := decide_eq_false c6
    clear c6
    obtain rfl := Option.some.inj H
    go_wp2
    go_ret
    exact ⟨_, by first | rfl | (simp [errW_none, errW_some] <;> rfl) | (simp [*, errW_none, errW_some] <;> rfl), by (with_reducible repeat (first | apply Kd.R_alloc | apply Kd.R_drewN | apply Kd.R_drew)); exact HO_7.out, (hb0_ HB.out)⟩

/-! ### mask_Fits: function 51 -/
def mask_Fits.f (k : Nat) (l0 : List Int) (l1 : List Int) : Option (Bool) := if (l0.length : Int) = (l1.length : Int) then ((mask_And.f k l0 l1).bind fun t218 => ((mask_Count.f k t218).bind fun t221 => (some (t221 == 0)))) else (some false)
theorem mask_Fits.mono : ∀ a0 a1 k, LeO (mask_Fits.f k a0 a1) (mask_Fits.f (k + 1) a0 a1) := by
 intro a0 a1 k
 unfold mask_Fits.f
 repeat' first
   | (with_reducible exact mask_And.mono _ _ _)
   | (with_reducible exact mask_Count.mono _ _)
   | (with_reducible exact LeO.refl _)
   | (with_reducible exact LeO.none _)
   | (with_reducible refine LeO.ite ?_ ?_)
   | (with_reducible refine LeO.bind ?_ (fun _ => ?_))
   | exact mask_And.mono _ _ _
   | exact mask_Count.mono _ _
   | exact LeO.none _
   | refine LeO.ite ?_ ?_
   | refine LeO.bind ?_ (fun _ => ?_)
set_option maxHeartbeats 8000000 in
set_option maxRecDepth 100000 in
theorem mask_Fits.calls (k : Nat) (A0 : Option Addr) (c0 : Nat) (l0 : List Int) (A1 : Option Addr) (c1 : Nat) (l1 : List Int) (r : Bool) (w : World) (hr0 : Kd.C (Kd.int .u8) w A0 l0.length l0) (hc0 : l0.length ≤ c0) (hr1 : Kd.C (Kd.int .u8) w A1 l1.length l1) (hc1 : l1.length ≤ c1) (h : mask_Fits.f k l0 l1 = some r) :
  Calls Try.prog 51 #[.slice A0 l0.length c0, .slice A1 l1.length c1] w fun e w' => e = .returned (.bool r) ∧ Below w.heap.size w w' := by
 have HR0 := Aside0.mk hr0
 have HC0 := Aside0.mk hc0
 clear hr0 hc0
 have HR1 := Aside0.mk hr1
 have HC1 := Aside0.mk hc1
 clear hr1 hc1
 have HB := Aside0.mk (Below.refl w.heap.size w)
 have H : (if (l0.length : Int) = (l1.length : Int) then ((mask_And.f k l0 l1).bind fun t218 => ((mask_Count.f k t218).bind fun t221 => (some (t221 == 0)))) else (some false)) = some r := h
 clear h
 by_cases c3 : (l0.length : Int) = (l1.length : Int)
 ·
  rw [if_pos c3] at H
  have c3b0 : ((l0.length : Int) == (l1.length : Int)) = true := beq_iff_eq.mpr c3
  have c3b1 : ((l0.length : Int) != (l1.length : Int)) = false := bne_eq_false_iff_eq.mpr c3
  have c3b2 : (l0.length == l1.length) = true := by first | simpa using c3 | (simp at c3 ⊢; omega)
  clear c3
  replace H := Option.bind_eq_some_iff.mp H
  obtain ⟨t218, A40, H⟩ := H
  replace H : ((mask_Count.f k t218).bind fun t221 => (some (t221 == 0))) = some r := H
  have A4 := Aside0.mk A40
  clear A40
  replace H := Option.bind_eq_some_iff.mp H
  obtain ⟨t221, A50, H⟩ := H
  replace H : (some (t221 == 0)) = some r := H
  have A5 := Aside0.mk A50
  clear A50
  obtain rfl := Option.some.inj H
  go_enter Try.func51, Try.ntmps51
  go_wp2_with (first | (go_at_call 50; (with_reducible refine (mask_And.calls k _ _ l0 _ _ l1 t218 _ ?side1 ?side2 ?side3 ?side4 A4.out).mono ?_); (case side1 => exact kD_ HR0.out); (case side2 => exact HC0.out); (case side3 => exact kD_ HR1.out); (case side4 => exact HC1.out); rintro e w6 ⟨v219, rfl, ho0, hb⟩; have n0_ := Aside0.mk (Kd.R_lower ho0 (below_size (hb0_ HB.out))); have n1_ := Aside0.mk (below_step (hb0_ HB.out) hb); clear HB; revert n0_ n1_; intro HO220 HB; (try clear hb); (try clear hb2); (try clear hk); (try clear hi); (try clear ho0); obtain ⟨Ao7, co7, eo7⟩ := Kd.R_slice HO220.out; subst eo7) | (go_at_call 45; (with_reducible refine (mask_Count.calls k _ _ t218 t221 _ ?side1 ?side2 A5.out).mono ?_); (case side1 => exact kD_ (Kd.R_reads' HO220.out).2.2); (case side2 => exact (Kd.R_reads' HO220.out).2.1); rintro e w' ⟨rfl, ⟨nd, rfl⟩⟩))
  go_ret
  exact ⟨by first | rfl | (simp [errW_none, errW_some] <;> rfl) | (simp [*, errW_none, errW_some] <;> rfl), (hb0_ HB.out)⟩
 ·
  rw [if_neg c3] at H
  have c3b0 : ((l0.length : Int) == (l1.length : Int)) = false := beq_eq_false_iff_ne.mpr c3
  have c3b1 : ((l0.length : Int) != (l1.length : Int)) = true := bne_iff_ne.mpr c3
  have c3b2 : (l0.length == l1.length) = false := by first | simpa using c3 | (simp at c3 ⊢; omega)
  obtain rfl := Option.some.inj H
  go_enter Try.func51, Try.ntmps51
  go_wp2
  go_ret
  exact ⟨by first | rfl | (simp [errW_none, errW_some] <;> rfl) | (simp [*, errW_none, errW_some] <;> rfl), (hb0_ HB.out)⟩

end Go.Proofs.Ytpcephbhnbfcmaa.G
