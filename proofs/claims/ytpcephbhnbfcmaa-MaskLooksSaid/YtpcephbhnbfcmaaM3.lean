-- Written by this session's program fork.py: a Lean function for each Go function and its walk. Not trusted: Lean checks it.
import Derived.Test.YtpcephbhnbfcmaaM0
import Derived.Test.YtpcephbhnbfcmaaM1
import Derived.Test.YtpcephbhnbfcmaaM2
namespace Go.Proofs.Ytpcephbhnbfcmaa.M
open Go.RowKit Go.Proofs.YtpcephbhnbfcmaaW.PrintWords Go.Proofs.YtpcephbhnbfcmaaW.PrintLast Go.Proofs.YtpcephbhnbfcmaaW.PrintMore
attribute [local go_sem] max2_int min2_int max_two min_two max_three min_three max_four min_four   -- for this text's walks alone
set_option linter.unusedVariables false
set_option linter.unusedSimpArgs false

/-! ### ref15_Put: function 54 -/
def ref15_Put.l0 : Nat → Int → List Int → List Int → Int → Int → Option (List Int)
 | 0, _, _, _, _, _ => none
 | k + 1, x2, x7, x12, x13, x14 => if x14 < x13 then (if 0 ≤ x14 then (if x14 < (x12.length : Int) then (if x14 < 63 then (if 0 ≤ (IntKind.u64.wrap (x14)) then ((ref15_change.f k x7 (rd x12 x14) ((Go.bits .and .i64 (shr .i64 x2 (IntKind.u64.wrap (x14))) 1) == 1)).bind fun t185 => (ref15_Put.l0 k x2 t185 x12 x13 (wrap64 (x14 + 1)))) else (none)) else ((ref15_change.f k x7 (rd x12 x14) false).bind fun t188 => (ref15_Put.l0 k x2 t188 x12 x13 (wrap64 (x14 + 1))))) else (none)) else (none)) else (some x7)
def ref15_Put.f (k : Nat) (l0 : List Int) (l1 : List Int) (a2 : Int) : Option (List Int) := if ([] : List Int).length + l0.length < 140737488355328 then (ref15_Put.l0 k a2 (([] : List Int) ++ l0) l1 (l1.length : Int) 0) else (none)
theorem ref15_Put.mono_l : ∀ k, (∀ y0 y1 y2 y3 y4, LeO (ref15_Put.l0 k y0 y1 y2 y3 y4) (ref15_Put.l0 (k + 1) y0 y1 y2 y3 y4))
 | 0 => fun _ _ _ _ _ r h => by simp [ref15_Put.l0] at h
 | k + 1 => by
  have ih0 := ref15_Put.mono_l k
  ·
   intro y0 y1 y2 y3 y4; unfold ref15_Put.l0
   repeat' first
   | (with_reducible exact ih0 _ _ _ _ _)
   | (with_reducible exact ref15_change.mono _ _ _ _)
   | (with_reducible exact LeO.refl _)
   | (with_reducible exact LeO.none _)
   | (with_reducible refine LeO.ite ?_ ?_)
   | (with_reducible refine LeO.bind ?_ (fun _ => ?_))
   | exact ih0 _ _ _ _ _
   | exact ref15_change.mono _ _ _ _
   | exact LeO.none _
   | refine LeO.ite ?_ ?_
   | refine LeO.bind ?_ (fun _ => ?_)
theorem ref15_Put.mono : ∀ a0 a1 a2 k, LeO (ref15_Put.f k a0 a1 a2) (ref15_Put.f (k + 1) a0 a1 a2) := by
 intro a0 a1 a2 k; have ih0 := ref15_Put.mono_l k; unfold ref15_Put.f
 repeat' first
   | (with_reducible exact ih0 _ _ _ _ _)
   | (with_reducible exact ref15_change.mono _ _ _ _)
   | (with_reducible exact LeO.refl _)
   | (with_reducible exact LeO.none _)
   | (with_reducible refine LeO.ite ?_ ?_)
   | (with_reducible refine LeO.bind ?_ (fun _ => ?_))
   | exact ih0 _ _ _ _ _
   | exact ref15_change.mono _ _ _ _
   | exact LeO.none _
   | refine LeO.ite ?_ ?_
   | refine LeO.bind ?_ (fun _ => ?_)
set_option maxHeartbeats 8000000 in
set_option maxRecDepth 100000 in
theorem ref15_Put.calls (k : Nat) (A0 : Option Addr) (c0 : Nat) (l0 : List Int) (A1 : Option Addr) (c1 : Nat) (l1 : List Int) (a2 : Int) (r : List Int) (w : World) (hr0 : Kd.C (Kd.int .u8) w A0 l0.length l0) (hc0 : l0.length ≤ c0) (hr1 : Kd.C (Kd.int .i64) w A1 l1.length l1) (hc1 : l1.length ≤ c1) (h : ref15_Put.f k l0 l1 a2 = some r) :
  Calls Try.prog 54 #[.slice A0 l0.length c0, .slice A1 l1.length c1, .int .i64 a2] w fun e w' => ∃ v0_ : Value, e = .returned (v0_) ∧ Kd.R (Kd.int .u8) 5 w' w.heap.size (fun _ => True) v0_ r ∧ Below w.heap.size w w' := by
 have HR0 := Aside0.mk hr0; have HC0 := Aside0.mk hc0; clear hr0 hc0; have HR1 := Aside0.mk hr1; have HC1 := Aside0.mk hc1; clear hr1 hc1; have HB := Aside0.mk (Below.refl w.heap.size w); have H : (if ([] : List Int).length + l0.length < 140737488355328 then (ref15_Put.l0 k a2 (([] : List Int) ++ l0) l1 (l1.length : Int) 0) else (none)) = some r := h; clear h; by_cases c4 : ([] : List Int).length + l0.length < 140737488355328
 ·
  rw [if_pos c4] at H; have LMc4 := Aside0.mk c4; clear c4; obtain ⟨y181, hy181⟩ : ∃ y_ : List Int, y_ = (([] : List Int) ++ l0) := ⟨_, rfl⟩; replace H : (ref15_Put.l0 k a2 y181 l1 (l1.length : Int) 0) = some r := by first | (rw [hy181]; with_reducible exact H) | (have H2_ := (Option.bind_some _ _).symm.trans H; rw [hy181]; with_reducible exact H2_) | (have H2_ := (Option.bind_some _ _).symm.trans H; with_reducible exact H2_) | with_reducible exact H | (rw [hy181]; exact H) | exact H
  have Ny181 := Aside0.mk hy181; clear hy181; have H' := Aside0.mk H; clear H; go_enter Try.func54, Try.ntmps54
  go_wp2_with (first | ((with_reducible refine gate_builtin (b := .append) (xs := #[.const (.slice none 0 0), .tmp 10]) rfl ?_); at_builtin; refine Kd.R_append_rows (Kd.int .u8) (w0 := w) w.heap.size rfl (.const (.slice none 0 0)) (.tmp 10) 27 5 (.int .u8 0) 1 rfl Try.underlying27 info5 rfl (by decide) (by omega) (.slice none 0 0) ([] : List Int) l0 _ _ _ (fun _ => True) (fun _ => False) rfl rfl ?aO ?aR (fun _ _ h => h) (fun _ h => h.elim) ?aF ?aB ?aS ?aL ?_; (case aR => repeat (first | exact HR0.out | (with_reducible refine Kd.C_alloc ?_ _) | (with_reducible refine Kd.C_drewN ?_ _) | (with_reducible refine Kd.C_drew ?_))); (case aB => exact (hb0_ HB.out)); (case aF => exact (fun _ _ => trivial)); (case aO => exact ((Kd.R_nil _ _ _ _ (fun _ => True)))); (case aS => exact (below_size (hb0_ HB.out))); (case aL => have := LMc4.out; omega); intro v182 w5 ho hb hg hat; rw [← Ny181.out] at ho; have n0_ := Aside0.mk (hb); have n1_ := Aside0.mk (ho); clear HB; revert n0_ n1_; intro HB HO183; clear ho hb hg hat))
  go_loopg [7, 14] k (fun kq v7 v14 w' => ∃ (x7_1 : List Int) (x14_1 : Int), v14 = .int .i64 x14_1 ∧ Aside0 (ref15_Put.l0 kq a2 x7_1 l1 (l1.length : Int) x14_1 = some r) ∧ Aside0 (kq ≤ k) ∧ Aside0 (Kd.R (Kd.int .u8) 5 w' w.heap.size (fun _ => True) v7 x7_1) ∧ Aside0 (Below w.heap.size w w'))
  case atStart => exact ⟨(y181), (0), rf_, H', ⟨Nat.le_refl _⟩, ⟨by (with_reducible repeat (first | apply Kd.R_alloc | apply Kd.R_drewN | apply Kd.R_drew)); exact HO183.out⟩, ⟨(hb0_ HB.out)⟩⟩
  case round =>
   clear H'; try clear c1
   try clear p2
   try clear c4
   try clear c5
   obtain ⟨x7_1, x14_1, rfl, HA, HK1, HO_7, HB⟩ := hrel; cases gk with
   | zero => exact absurd HA.out (by simp [ref15_Put.l0])
   | succ k1 =>
    have H := HA.out; clear HA; simp only [ref15_Put.l0] at H; by_cases c6 : x14_1 < (l1.length : Int)
    ·
     rw [if_pos c6] at H; have c6b0 : decide (x14_1 < (l1.length : Int)) = true := decide_eq_true c6; clear c6; by_cases c7 : 0 ≤ x14_1
     rotate_left
     ·
      rw [if_neg c7] at H; exact absurd H (by simp)
     rw [if_pos c7] at H; have c7b0 : decide (0 ≤ x14_1) = true := decide_eq_true c7; clear c7; by_cases c8 : x14_1 < (l1.length : Int)
     rotate_left
     ·
      rw [if_neg c8] at H; exact absurd H (by simp)
     rw [if_pos c8] at H; have c8b0 : decide (x14_1 < (l1.length : Int)) = true := decide_eq_true c8; clear c8; by_cases c9 : x14_1 < 63
     ·
      rw [if_pos c9] at H; have c9b0 : decide (x14_1 < 63) = true := decide_eq_true c9; clear c9; obtain ⟨ji10, hji10⟩ : ∃ j_ : Int, (IntKind.u64.wrap (x14_1)) = j_ := ⟨_, rfl⟩; replace H : (if 0 ≤ (ji10) then ((ref15_change.f k1 x7_1 (rd l1 x14_1) ((Go.bits .and .i64 (shr .i64 a2 (ji10)) 1) == 1)).bind fun t185 => (ref15_Put.l0 k1 a2 t185 l1 (l1.length : Int) (wrap64 (x14_1 + 1)))) else (none)) = some r := by first | (rw [hji10] at H; exact H) | (simp only [hji10] at H ⊢; exact H)
      by_cases c11 : 0 ≤ (ji10)
      rotate_left
      ·
       rw [if_neg c11] at H; exact absurd H (by simp)
      rw [if_pos c11] at H; have c11b0 := eq_true c11; have c11b1 : decide (0 ≤ (ji10)) = true := decide_eq_true c11; clear c11; obtain ⟨ji12, hji12⟩ : ∃ j_ : Int, (shr .i64 a2 (ji10)) = j_ := ⟨_, rfl⟩; replace H : ((ref15_change.f k1 x7_1 (rd l1 x14_1) ((Go.bits .and .i64 (ji12) 1) == 1)).bind fun t185 => (ref15_Put.l0 k1 a2 t185 l1 (l1.length : Int) (wrap64 (x14_1 + 1)))) = some r := by first | (rw [hji12] at H; exact H) | (simp only [hji12] at H ⊢; exact H)
      have hji12_ : (a2 / 2 ^ min (ji10).toNat 64) = ji12 := hji12; have hji12z : (ji10) ≤ 64 → (a2 / 2 ^ (ji10).toNat) = ji12 := shr_small hji12; replace H := Option.bind_eq_some_iff.mp H; obtain ⟨t185, A130, H⟩ := H; (try dsimp only at H); have A13 := Aside0.mk A130; clear A130; have H' := Aside0.mk H; clear H; have p184 : 0 ≤ (x14_1 : Int) := od_; have q184 : x14_1 < (l1.length : Int) := od_; obtain ⟨ad184, e184, hx184_0⟩ := Kd.at_int HR1.out x14_1 p184 q184; cases e184; replace hx184_0 := (HB.out.cell (World.block_lt_of_cell? w _ hx184_0)).trans hx184_0; replace p184 := eq_true p184; replace q184 := eq_true q184; obtain ⟨Ao14, co14, eo14⟩ := Kd.R_slice HO_7.out; subst eo14; go_wp2_with (first | ((with_reducible refine gate_callee (f := 89) rfl ?_); refine goesL_ (some 31) rfl rfl Try.func89 (by kernel_rfl) rfl #[.slice Ao14 x7_1.length co14, .int .i64 (rd l1 x14_1), .bool ((Go.bits .and .i64 (ji12) 1) == 1)] rfl (by (try simp only [List.map_toArray, List.map_cons, List.map_nil]); first | done | (simp only [hji12]; rfl) | rfl | (simp only [List.length_drop, List.length_take]; rfl)) ?_; (with_reducible refine (ref15_change.calls k1 (fun k_ => some k_ = (.slice Ao14 x7_1.length co14 : Value).ownBlock) (.slice Ao14 x7_1.length co14) x7_1 (rd l1 x14_1) ((Go.bits .and .i64 (ji12) 1) == 1) t185 w _ ?side1 ?side2 A13.out).mono ?_); (case side1 => exact (hb0_ HB.out)); (case side2 => exact Kd.R_tight rfl HO_7.out); rintro e w15 ⟨v186, rfl, ho0, hb, hkp⟩; refine ⟨_, rfl, ?_⟩; have n0_ := Aside0.mk (Kd.R_mono (ok' := fun k_ => True) ho0 (fun k_ hk_ => trivial)); have n1_ := Aside0.mk (hb); clear HB HO_7; revert n0_ n1_; intro HO187 HB; (try clear hb); (try clear hkp); (try clear ho0)))
      go_roundg k1
      case measure => have := HK1.out; omega
      case rel => exact ⟨(t185), (wrap64 (x14_1 + 1)), rf_, H', ⟨by have := HK1.out; omega⟩, ⟨by (with_reducible repeat (first | apply Kd.R_alloc | apply Kd.R_drewN | apply Kd.R_drew)); exact HO187.out⟩, ⟨(hb0_ HB.out)⟩⟩
     ·
      rw [if_neg c9] at H; have c9b0 : decide (x14_1 < 63) = false := decide_eq_false c9; clear c9; replace H := Option.bind_eq_some_iff.mp H; obtain ⟨t188, A160, H⟩ := H; (try dsimp only at H); have A16 := Aside0.mk A160; clear A160; have H' := Aside0.mk H; clear H; have p184 : 0 ≤ (x14_1 : Int) := od_; have q184 : x14_1 < (l1.length : Int) := od_; obtain ⟨ad184, e184, hx184_0⟩ := Kd.at_int HR1.out x14_1 p184 q184; cases e184; replace hx184_0 := (HB.out.cell (World.block_lt_of_cell? w _ hx184_0)).trans hx184_0; replace p184 := eq_true p184; replace q184 := eq_true q184; obtain ⟨Ao17, co17, eo17⟩ := Kd.R_slice HO_7.out; subst eo17; go_wp2_with (first | ((with_reducible refine gate_callee (f := 89) rfl ?_); refine goesL_ (some 31) rfl rfl Try.func89 (by kernel_rfl) rfl #[.slice Ao17 x7_1.length co17, .int .i64 (rd l1 x14_1), .bool false] rfl lm_ ?_; (with_reducible refine (ref15_change.calls k1 (fun k_ => some k_ = (.slice Ao17 x7_1.length co17 : Value).ownBlock) (.slice Ao17 x7_1.length co17) x7_1 (rd l1 x14_1) false t188 w _ ?side1 ?side2 A16.out).mono ?_); (case side1 => exact (hb0_ HB.out)); (case side2 => exact Kd.R_tight rfl HO_7.out); rintro e w18 ⟨v189, rfl, ho0, hb, hkp⟩; refine ⟨_, rfl, ?_⟩; have n0_ := Aside0.mk (Kd.R_mono (ok' := fun k_ => True) ho0 (fun k_ hk_ => trivial)); have n1_ := Aside0.mk (hb); clear HB HO_7; revert n0_ n1_; intro HO190 HB; (try clear hb); (try clear hkp); (try clear ho0)))
      go_roundg k1
      case measure => have := HK1.out; omega
      case rel => exact ⟨(t188), (wrap64 (x14_1 + 1)), rf_, H', ⟨by have := HK1.out; omega⟩, ⟨by (with_reducible repeat (first | apply Kd.R_alloc | apply Kd.R_drewN | apply Kd.R_drew)); exact HO190.out⟩, ⟨(hb0_ HB.out)⟩⟩
    ·
     rw [if_neg c6] at H; have c6b0 : decide (x14_1 < (l1.length : Int)) = false := decide_eq_false c6; clear c6; obtain rfl := Option.some.inj H; go_wp2
     go_ret
     exact ⟨_, by first | rfl | (simp [errW_none, errW_some] <;> rfl) | (simp [*, errW_none, errW_some] <;> rfl), by (with_reducible repeat (first | apply Kd.R_alloc | apply Kd.R_drewN | apply Kd.R_drew)); exact HO_7.out, (hb0_ HB.out)⟩
 ·
  rw [if_neg c4] at H; exact absurd H (by simp)

/-! ### ref15_Get: function 55 -/
def ref15_Get.l0 : Nat → List Int → Int → List Int → Int → Int → Option (Int)
 | 0, _, _, _, _, _ => none
 | k + 1, x0, x5, x8, x9, x10 => if x10 < x9 then (if 0 ≤ x10 then (if x10 < (x8.length : Int) then (if x10 < 62 then ((ref15_set.f x0 (rd x8 x10)).bind fun t192 => (if t192 = true then (if 0 ≤ (IntKind.u64.wrap (x10)) then (ref15_Get.l0 k x0 (Go.bits .or .i64 x5 (shl .i64 1 (IntKind.u64.wrap (x10)))) x8 x9 (wrap64 (x10 + 1))) else (none)) else (ref15_Get.l0 k x0 x5 x8 x9 (wrap64 (x10 + 1))))) else (ref15_Get.l0 k x0 x5 x8 x9 (wrap64 (x10 + 1)))) else (none)) else (none)) else (some x5)
def ref15_Get.f (k : Nat) (l0 : List Int) (l1 : List Int) : Option (Int) := ref15_Get.l0 k l0 0 l1 (l1.length : Int) 0
theorem ref15_Get.mono_l : ∀ k, (∀ y0 y1 y2 y3 y4, LeO (ref15_Get.l0 k y0 y1 y2 y3 y4) (ref15_Get.l0 (k + 1) y0 y1 y2 y3 y4))
 | 0 => fun _ _ _ _ _ r h => by simp [ref15_Get.l0] at h
 | k + 1 => by
  have ih0 := ref15_Get.mono_l k
  ·
   intro y0 y1 y2 y3 y4; unfold ref15_Get.l0
   repeat' first
   | (with_reducible exact ih0 _ _ _ _ _)
   | (with_reducible exact LeO.refl _)
   | (with_reducible exact LeO.none _)
   | (with_reducible refine LeO.ite ?_ ?_)
   | (with_reducible refine LeO.bind ?_ (fun _ => ?_))
   | exact ih0 _ _ _ _ _
   | exact LeO.none _
   | refine LeO.ite ?_ ?_
   | refine LeO.bind ?_ (fun _ => ?_)
theorem ref15_Get.mono : ∀ a0 a1 k, LeO (ref15_Get.f k a0 a1) (ref15_Get.f (k + 1) a0 a1) := by
 intro a0 a1 k; have ih0 := ref15_Get.mono_l k; unfold ref15_Get.f
 repeat' first
   | (with_reducible exact ih0 _ _ _ _ _)
   | (with_reducible exact LeO.refl _)
   | (with_reducible exact LeO.none _)
   | (with_reducible refine LeO.ite ?_ ?_)
   | (with_reducible refine LeO.bind ?_ (fun _ => ?_))
   | exact ih0 _ _ _ _ _
   | exact LeO.none _
   | refine LeO.ite ?_ ?_
   | refine LeO.bind ?_ (fun _ => ?_)
set_option maxHeartbeats 8000000 in
set_option maxRecDepth 100000 in
theorem ref15_Get.calls (k : Nat) (A0 : Option Addr) (c0 : Nat) (l0 : List Int) (A1 : Option Addr) (c1 : Nat) (l1 : List Int) (r : Int) (w : World) (hr0 : Kd.C (Kd.int .u8) w A0 l0.length l0) (hc0 : l0.length ≤ c0) (hr1 : Kd.C (Kd.int .i64) w A1 l1.length l1) (hc1 : l1.length ≤ c1) (h : ref15_Get.f k l0 l1 = some r) :
  Calls Try.prog 55 #[.slice A0 l0.length c0, .slice A1 l1.length c1] w fun e w' => e = .returned (.int .i64 r) ∧ Drawn0 w w' := by
 have HR0 := Aside0.mk hr0; have HC0 := Aside0.mk hc0; clear hr0 hc0; have HR1 := Aside0.mk hr1; have HC1 := Aside0.mk hc1; clear hr1 hc1; have H : (ref15_Get.l0 k l0 0 l1 (l1.length : Int) 0) = some r := h; clear h; have H' := Aside0.mk H; clear H; go_enter Try.func55, Try.ntmps55
 go_wp2
 go_loopg [5, 10] k (fun kq v5 v10 w' => ∃ (x5_1 : Int) (x10_1 : Int), v5 = .int .i64 x5_1 ∧ v10 = .int .i64 x10_1 ∧ Aside0 (ref15_Get.l0 kq l0 x5_1 l1 (l1.length : Int) x10_1 = some r) ∧ Aside0 (kq ≤ k) ∧ Drawn0 w w')
 case atStart => exact ⟨(0), (0), rf_, rf_, H', ⟨Nat.le_refl _⟩, by repeat (first | exact Drawn0.refl _ | apply Drawn0.step)⟩
 case round =>
  clear H'; try clear c1
  try clear p2
  obtain ⟨x5_1, x10_1, rfl, rfl, HA, HK1, ⟨m1, rfl⟩⟩ := hrel; cases gk with
  | zero => exact absurd HA.out (by simp [ref15_Get.l0])
  | succ k1 =>
   have H := HA.out; clear HA; simp only [ref15_Get.l0] at H; by_cases c3 : x10_1 < (l1.length : Int)
   ·
    rw [if_pos c3] at H; have c3b0 : decide (x10_1 < (l1.length : Int)) = true := decide_eq_true c3; clear c3; by_cases c4 : 0 ≤ x10_1
    rotate_left
    ·
     rw [if_neg c4] at H; exact absurd H (by simp)
    rw [if_pos c4] at H; have c4b0 : decide (0 ≤ x10_1) = true := decide_eq_true c4; clear c4; by_cases c5 : x10_1 < (l1.length : Int)
    rotate_left
    ·
     rw [if_neg c5] at H; exact absurd H (by simp)
    rw [if_pos c5] at H; have c5b0 : decide (x10_1 < (l1.length : Int)) = true := decide_eq_true c5; clear c5; by_cases c6 : x10_1 < 62
    ·
     rw [if_pos c6] at H; have c6b0 : decide (x10_1 < 62) = true := decide_eq_true c6; clear c6; replace H := Option.bind_eq_some_iff.mp H; obtain ⟨t192, A70, H⟩ := H; (try dsimp only at H); have A7 := Aside0.mk A70; clear A70; by_cases c8 : t192 = true
     ·
      subst c8; have H1 : (if 0 ≤ (IntKind.u64.wrap (x10_1)) then (ref15_Get.l0 k1 l0 (Go.bits .or .i64 x5_1 (shl .i64 1 (IntKind.u64.wrap (x10_1)))) l1 (l1.length : Int) (wrap64 (x10_1 + 1))) else (none)) = some r := by rw [if_pos rfl] at H; exact H
      clear H; have H := H1; clear H1; obtain ⟨ji9, hji9⟩ : ∃ j_ : Int, (IntKind.u64.wrap (x10_1)) = j_ := ⟨_, rfl⟩; replace H : (if 0 ≤ (ji9) then (ref15_Get.l0 k1 l0 (Go.bits .or .i64 x5_1 (shl .i64 1 (ji9))) l1 (l1.length : Int) (wrap64 (x10_1 + 1))) else (none)) = some r := by first | (rw [hji9] at H; exact H) | (simp only [hji9] at H ⊢; exact H)
      (try rw [hji9] at A7)
      by_cases c10 : 0 ≤ (ji9)
      rotate_left
      ·
       rw [if_neg c10] at H; exact absurd H (by simp)
      rw [if_pos c10] at H; have c10b0 := eq_true c10; have c10b1 : decide (0 ≤ (ji9)) = true := decide_eq_true c10; clear c10; obtain ⟨ji11, hji11⟩ : ∃ j_ : Int, (shl .i64 1 (ji9)) = j_ := ⟨_, rfl⟩; replace H : (ref15_Get.l0 k1 l0 (Go.bits .or .i64 x5_1 (ji11)) l1 (l1.length : Int) (wrap64 (x10_1 + 1))) = some r := by first | (rw [hji11] at H; exact H) | (simp only [hji11] at H ⊢; exact H)
      (try rw [hji11] at A7)
      have hji11_ : (IntKind.i64.wrap (1 * 2 ^ min (ji9).toNat 64)) = ji11 := hji11; have hji11z : (ji9) ≤ 64 → (IntKind.i64.wrap (1 * 2 ^ (ji9).toNat)) = ji11 := shl_small hji11; have hji11u : (IntKind.i64.wrap (2 ^ min (ji9).toNat 64)) = ji11 := by have h_ := hji11_; rw [Int.one_mul] at h_; exact h_
      have hji11v : (ji9) ≤ 64 → (IntKind.i64.wrap (2 ^ (ji9).toNat)) = ji11 := fun hle_ => by have h_ := hji11z hle_; rw [Int.one_mul] at h_; exact h_
      have hji11y : (wrap64 (1 * 2 ^ min (ji9).toNat 64)) = ji11 := (i64_w _).symm.trans hji11_; have hji11x : (ji9) ≤ 64 → (wrap64 (1 * 2 ^ (ji9).toNat)) = ji11 := fun h_ => (i64_w _).symm.trans (hji11z h_); have H' := Aside0.mk H; clear H; have p191 : 0 ≤ (x10_1 : Int) := od_; have q191 : x10_1 < (l1.length : Int) := od_; obtain ⟨ad191, e191, hx191_0⟩ := Kd.at_int HR1.out x10_1 p191 q191; cases e191; replace p191 := eq_true p191; replace q191 := eq_true q191; go_wp2_with (first | (go_at_call 76; (with_reducible refine (ref15_set.calls _ _ l0 (rd l1 x10_1) true _ ?side1 ?side2 A7.out).mono ?_); (case side1 => exact kD_ HR0.out); (case side2 => exact HC0.out); rintro e w' ⟨rfl, ⟨nd, rfl⟩⟩))
      go_roundg k1
      case measure => have := HK1.out; omega
      case rel => exact ⟨(Go.bits .or .i64 x5_1 (ji11)), (wrap64 (x10_1 + 1)), (by first | rfl | (simp; done) | (simp only [← hji11] <;> (first | rfl | simp)) | (simp [*]; done)), rf_, H', ⟨by have := HK1.out; omega⟩, by repeat (first | exact Drawn0.refl _ | apply Drawn0.step)⟩
     ·
      replace c8 := Bool.eq_false_iff.mpr c8; subst c8; have H1 : (ref15_Get.l0 k1 l0 x5_1 l1 (l1.length : Int) (wrap64 (x10_1 + 1))) = some r := by rw [if_neg (show ¬ (false = true) by decide)] at H; exact H
      clear H; have H := H1; clear H1; have H' := Aside0.mk H; clear H; have p191 : 0 ≤ (x10_1 : Int) := od_; have q191 : x10_1 < (l1.length : Int) := od_; obtain ⟨ad191, e191, hx191_0⟩ := Kd.at_int HR1.out x10_1 p191 q191; cases e191; replace p191 := eq_true p191; replace q191 := eq_true q191; go_wp2_with (first | (go_at_call 76; (with_reducible refine (ref15_set.calls _ _ l0 (rd l1 x10_1) false _ ?side1 ?side2 A7.out).mono ?_); (case side1 => exact kD_ HR0.out); (case side2 => exact HC0.out); rintro e w' ⟨rfl, ⟨nd, rfl⟩⟩))
      go_roundg k1
      case measure => have := HK1.out; omega
      case rel => exact ⟨(x5_1), (wrap64 (x10_1 + 1)), rf_, rf_, H', ⟨by have := HK1.out; omega⟩, by repeat (first | exact Drawn0.refl _ | apply Drawn0.step)⟩
    ·
     rw [if_neg c6] at H; have c6b0 : decide (x10_1 < 62) = false := decide_eq_false c6; clear c6; have H' := Aside0.mk H; clear H; have p191 : 0 ≤ (x10_1 : Int) := od_; have q191 : x10_1 < (l1.length : Int) := od_; obtain ⟨ad191, e191, hx191_0⟩ := Kd.at_int HR1.out x10_1 p191 q191; cases e191; replace p191 := eq_true p191; replace q191 := eq_true q191; go_wp2
     go_roundg k1
     case measure => have := HK1.out; omega
     case rel => exact ⟨(x5_1), (wrap64 (x10_1 + 1)), rf_, rf_, H', ⟨by have := HK1.out; omega⟩, by repeat (first | exact Drawn0.refl _ | apply Drawn0.step)⟩
   ·
    rw [if_neg c3] at H; have c3b0 : decide (x10_1 < (l1.length : Int)) = false := decide_eq_false c3; clear c3; obtain rfl := Option.some.inj H; go_wp2
    go_ret
    exact ⟨rf_, by repeat (first | exact Drawn0.refl _ | apply Drawn0.step)⟩

/-! ### mask_Valid: function 56 -/
def mask_Valid.f (a0_0 : Int) (a0_1 : Int) (l0_2 : List Int) (l0_3 : List Int) (l0_4 : List (S101)) (l0_5 : List (S79)) (l0_6 : List Int) (a0_7 : Bool) : Option (Bool) := if a0_0 ≥ 0 then (if a0_0 ≤ 1024 then (if a0_1 = 1 then (some ((l0_2.length : Int) == a0_0)) else (if a0_1 = 8 then (some ((l0_2.length : Int) == a0_0)) else (some false))) else (some false)) else (some false)
set_option maxHeartbeats 8000000 in
set_option maxRecDepth 100000 in
theorem mask_Valid.calls (a0_0 : Int) (a0_1 : Int) (A0_2 : Option Addr) (c0_2 : Nat) (l0_2 : List Int) (A0_3 : Option Addr) (c0_3 : Nat) (l0_3 : List Int) (A0_4 : Option Addr) (c0_4 : Nat) (l0_4 : List (S101)) (A0_5 : Option Addr) (c0_5 : Nat) (l0_5 : List (S79)) (A0_6 : Option Addr) (c0_6 : Nat) (l0_6 : List Int) (a0_7 : Bool) (r : Bool) (w : World) (hr0_2 : Kd.C (Kd.int .u8) w A0_2 l0_2.length l0_2) (hc0_2 : l0_2.length ≤ c0_2) (hr0_3 : Kd.C (Kd.int .i64) w A0_3 l0_3.length l0_3) (hc0_3 : l0_3.length ≤ c0_3) (hr0_4 : Kd.C k101 w A0_4 l0_4.length l0_4) (hc0_4 : l0_4.length ≤ c0_4) (hr0_5 : Kd.C k79 w A0_5 l0_5.length l0_5) (hc0_5 : l0_5.length ≤ c0_5) (hr0_6 : Kd.C (Kd.int .i64) w A0_6 l0_6.length l0_6) (hc0_6 : l0_6.length ≤ c0_6) (h : mask_Valid.f a0_0 a0_1 l0_2 l0_3 l0_4 l0_5 l0_6 a0_7 = some r) :
  Calls Try.prog 56 #[.agg #[.int .i64 a0_0, .int .i64 a0_1, .slice A0_2 l0_2.length c0_2, .slice A0_3 l0_3.length c0_3, .slice A0_4 l0_4.length c0_4, .slice A0_5 l0_5.length c0_5, .slice A0_6 l0_6.length c0_6, .bool a0_7]] w fun e w' => e = .returned (.bool r) ∧ Below w.heap.size w w' := by
 have hu31 := Try.underlying31; have HR0_2 := Aside0.mk hr0_2; have HC0_2 := Aside0.mk hc0_2; clear hr0_2 hc0_2; have HR0_3 := Aside0.mk hr0_3; have HC0_3 := Aside0.mk hc0_3; clear hr0_3 hc0_3; have HR0_4 := Aside0.mk hr0_4; have HC0_4 := Aside0.mk hc0_4; clear hr0_4 hc0_4; have HR0_5 := Aside0.mk hr0_5; have HC0_5 := Aside0.mk hc0_5; clear hr0_5 hc0_5; have HR0_6 := Aside0.mk hr0_6; have HC0_6 := Aside0.mk hc0_6; clear hr0_6 hc0_6; have HB := Aside0.mk (Below.refl w.heap.size w); have H : (if a0_0 ≥ 0 then (if a0_0 ≤ 1024 then (if a0_1 = 1 then (some ((l0_2.length : Int) == a0_0)) else (if a0_1 = 8 then (some ((l0_2.length : Int) == a0_0)) else (some false))) else (some false)) else (some false)) = some r := h; clear h; by_cases c2 : a0_0 ≥ 0
 ·
  rw [if_pos c2] at H; have c2b0 : decide (0 ≤ a0_0) = true := decide_eq_true c2; clear c2; by_cases c3 : a0_0 ≤ 1024
  ·
   rw [if_pos c3] at H; have c3b0 : decide (a0_0 ≤ 1024) = true := decide_eq_true c3; clear c3; by_cases c4 : a0_1 = 1
   ·
    rw [if_pos c4] at H; have c4b0 : (a0_1 == 1) = true := beq_iff_eq.mpr c4; have c4b1 : (a0_1 != 1) = false := bne_eq_false_iff_eq.mpr c4; clear c4; obtain rfl := Option.some.inj H; go_enter Try.func56, Try.ntmps56
    go_wp2_with (first | ((with_reducible refine gate_dst (N := 1) rfl ?_); (try (refine gate_guard (by rfl) ?_; dsimp only)); refine box_event ?hg (N := 1) ?hd (cs := #[.int .i64 a0_0, .int .i64 a0_1, .slice A0_2 l0_2.length c0_2, .slice A0_3 l0_3.length c0_3, .slice A0_4 l0_4.length c0_4, .slice A0_5 l0_5.length c0_5, .slice A0_6 l0_6.length c0_6, .bool a0_7]) (t := 31) ?hr ?_; (case hd => rfl); (case hg => rfl); (case hr => first | (go_simp; done) | (go_simp; rfl)); intro gb193 hg w5 hbox hb; have n0_ := Aside0.mk (below_step (hb0_ HB.out) hb); have n1_ := Aside0.mk (hbox); have n2_ := Aside0.mk ((by rw [hg]; exact (below_size (hb0_ HB.out)) : w.heap.size ≤ gb193)); have n3_ := Aside0.mk ((by rw [hg]; exact (below_size (hb0_ HB.out)) : w.heap.size ≤ gb193)); clear HB; revert n0_ n1_ n2_ n3_; intro HB BK193 GW193 GE193; clear hb hbox hg; obtain ⟨hcz6_0, hcz6_1, hcz6_2, hcz6_3, hcz6_4, hcz6_5, hcz6_6, hcz6_7, hfz6_0, hfz6_1, hfz6_2, hfz6_3, hfz6_4, hfz6_5, hfz6_6, hfz6_7⟩ := bx8_ BK193.out))
    go_ret
    exact ⟨by first | rfl | (simp [errW_none, errW_some] <;> rfl) | (simp [*, errW_none, errW_some] <;> rfl), (hb1_ HB.out GE193.out)⟩
   ·
    rw [if_neg c4] at H; have c4b0 : (a0_1 == 1) = false := beq_eq_false_iff_ne.mpr c4; have c4b1 : (a0_1 != 1) = true := bne_iff_ne.mpr c4; by_cases c7 : a0_1 = 8
    ·
     rw [if_pos c7] at H; have c7b0 : (a0_1 == 8) = true := beq_iff_eq.mpr c7; have c7b1 : (a0_1 != 8) = false := bne_eq_false_iff_eq.mpr c7; clear c7; obtain rfl := Option.some.inj H; go_enter Try.func56, Try.ntmps56
     go_wp2_with (first | ((with_reducible refine gate_dst (N := 1) rfl ?_); (try (refine gate_guard (by rfl) ?_; dsimp only)); refine box_event ?hg (N := 1) ?hd (cs := #[.int .i64 a0_0, .int .i64 a0_1, .slice A0_2 l0_2.length c0_2, .slice A0_3 l0_3.length c0_3, .slice A0_4 l0_4.length c0_4, .slice A0_5 l0_5.length c0_5, .slice A0_6 l0_6.length c0_6, .bool a0_7]) (t := 31) ?hr ?_; (case hd => rfl); (case hg => rfl); (case hr => first | (go_simp; done) | (go_simp; rfl)); intro gb193 hg w8 hbox hb; have n0_ := Aside0.mk (below_step (hb0_ HB.out) hb); have n1_ := Aside0.mk (hbox); have n2_ := Aside0.mk ((by rw [hg]; exact (below_size (hb0_ HB.out)) : w.heap.size ≤ gb193)); have n3_ := Aside0.mk ((by rw [hg]; exact (below_size (hb0_ HB.out)) : w.heap.size ≤ gb193)); clear HB; revert n0_ n1_ n2_ n3_; intro HB BK193 GW193 GE193; clear hb hbox hg; obtain ⟨hcz9_0, hcz9_1, hcz9_2, hcz9_3, hcz9_4, hcz9_5, hcz9_6, hcz9_7, hfz9_0, hfz9_1, hfz9_2, hfz9_3, hfz9_4, hfz9_5, hfz9_6, hfz9_7⟩ := bx8_ BK193.out))
     go_ret
     exact ⟨by first | rfl | (simp [errW_none, errW_some] <;> rfl) | (simp [*, errW_none, errW_some] <;> rfl), (hb1_ HB.out GE193.out)⟩
    ·
     rw [if_neg c7] at H; have c7b0 : (a0_1 == 8) = false := beq_eq_false_iff_ne.mpr c7; have c7b1 : (a0_1 != 8) = true := bne_iff_ne.mpr c7; obtain rfl := Option.some.inj H; go_enter Try.func56, Try.ntmps56
     go_wp2_with (first | ((with_reducible refine gate_dst (N := 1) rfl ?_); (try (refine gate_guard (by rfl) ?_; dsimp only)); refine box_event ?hg (N := 1) ?hd (cs := #[.int .i64 a0_0, .int .i64 a0_1, .slice A0_2 l0_2.length c0_2, .slice A0_3 l0_3.length c0_3, .slice A0_4 l0_4.length c0_4, .slice A0_5 l0_5.length c0_5, .slice A0_6 l0_6.length c0_6, .bool a0_7]) (t := 31) ?hr ?_; (case hd => rfl); (case hg => rfl); (case hr => first | (go_simp; done) | (go_simp; rfl)); intro gb193 hg w10 hbox hb; have n0_ := Aside0.mk (below_step (hb0_ HB.out) hb); have n1_ := Aside0.mk (hbox); have n2_ := Aside0.mk ((by rw [hg]; exact (below_size (hb0_ HB.out)) : w.heap.size ≤ gb193)); have n3_ := Aside0.mk ((by rw [hg]; exact (below_size (hb0_ HB.out)) : w.heap.size ≤ gb193)); clear HB; revert n0_ n1_ n2_ n3_; intro HB BK193 GW193 GE193; clear hb hbox hg; obtain ⟨hcz11_0, hcz11_1, hcz11_2, hcz11_3, hcz11_4, hcz11_5, hcz11_6, hcz11_7, hfz11_0, hfz11_1, hfz11_2, hfz11_3, hfz11_4, hfz11_5, hfz11_6, hfz11_7⟩ := bx8_ BK193.out))
     go_ret
     exact ⟨by first | rfl | (simp [errW_none, errW_some] <;> rfl) | (simp [*, errW_none, errW_some] <;> rfl), (hb1_ HB.out GE193.out)⟩
  ·
   rw [if_neg c3] at H; have c3b0 : decide (a0_0 ≤ 1024) = false := decide_eq_false c3; clear c3; obtain rfl := Option.some.inj H; go_enter Try.func56, Try.ntmps56
   go_wp2_with (first | ((with_reducible refine gate_dst (N := 1) rfl ?_); (try (refine gate_guard (by rfl) ?_; dsimp only)); refine box_event ?hg (N := 1) ?hd (cs := #[.int .i64 a0_0, .int .i64 a0_1, .slice A0_2 l0_2.length c0_2, .slice A0_3 l0_3.length c0_3, .slice A0_4 l0_4.length c0_4, .slice A0_5 l0_5.length c0_5, .slice A0_6 l0_6.length c0_6, .bool a0_7]) (t := 31) ?hr ?_; (case hd => rfl); (case hg => rfl); (case hr => first | (go_simp; done) | (go_simp; rfl)); intro gb193 hg w12 hbox hb; have n0_ := Aside0.mk (below_step (hb0_ HB.out) hb); have n1_ := Aside0.mk (hbox); have n2_ := Aside0.mk ((by rw [hg]; exact (below_size (hb0_ HB.out)) : w.heap.size ≤ gb193)); have n3_ := Aside0.mk ((by rw [hg]; exact (below_size (hb0_ HB.out)) : w.heap.size ≤ gb193)); clear HB; revert n0_ n1_ n2_ n3_; intro HB BK193 GW193 GE193; clear hb hbox hg; obtain ⟨hcz13_0, hcz13_1, hcz13_2, hcz13_3, hcz13_4, hcz13_5, hcz13_6, hcz13_7, hfz13_0, hfz13_1, hfz13_2, hfz13_3, hfz13_4, hfz13_5, hfz13_6, hfz13_7⟩ := bx8_ BK193.out))
   go_ret
   exact ⟨by first | rfl | (simp [errW_none, errW_some] <;> rfl) | (simp [*, errW_none, errW_some] <;> rfl), (hb1_ HB.out GE193.out)⟩
 ·
  rw [if_neg c2] at H; have c2b0 : decide (0 ≤ a0_0) = false := decide_eq_false c2; clear c2; obtain rfl := Option.some.inj H; go_enter Try.func56, Try.ntmps56
  go_wp2_with (first | ((with_reducible refine gate_dst (N := 1) rfl ?_); (try (refine gate_guard (by rfl) ?_; dsimp only)); refine box_event ?hg (N := 1) ?hd (cs := #[.int .i64 a0_0, .int .i64 a0_1, .slice A0_2 l0_2.length c0_2, .slice A0_3 l0_3.length c0_3, .slice A0_4 l0_4.length c0_4, .slice A0_5 l0_5.length c0_5, .slice A0_6 l0_6.length c0_6, .bool a0_7]) (t := 31) ?hr ?_; (case hd => rfl); (case hg => rfl); (case hr => first | (go_simp; done) | (go_simp; rfl)); intro gb193 hg w14 hbox hb; have n0_ := Aside0.mk (below_step (hb0_ HB.out) hb); have n1_ := Aside0.mk (hbox); have n2_ := Aside0.mk ((by rw [hg]; exact (below_size (hb0_ HB.out)) : w.heap.size ≤ gb193)); have n3_ := Aside0.mk ((by rw [hg]; exact (below_size (hb0_ HB.out)) : w.heap.size ≤ gb193)); clear HB; revert n0_ n1_ n2_ n3_; intro HB BK193 GW193 GE193; clear hb hbox hg; obtain ⟨hcz15_0, hcz15_1, hcz15_2, hcz15_3, hcz15_4, hcz15_5, hcz15_6, hcz15_7, hfz15_0, hfz15_1, hfz15_2, hfz15_3, hfz15_4, hfz15_5, hfz15_6, hfz15_7⟩ := bx8_ BK193.out))
  go_ret
  exact ⟨by first | rfl | (simp [errW_none, errW_some] <;> rfl) | (simp [*, errW_none, errW_some] <;> rfl), (hb1_ HB.out GE193.out)⟩

/-! ### ref15_Extend: function 57 -/
def ref15_Extend.l0 : Nat → List Int → Int → List Int → Int → Option (List Int)
 | 0, _, _, _, _ => none
 | k + 1, x0, x1, x5, x6 => if x6 < (mn x1 1024) then (if x6 < (x0.length : Int) then (if 0 ≤ x6 then (if x5.length < 140737488355328 then (ref15_Extend.l0 k x0 x1 (x5 ++ [rd x0 x6]) (wrap64 (x6 + 1))) else (none)) else (none)) else (if x5.length < 140737488355328 then (ref15_Extend.l0 k x0 x1 (x5 ++ [255]) (wrap64 (x6 + 1))) else (none))) else (some x5)
def ref15_Extend.f (k : Nat) (l0 : List Int) (a1 : Int) : Option (List Int) := ref15_Extend.l0 k l0 a1 ([] : List Int) 0
theorem ref15_Extend.mono_l : ∀ k, (∀ y0 y1 y2 y3, LeO (ref15_Extend.l0 k y0 y1 y2 y3) (ref15_Extend.l0 (k + 1) y0 y1 y2 y3))
 | 0 => fun _ _ _ _ r h => by simp [ref15_Extend.l0] at h
 | k + 1 => by
  have ih0 := ref15_Extend.mono_l k
  ·
   intro y0 y1 y2 y3; unfold ref15_Extend.l0
   repeat' first
   | (with_reducible exact ih0 _ _ _ _)
   | (with_reducible exact LeO.refl _)
   | (with_reducible exact LeO.none _)
   | (with_reducible refine LeO.ite ?_ ?_)
   | (with_reducible refine LeO.bind ?_ (fun _ => ?_))
   | exact ih0 _ _ _ _
   | exact LeO.none _
   | refine LeO.ite ?_ ?_
   | refine LeO.bind ?_ (fun _ => ?_)
theorem ref15_Extend.mono : ∀ a0 a1 k, LeO (ref15_Extend.f k a0 a1) (ref15_Extend.f (k + 1) a0 a1) := by
 intro a0 a1 k; have ih0 := ref15_Extend.mono_l k; unfold ref15_Extend.f
 repeat' first
   | (with_reducible exact ih0 _ _ _ _)
   | (with_reducible exact LeO.refl _)
   | (with_reducible exact LeO.none _)
   | (with_reducible refine LeO.ite ?_ ?_)
   | (with_reducible refine LeO.bind ?_ (fun _ => ?_))
   | exact ih0 _ _ _ _
   | exact LeO.none _
   | refine LeO.ite ?_ ?_
   | refine LeO.bind ?_ (fun _ => ?_)
set_option maxHeartbeats 8000000 in
set_option maxRecDepth 100000 in
theorem ref15_Extend.calls (k : Nat) (A0 : Option Addr) (c0 : Nat) (l0 : List Int) (a1 : Int) (r : List Int) (w : World) (hr0 : Kd.C (Kd.int .u8) w A0 l0.length l0) (hc0 : l0.length ≤ c0) (h : ref15_Extend.f k l0 a1 = some r) :
  Calls Try.prog 57 #[.slice A0 l0.length c0, .int .i64 a1] w fun e w' => ∃ v0_ : Value, e = .returned (v0_) ∧ Kd.R (Kd.int .u8) 5 w' w.heap.size (fun _ => True) v0_ r ∧ Below w.heap.size w w' := by
 have HR0 := Aside0.mk hr0; have HC0 := Aside0.mk hc0; clear hr0 hc0; have HB := Aside0.mk (Below.refl w.heap.size w); have H : (ref15_Extend.l0 k l0 a1 ([] : List Int) 0) = some r := h; clear h; have H' := Aside0.mk H; clear H; go_enter Try.func57, Try.ntmps57
 go_wp2
 go_loopg [5, 6] k (fun kq v5 v6 w' => ∃ (x5_1 : List Int) (x6_1 : Int), v6 = .int .i64 x6_1 ∧ Aside0 (ref15_Extend.l0 kq l0 a1 x5_1 x6_1 = some r) ∧ Aside0 (kq ≤ k) ∧ Aside0 (Kd.R (Kd.int .u8) 5 w' w.heap.size (fun _ => True) v5 x5_1) ∧ Aside0 (Below w.heap.size w w'))
 case atStart => exact ⟨(([] : List Int)), (0), rf_, H', ⟨Nat.le_refl _⟩, ⟨by first | exact Kd.R_nil _ _ _ _ _ | exact Kd.N_nil _ _ _ _ _ | exact Kd.V_nil _ _ _ _ _ | exact Kd.Q_nil _ _ _ _ _ | exact Kd.S_nil _ _ _ _ _⟩, ⟨(hb0_ HB.out)⟩⟩
 case round =>
  clear H'; try clear p2
  obtain ⟨x5_1, x6_1, rfl, HA, HK1, HO_5, HB⟩ := hrel; cases gk with
  | zero => exact absurd HA.out (by simp [ref15_Extend.l0])
  | succ k1 =>
   have H := HA.out; clear HA; simp only [ref15_Extend.l0] at H; obtain ⟨ji3, hji3⟩ : ∃ j_ : Int, (mn a1 1024) = j_ := ⟨_, rfl⟩; replace H : (if x6_1 < (ji3) then (if x6_1 < (l0.length : Int) then (if 0 ≤ x6_1 then (if x5_1.length < 140737488355328 then (ref15_Extend.l0 k1 l0 a1 (x5_1 ++ [rd l0 x6_1]) (wrap64 (x6_1 + 1))) else (none)) else (none)) else (if x5_1.length < 140737488355328 then (ref15_Extend.l0 k1 l0 a1 (x5_1 ++ [255]) (wrap64 (x6_1 + 1))) else (none))) else (some x5_1)) = some r := by first | (rw [hji3] at H; exact H) | (simp only [hji3] at H ⊢; exact H)
   have hji3_ : (if 1024 < a1 then 1024 else a1) = ji3 := hji3; by_cases c4 : x6_1 < (ji3)
   ·
    rw [if_pos c4] at H; have c4b0 : decide (x6_1 < (ji3)) = true := decide_eq_true c4; clear c4; by_cases c5 : x6_1 < (l0.length : Int)
    ·
     rw [if_pos c5] at H; have c5b0 : decide (x6_1 < (l0.length : Int)) = true := decide_eq_true c5; clear c5; by_cases c6 : 0 ≤ x6_1
     rotate_left
     ·
      rw [if_neg c6] at H; exact absurd H (by simp)
     rw [if_pos c6] at H; have c6b0 : decide (0 ≤ x6_1) = true := decide_eq_true c6; clear c6; by_cases c7 : x5_1.length < 140737488355328
     rotate_left
     ·
      rw [if_neg c7] at H; exact absurd H (by simp)
     rw [if_pos c7] at H; have LMc7 := Aside0.mk c7; clear c7; obtain ⟨y195, hy195⟩ : ∃ y_ : List Int, y_ = (x5_1 ++ [rd l0 x6_1]) := ⟨_, rfl⟩; replace H : (ref15_Extend.l0 k1 l0 a1 y195 (wrap64 (x6_1 + 1))) = some r := by first | (rw [hy195]; with_reducible exact H) | (have H2_ := (Option.bind_some _ _).symm.trans H; rw [hy195]; with_reducible exact H2_) | (have H2_ := (Option.bind_some _ _).symm.trans H; with_reducible exact H2_) | with_reducible exact H | (rw [hy195]; exact H) | exact H
     have Ny195 := Aside0.mk hy195; clear hy195; have H' := Aside0.mk H; clear H; have p194 : 0 ≤ (x6_1 : Int) := od_; have q194 : x6_1 < (l0.length : Int) := od_; obtain ⟨ad194, e194, hx194_0⟩ := Kd.at_int HR0.out x6_1 p194 q194; cases e194; replace hx194_0 := (HB.out.cell (World.block_lt_of_cell? w _ hx194_0)).trans hx194_0; replace p194 := eq_true p194; replace q194 := eq_true q194; go_wp2_with (first | ((with_reducible refine gate_builtin (b := .append) (xs := #[.tmp 17, .tmp 22]) rfl ?_); at_builtin; refine Kd.R_append (Kd.int .u8) (w0 := w) w.heap.size rfl (.tmp 17) (.tmp 22) 27 5 (.int .u8 0) 1 rfl Try.underlying27 info5 rfl (by decide) (by omega) u5 x5_1 (rd l0 x6_1) [.int .u8 (rd l0 x6_1)] (fun _ => True) (fun _ => False) rfl rfl ?aP (fun _ hk => hk.elim) ?aF ?aO ?aB ?aS ?aL ?_; (case aP => exact rfl); (case aB => exact (hb0_ HB.out)); (case aF => exact (fun _ _ => trivial)); (case aO => exact (kR_ HO_5.out)); (case aS => exact (below_size (hb0_ HB.out))); (case aL => have := LMc7.out; omega); intro v196 w8 ho hb hg hat; rw [← Ny195.out] at ho; have n0_ := Aside0.mk (hb); have n1_ := Aside0.mk (ho); clear HB HO_5; revert n0_ n1_; intro HB HO197; clear ho hb hg hat))
     go_roundg k1
     case measure => have := HK1.out; omega
     case rel => exact ⟨(y195), (wrap64 (x6_1 + 1)), rf_, H', ⟨by have := HK1.out; omega⟩, ⟨by (with_reducible repeat (first | apply Kd.R_alloc | apply Kd.R_drewN | apply Kd.R_drew)); exact HO197.out⟩, ⟨(hb0_ HB.out)⟩⟩
    ·
     rw [if_neg c5] at H; have c5b0 : decide (x6_1 < (l0.length : Int)) = false := decide_eq_false c5; clear c5; by_cases c9 : x5_1.length < 140737488355328
     rotate_left
     ·
      rw [if_neg c9] at H; exact absurd H (by simp)
     rw [if_pos c9] at H; have LMc9 := Aside0.mk c9; clear c9; obtain ⟨y198, hy198⟩ : ∃ y_ : List Int, y_ = (x5_1 ++ [255]) := ⟨_, rfl⟩; replace H : (ref15_Extend.l0 k1 l0 a1 y198 (wrap64 (x6_1 + 1))) = some r := by first | (rw [hy198]; with_reducible exact H) | (have H2_ := (Option.bind_some _ _).symm.trans H; rw [hy198]; with_reducible exact H2_) | (have H2_ := (Option.bind_some _ _).symm.trans H; with_reducible exact H2_) | with_reducible exact H | (rw [hy198]; exact H) | exact H
     have Ny198 := Aside0.mk hy198; clear hy198; have H' := Aside0.mk H; clear H; go_wp2_with (first | ((with_reducible refine gate_builtin (b := .append) (xs := #[.tmp 24, .tmp 25]) rfl ?_); at_builtin; refine Kd.R_append (Kd.int .u8) (w0 := w) w.heap.size rfl (.tmp 24) (.tmp 25) 27 5 (.int .u8 0) 1 rfl Try.underlying27 info5 rfl (by decide) (by omega) u5 x5_1 255 [.int .u8 255] (fun _ => True) (fun _ => False) rfl rfl ?aP (fun _ hk => hk.elim) ?aF ?aO ?aB ?aS ?aL ?_; (case aP => exact rfl); (case aB => exact (hb0_ HB.out)); (case aF => exact (fun _ _ => trivial)); (case aO => exact (kR_ HO_5.out)); (case aS => exact (below_size (hb0_ HB.out))); (case aL => have := LMc9.out; omega); intro v199 w10 ho hb hg hat; rw [← Ny198.out] at ho; have n0_ := Aside0.mk (hb); have n1_ := Aside0.mk (ho); clear HB HO_5; revert n0_ n1_; intro HB HO200; clear ho hb hg hat))
     go_roundg k1
     case measure => have := HK1.out; omega
     case rel => exact ⟨(y198), (wrap64 (x6_1 + 1)), rf_, H', ⟨by have := HK1.out; omega⟩, ⟨by (with_reducible repeat (first | apply Kd.R_alloc | apply Kd.R_drewN | apply Kd.R_drew)); exact HO200.out⟩, ⟨(hb0_ HB.out)⟩⟩
   ·
    rw [if_neg c4] at H; have c4b0 : decide (x6_1 < (ji3)) = false := decide_eq_false c4; clear c4; obtain rfl := Option.some.inj H; go_wp2
    go_ret
    exact ⟨_, by first | rfl | (simp [errW_none, errW_some] <;> rfl) | (simp only [← hji3]; first | rfl | (simp [errW_none, errW_some] <;> rfl)) | (simp [*, errW_none, errW_some] <;> rfl), by (with_reducible repeat (first | apply Kd.R_alloc | apply Kd.R_drewN | apply Kd.R_drew)); exact HO_5.out, (hb0_ HB.out)⟩

open List (setIfInBounds_toArray set_cons_zero set_cons_succ)
/-! ### ref15_And: function 58 -/
def ref15_And.l0 : Nat → List Int → List Int → List Int → Int → Option (List Int)
 | 0, _, _, _, _ => none
 | k + 1, x0, x1, x5, x6 => if x6 < (x0.length : Int) then (if x6 < (x1.length : Int) then (if 0 ≤ x6 then (if x5.length < 140737488355328 then (ref15_And.l0 k x0 x1 (x5 ++ [Go.bits .and .u8 (rd x0 x6) (rd x1 x6)]) (wrap64 (x6 + 1))) else (none)) else (none)) else (some x5)) else (some x5)
def ref15_And.f (k : Nat) (l0 : List Int) (l1 : List Int) : Option (List Int) := ref15_And.l0 k l0 l1 ([] : List Int) 0
theorem ref15_And.mono_l : ∀ k, (∀ y0 y1 y2 y3, LeO (ref15_And.l0 k y0 y1 y2 y3) (ref15_And.l0 (k + 1) y0 y1 y2 y3))
 | 0 => fun _ _ _ _ r h => by simp [ref15_And.l0] at h
 | k + 1 => by
  have ih0 := ref15_And.mono_l k
  ·
   intro y0 y1 y2 y3; unfold ref15_And.l0
   repeat' first
   | (with_reducible exact ih0 _ _ _ _)
   | (with_reducible exact LeO.refl _)
   | (with_reducible exact LeO.none _)
   | (with_reducible refine LeO.ite ?_ ?_)
   | (with_reducible refine LeO.bind ?_ (fun _ => ?_))
   | exact ih0 _ _ _ _
   | exact LeO.none _
   | refine LeO.ite ?_ ?_
   | refine LeO.bind ?_ (fun _ => ?_)
theorem ref15_And.mono : ∀ a0 a1 k, LeO (ref15_And.f k a0 a1) (ref15_And.f (k + 1) a0 a1) := by
 intro a0 a1 k; have ih0 := ref15_And.mono_l k; unfold ref15_And.f
 repeat' first
   | (with_reducible exact ih0 _ _ _ _)
   | (with_reducible exact LeO.refl _)
   | (with_reducible exact LeO.none _)
   | (with_reducible refine LeO.ite ?_ ?_)
   | (with_reducible refine LeO.bind ?_ (fun _ => ?_))
   | exact ih0 _ _ _ _
   | exact LeO.none _
   | refine LeO.ite ?_ ?_
   | refine LeO.bind ?_ (fun _ => ?_)
def ref15_And.T5 : Bool × List (List Nat × List Nat) := (true, [([], []), ([], []), ([], []), ([1, 2], [1, 2]), ([3], [3]), ([], []), ([], []), ([5, 6], [5, 6]), ([7], [7]), ([4, 8], [4, 8]), ([9], [9]), ([0, 10], [0, 10]), ([11, 11, 0, 1, 2, 3, 4, 5, 6, 7, 8, 9, 10, 11], [0, 11])])
def ref15_And.B5 : List Nat := [0, 0, 0, 6, 14, 0, 0, 96, 224, 510, 1022, 2047, 4095]
theorem ref15_And.tab5 : rtab .any (opsOf Try.f58 5) = ref15_And.T5 := by kernel_rfl
theorem ref15_And.bits5 : waitsOk ref15_And.T5.2 ref15_And.B5 = true := by kernel_rfl
set_option maxHeartbeats 8000000 in
set_option maxRecDepth 100000 in
theorem ref15_And.calls (k : Nat) (A0 : Option Addr) (c0 : Nat) (l0 : List Int) (A1 : Option Addr) (c1 : Nat) (l1 : List Int) (r : List Int) (w : World) (hr0 : Kd.C (Kd.int .u8) w A0 l0.length l0) (hc0 : l0.length ≤ c0) (hr1 : Kd.C (Kd.int .u8) w A1 l1.length l1) (hc1 : l1.length ≤ c1) (h : ref15_And.f k l0 l1 = some r) :
  Calls Try.prog 58 #[.slice A0 l0.length c0, .slice A1 l1.length c1] w fun e w' => ∃ v0_ : Value, e = .returned (v0_) ∧ Kd.R (Kd.int .u8) 5 w' w.heap.size (fun _ => True) v0_ r ∧ Below w.heap.size w w' := by
 have HR0 := Aside0.mk hr0; have HC0 := Aside0.mk hc0; clear hr0 hc0; have HR1 := Aside0.mk hr1; have HC1 := Aside0.mk hc1; clear hr1 hc1; have HB := Aside0.mk (Below.refl w.heap.size w); have H : (ref15_And.l0 k l0 l1 ([] : List Int) 0) = some r := h; clear h; have H' := Aside0.mk H; clear H; go_enter Try.func58, Try.ntmps58
 go_wp2
 go_loopg [5, 6] k (fun kq v5 v6 w' => ∃ (x5_1 : List Int) (x6_1 : Int), v6 = .int .i64 x6_1 ∧ Aside0 (ref15_And.l0 kq l0 l1 x5_1 x6_1 = some r) ∧ Aside0 (kq ≤ k) ∧ Aside0 (Kd.R (Kd.int .u8) 5 w' w.heap.size (fun _ => True) v5 x5_1) ∧ Aside0 (Below w.heap.size w w'))
 case atStart => exact ⟨(([] : List Int)), (0), rf_, H', ⟨Nat.le_refl _⟩, ⟨by first | exact Kd.R_nil _ _ _ _ _ | exact Kd.N_nil _ _ _ _ _ | exact Kd.V_nil _ _ _ _ _ | exact Kd.Q_nil _ _ _ _ _ | exact Kd.S_nil _ _ _ _ _⟩, ⟨(hb0_ HB.out)⟩⟩
 case round =>
  clear H'; try clear c1
  try clear p2
  obtain ⟨x5_1, x6_1, rfl, HA, HK1, HO_5, HB⟩ := hrel; cases gk with
  | zero => exact absurd HA.out (by simp [ref15_And.l0])
  | succ k1 =>
   have H := HA.out; clear HA; simp only [ref15_And.l0] at H; by_cases c3 : x6_1 < (l0.length : Int)
   ·
    rw [if_pos c3] at H; have c3b0 : decide (x6_1 < (l0.length : Int)) = true := decide_eq_true c3; clear c3; by_cases c4 : x6_1 < (l1.length : Int)
    ·
     rw [if_pos c4] at H; have c4b0 : decide (x6_1 < (l1.length : Int)) = true := decide_eq_true c4; clear c4; by_cases c5 : 0 ≤ x6_1
     rotate_left
     ·
      rw [if_neg c5] at H; exact absurd H (by simp)
     rw [if_pos c5] at H; have c5b0 : decide (0 ≤ x6_1) = true := decide_eq_true c5; clear c5; by_cases c6 : x5_1.length < 140737488355328
     rotate_left
     ·
      rw [if_neg c6] at H; exact absurd H (by simp)
     rw [if_pos c6] at H; have LMc6 := Aside0.mk c6; clear c6; obtain ⟨y203, hy203⟩ : ∃ y_ : List Int, y_ = (x5_1 ++ [Go.bits .and .u8 (rd l0 x6_1) (rd l1 x6_1)]) := ⟨_, rfl⟩; replace H : (ref15_And.l0 k1 l0 l1 y203 (wrap64 (x6_1 + 1))) = some r := by first | (rw [hy203]; with_reducible exact H) | (have H2_ := (Option.bind_some _ _).symm.trans H; rw [hy203]; with_reducible exact H2_) | (have H2_ := (Option.bind_some _ _).symm.trans H; with_reducible exact H2_) | with_reducible exact H | (rw [hy203]; exact H) | exact H
     have Ny203 := Aside0.mk hy203; clear hy203; have H' := Aside0.mk H; clear H; try go_wp2
     have n0_ := Aside0.mk (Kd.R_drew HO_5.out); have n1_ := Aside0.mk (below_drew1 HB.out); clear HO_5; clear HB; revert n0_ n1_; intro HO_5 HB; have p201 : 0 ≤ (x6_1 : Int) := od_; have q201 : x6_1 < (l0.length : Int) := od_; obtain ⟨ad201, e201, hx201_0⟩ := Kd.at_int HR0.out x6_1 p201 q201; have hw201_0 := hx201_0; cases e201; replace hx201_0 := (HB.out.cell (World.block_lt_of_cell? w _ hx201_0)).trans hx201_0; replace p201 := eq_true p201; replace q201 := eq_true q201; have p202 : 0 ≤ (x6_1 : Int) := od_; have q202 : x6_1 < (l1.length : Int) := od_; obtain ⟨ad202, e202, hx202_0⟩ := Kd.at_int HR1.out x6_1 p202 q202; have hw202_0 := hx202_0; cases e202; replace hx202_0 := (HB.out.cell (World.block_lt_of_cell? w _ hx202_0)).trans hx202_0; replace p202 := eq_true p202; replace q202 := eq_true q202; refine start_ (n := 13) (S := fun w' => w'.cell? (ad201.add (x6_1).toNat) = some (.int .u8 (rd l0 x6_1)) ∧ w'.cell? (ad202.add (x6_1).toNat) = some (.int .u8 (rd l1 x6_1))) (ds := []) (mk_ 0 13) (by kernel_rfl) rfl rfl ⟨((HB.out.cell (World.block_lt_of_cell? w _ hw201_0)).trans hw201_0), ((HB.out.cell (World.block_lt_of_cell? w _ hw202_0)).trans hw202_0)⟩ (fun hHeld => ?_); refine with_tabW ref15_And.tab5 ref15_And.bits5 (fun HT_ HW_ => ?_); generalize wr.drew = w7 at HO_5 HB hx201_0 hx202_0 hHeld ⊢; refine pu_ 0 (some 19) (mk_ 1 13) HT_ ?_; refine pu_ 1 (some 20) (mk_ 2 13) HT_ ?_; refine pu_ 2 (some 21) (mk_ 3 13) HT_ ?_; refine pu_ 3 (some 22) (mk_ 4 13) HT_ ?_; refine pu_ 5 (some 24) (bm_ 13 47) HT_ ?_; refine pu_ 6 (some 25) (bm_ 13 111) HT_ ?_; refine pu_ 7 (some 26) (bm_ 13 239) HT_ ?_; refine take_ (i := 4) (N := some 23) (v := ?_) (a' := ?_) (mk_ 8 13) rfl rfl (take_ofW HT_.out HW_.out (by kernel_rfl)) (fun _ _ _ h => h) (Or.inl ⟨by rfl, ?_⟩) hHeld ?_ ?_; rotate_left
     ·
      rintro w' ⟨s0, s1⟩; go_simp
      with_reducible rfl
     rotate_left
     ·
      simp only [Act.put, setIfInBounds_toArray, set_cons_zero, set_cons_succ, i64_w, i32_w]; rfl
     refine take_ (i := 8) (N := some 27) (v := ?_) (a' := ?_) (mk_ 9 13) rfl rfl (take_ofW HT_.out HW_.out (by kernel_rfl)) (fun _ _ _ h => h) (Or.inl ⟨by rfl, ?_⟩) hHeld ?_ ?_; rotate_left
     ·
      rintro w' ⟨s0, s1⟩; go_simp
      with_reducible rfl
     rotate_left
     ·
      simp only [Act.put, setIfInBounds_toArray, set_cons_zero, set_cons_succ, i64_w, i32_w]; rfl
     refine pu_ 9 (some 28) (mk_ 10 13) HT_ ?_; refine one_ (i := 10) (N := some 29) (mk_ 11 13) rfl rfl (one_of HT_.out (by kernel_rfl)) (by decide) (fun K hK => ?_); refine value_ (w1 := ?_) (v := ?_) (by rfl) rfl ?_ ?_; rotate_left 2
     ·
      go_simp
      constructor
      ·
       rfl
      ·
       rfl
     refine hK.out _ _ ⟨(World.cell?_alloc_lt _ _ _ (World.block_lt_of_cell? _ _ (((HB.out.cell (World.block_lt_of_cell? w _ hw201_0)).trans hw201_0)))).trans (((HB.out.cell (World.block_lt_of_cell? w _ hw201_0)).trans hw201_0)), (World.cell?_alloc_lt _ _ _ (World.block_lt_of_cell? _ _ (((HB.out.cell (World.block_lt_of_cell? w _ hw202_0)).trans hw202_0)))).trans (((HB.out.cell (World.block_lt_of_cell? w _ hw202_0)).trans hw202_0))⟩ (fun hHeld => ?_); clear hK K; refine norm_ (a' := ?_) ?_ ?_; rotate_left
     ·
      show Act.put _ (some 29) _ = _
      simp only [Act.put, setIfInBounds_toArray, set_cons_zero, set_cons_succ, i64_w, i32_w]; rfl
     refine one_ (i := 11) (N := some 30) (mk_ 12 13) rfl rfl (one_of HT_.out (by kernel_rfl)) (by decide) (fun K hK => ?_); refine Kd.R_append_step (Kd.int .u8) (w0 := w) w.heap.size (by rfl) (.tmp 19) (.tmp 29) 27 5 (.int .u8 0) 1 rfl Try.underlying27 info5 rfl (by decide) (by omega) u5 x5_1 (Go.bits .and .u8 (rd l0 x6_1) (rd l1 x6_1)) [.int .u8 (Go.bits .and .u8 (rd l0 x6_1) (rd l1 x6_1))] (fun _ => True) (fun _ => False) rfl rfl ?aP (fun _ hk => hk.elim) ?aF ?aO ?aB ?aS ?aL ?_; (case aP => exact rfl)
     (case aB => exact (hb0_ HB.out))
     (case aF => exact (fun _ _ => trivial))
     (case aO => exact (kR_ HO_5.out))
     (case aS => exact (below_size (hb0_ HB.out)))
     (case aL => have := LMc6.out; omega)
     intro v204 w8 ho hb hg hat; rw [← Ny203.out] at ho; have n0_ := Aside0.mk (hb); have n1_ := Aside0.mk (ho); clear HB; clear HO_5; revert n0_ n1_; intro HB HO205; clear ho hb hg hat; refine hK.out _ _ ⟨((HB.out.cell (World.block_lt_of_cell? w _ hw201_0)).trans hw201_0), ((HB.out.cell (World.block_lt_of_cell? w _ hw202_0)).trans hw202_0)⟩ (fun hHeld => ?_); clear hK K; refine norm_ (a' := ?_) ?_ ?_; rotate_left
     ·
      show Act.put _ (some 30) _ = _
      simp only [Act.put, setIfInBounds_toArray, set_cons_zero, set_cons_succ, i64_w, i32_w]; rfl
     refine pu_ 12 (some 5) (mk_ 13 13) HT_ ?_; refine done_ (done_of HT_.out (by kernel_rfl)) ?_; try go_wp2
     go_roundg k1
     case measure => have := HK1.out; omega
     case rel => exact ⟨(y203), (wrap64 (x6_1 + 1)), rf_, H', ⟨by have := HK1.out; omega⟩, ⟨by (with_reducible repeat (first | apply Kd.R_alloc | apply Kd.R_drewN | apply Kd.R_drew)); exact HO205.out⟩, ⟨(hb0_ HB.out)⟩⟩
    ·
     rw [if_neg c4] at H; have c4b0 : decide (x6_1 < (l1.length : Int)) = false := decide_eq_false c4; clear c4; obtain rfl := Option.some.inj H; go_wp2
     go_ret
     exact ⟨_, by first | rfl | (simp [errW_none, errW_some] <;> rfl) | (simp [*, errW_none, errW_some] <;> rfl), by (with_reducible repeat (first | apply Kd.R_alloc | apply Kd.R_drewN | apply Kd.R_drew)); exact HO_5.out, (hb0_ HB.out)⟩
   ·
    rw [if_neg c3] at H; have c3b0 : decide (x6_1 < (l0.length : Int)) = false := decide_eq_false c3; clear c3; obtain rfl := Option.some.inj H; go_wp2
    go_ret
    exact ⟨_, by first | rfl | (simp [errW_none, errW_some] <;> rfl) | (simp [*, errW_none, errW_some] <;> rfl), by (with_reducible repeat (first | apply Kd.R_alloc | apply Kd.R_drewN | apply Kd.R_drew)); exact HO_5.out, (hb0_ HB.out)⟩

/-! ### law15_ints: function 59 -/
def law15_ints.l0 : Nat → List Int → List Int → Int → Int → Option (Bool)
 | 0, _, _, _, _ => none
 | k + 1, x0, x1, x12, x13 => if x13 < x12 then (if 0 ≤ x13 then (if x13 < (x0.length : Int) then (if x13 < (x1.length : Int) then (if (rd x0 x13) = (rd x1 x13) then (law15_ints.l0 k x0 x1 x12 (wrap64 (x13 + 1))) else (some false)) else (none)) else (none)) else (none)) else (some true)
def law15_ints.f (k : Nat) (l0 : List Int) (l1 : List Int) : Option (Bool) := if (l0.length : Int) = (l1.length : Int) then (law15_ints.l0 k l0 l1 (l0.length : Int) 0) else (some false)
theorem law15_ints.mono_l : ∀ k, (∀ y0 y1 y2 y3, LeO (law15_ints.l0 k y0 y1 y2 y3) (law15_ints.l0 (k + 1) y0 y1 y2 y3))
 | 0 => fun _ _ _ _ r h => by simp [law15_ints.l0] at h
 | k + 1 => by
  have ih0 := law15_ints.mono_l k
  ·
   intro y0 y1 y2 y3; unfold law15_ints.l0
   repeat' first
   | (with_reducible exact ih0 _ _ _ _)
   | (with_reducible exact LeO.refl _)
   | (with_reducible exact LeO.none _)
   | (with_reducible refine LeO.ite ?_ ?_)
   | (with_reducible refine LeO.bind ?_ (fun _ => ?_))
   | exact ih0 _ _ _ _
   | exact LeO.none _
   | refine LeO.ite ?_ ?_
   | refine LeO.bind ?_ (fun _ => ?_)
theorem law15_ints.mono : ∀ a0 a1 k, LeO (law15_ints.f k a0 a1) (law15_ints.f (k + 1) a0 a1) := by
 intro a0 a1 k; have ih0 := law15_ints.mono_l k; unfold law15_ints.f
 repeat' first
   | (with_reducible exact ih0 _ _ _ _)
   | (with_reducible exact LeO.refl _)
   | (with_reducible exact LeO.none _)
   | (with_reducible refine LeO.ite ?_ ?_)
   | (with_reducible refine LeO.bind ?_ (fun _ => ?_))
   | exact ih0 _ _ _ _
   | exact LeO.none _
   | refine LeO.ite ?_ ?_
   | refine LeO.bind ?_ (fun _ => ?_)
set_option maxHeartbeats 8000000 in
set_option maxRecDepth 100000 in
theorem law15_ints.calls (k : Nat) (A0 : Option Addr) (c0 : Nat) (l0 : List Int) (A1 : Option Addr) (c1 : Nat) (l1 : List Int) (r : Bool) (w : World) (hr0 : Kd.C (Kd.int .i64) w A0 l0.length l0) (hc0 : l0.length ≤ c0) (hr1 : Kd.C (Kd.int .i64) w A1 l1.length l1) (hc1 : l1.length ≤ c1) (h : law15_ints.f k l0 l1 = some r) :
  Calls Try.prog 59 #[.slice A0 l0.length c0, .slice A1 l1.length c1] w fun e w' => e = .returned (.bool r) ∧ Drawn0 w w' := by
 have HR0 := Aside0.mk hr0; have HC0 := Aside0.mk hc0; clear hr0 hc0; have HR1 := Aside0.mk hr1; have HC1 := Aside0.mk hc1; clear hr1 hc1; have H : (if (l0.length : Int) = (l1.length : Int) then (law15_ints.l0 k l0 l1 (l0.length : Int) 0) else (some false)) = some r := h; clear h; by_cases c3 : (l0.length : Int) = (l1.length : Int)
 ·
  rw [if_pos c3] at H; have c3b0 : ((l0.length : Int) == (l1.length : Int)) = true := beq_iff_eq.mpr c3; have c3b1 : ((l0.length : Int) != (l1.length : Int)) = false := bne_eq_false_iff_eq.mpr c3; have c3b2 : (l0.length == l1.length) = true := by first | simpa using c3 | (simp at c3 ⊢; omega)
  clear c3; have H' := Aside0.mk H; clear H; go_enter Try.func59, Try.ntmps59
  go_wp2
  repeat (go_quiet (fail); try go_wp2)
  go_loopg [13] k (fun kq v13 w' => ∃ (x13_1 : Int), v13 = .int .i64 x13_1 ∧ Aside0 (law15_ints.l0 kq l0 l1 (l0.length : Int) x13_1 = some r) ∧ Aside0 (kq ≤ k) ∧ Drawn0 w w')
  case atStart => exact ⟨(0), rf_, H', ⟨Nat.le_refl _⟩, by repeat (first | exact Drawn0.refl _ | apply Drawn0.step)⟩
  case round =>
   clear H'; try clear c1
   try clear p2
   try clear c3
   try clear c3b0
   try clear c3b1
   try clear c3b2
   obtain ⟨x13_1, rfl, HA, HK1, ⟨m1, rfl⟩⟩ := hrel; cases gk with
   | zero => exact absurd HA.out (by simp [law15_ints.l0])
   | succ k1 =>
    have H := HA.out; clear HA; simp only [law15_ints.l0] at H; by_cases c4 : x13_1 < (l0.length : Int)
    ·
     rw [if_pos c4] at H; have c4b0 : decide (x13_1 < (l0.length : Int)) = true := decide_eq_true c4; clear c4; by_cases c5 : 0 ≤ x13_1
     rotate_left
     ·
      rw [if_neg c5] at H; exact absurd H (by simp)
     rw [if_pos c5] at H; have c5b0 : decide (0 ≤ x13_1) = true := decide_eq_true c5; clear c5; by_cases c6 : x13_1 < (l0.length : Int)
     rotate_left
     ·
      rw [if_neg c6] at H; exact absurd H (by simp)
     rw [if_pos c6] at H; have c6b0 : decide (x13_1 < (l0.length : Int)) = true := decide_eq_true c6; clear c6; by_cases c7 : x13_1 < (l1.length : Int)
     rotate_left
     ·
      rw [if_neg c7] at H; exact absurd H (by simp)
     rw [if_pos c7] at H; have c7b0 : decide (x13_1 < (l1.length : Int)) = true := decide_eq_true c7; clear c7; by_cases c8 : (rd l0 x13_1) = (rd l1 x13_1)
     ·
      rw [if_pos c8] at H; have c8b0 : ((rd l0 x13_1) == (rd l1 x13_1)) = true := beq_iff_eq.mpr c8; have c8b1 : ((rd l0 x13_1) != (rd l1 x13_1)) = false := bne_eq_false_iff_eq.mpr c8; clear c8; have H' := Aside0.mk H; clear H; have p206 : 0 ≤ (x13_1 : Int) := od_; have q206 : x13_1 < (l0.length : Int) := od_; obtain ⟨ad206, e206, hx206_0⟩ := Kd.at_int HR0.out x13_1 p206 q206; cases e206; replace p206 := eq_true p206; replace q206 := eq_true q206; have p207 : 0 ≤ (x13_1 : Int) := od_; have q207 : x13_1 < (l1.length : Int) := od_; obtain ⟨ad207, e207, hx207_0⟩ := Kd.at_int HR1.out x13_1 p207 q207; cases e207; replace p207 := eq_true p207; replace q207 := eq_true q207; go_wp2
      repeat (go_quiet (fail); try go_wp2)
      go_roundg k1
      case measure => have := HK1.out; omega
      case rel => exact ⟨(wrap64 (x13_1 + 1)), rf_, H', ⟨by have := HK1.out; omega⟩, by repeat (first | exact Drawn0.refl _ | apply Drawn0.step)⟩
     ·
      rw [if_neg c8] at H; have c8b0 : ((rd l0 x13_1) == (rd l1 x13_1)) = false := beq_eq_false_iff_ne.mpr c8; have c8b1 : ((rd l0 x13_1) != (rd l1 x13_1)) = true := bne_iff_ne.mpr c8; obtain rfl := Option.some.inj H; have p206 : 0 ≤ (x13_1 : Int) := od_; have q206 : x13_1 < (l0.length : Int) := od_; obtain ⟨ad206, e206, hx206_0⟩ := Kd.at_int HR0.out x13_1 p206 q206; cases e206; replace p206 := eq_true p206; replace q206 := eq_true q206; have p207 : 0 ≤ (x13_1 : Int) := od_; have q207 : x13_1 < (l1.length : Int) := od_; obtain ⟨ad207, e207, hx207_0⟩ := Kd.at_int HR1.out x13_1 p207 q207; cases e207; replace p207 := eq_true p207; replace q207 := eq_true q207; go_wp2
      repeat (go_quiet (fail); try go_wp2)
      go_ret
      exact ⟨rf_, by repeat (first | exact Drawn0.refl _ | apply Drawn0.step)⟩
    ·
     rw [if_neg c4] at H; have c4b0 : decide (x13_1 < (l0.length : Int)) = false := decide_eq_false c4; clear c4; obtain rfl := Option.some.inj H; go_wp2
     repeat (go_quiet (fail); try go_wp2)
     go_ret
     exact ⟨rf_, by repeat (first | exact Drawn0.refl _ | apply Drawn0.step)⟩
 ·
  rw [if_neg c3] at H; have c3b0 : ((l0.length : Int) == (l1.length : Int)) = false := beq_eq_false_iff_ne.mpr c3; have c3b1 : ((l0.length : Int) != (l1.length : Int)) = true := bne_iff_ne.mpr c3; have c3b2 : (l0.length == l1.length) = false := by first | simpa using c3 | (simp at c3 ⊢; omega)
  obtain rfl := Option.some.inj H; go_enter Try.func59, Try.ntmps59
  go_wp2
  repeat (go_quiet (fail); try go_wp2)
  go_ret
  exact ⟨rf_, by repeat (first | exact Drawn0.refl _ | apply Drawn0.step)⟩

end Go.Proofs.Ytpcephbhnbfcmaa.M
