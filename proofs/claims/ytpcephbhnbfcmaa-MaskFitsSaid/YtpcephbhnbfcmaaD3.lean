-- Written by this session's program fork.py: a Lean function for each Go function and its walk. Not trusted: Lean checks it.
import Derived.Test.YtpcephbhnbfcmaaD0
import Derived.Test.YtpcephbhnbfcmaaD1
import Derived.Test.YtpcephbhnbfcmaaD2
namespace Go.Proofs.Ytpcephbhnbfcmaa.D
open Go.RowKit Go.Proofs.YtpcephbhnbfcmaaW.PrintWords Go.Proofs.YtpcephbhnbfcmaaW.PrintLast Go.Proofs.YtpcephbhnbfcmaaW.PrintMore
attribute [local go_sem] max2_int min2_int max_two min_two max_three min_three max_four min_four   -- for this text's walks alone
set_option linter.unusedVariables false
set_option linter.unusedSimpArgs false

/-! ### libevolutionlaw15_awake: function 43 -/
def libevolutionlaw15_awake.f (k : Nat)  : Option (Bool) := (mask_Bits.f k (([1, 6] : List Int)) 2).bind fun bt125 => (if bt125.2 = true then (if (bt125.1.length : Int) = 2 then (if 0 < (bt125.1.length : Int) then (if (rd bt125.1 0) = 0 then (if 1 < (bt125.1.length : Int) then (if (rd bt125.1 1) = 9 then ((mask_Count.f k (([1, 6] : List Int))).bind fun t134 => (if t134 = 3 then ((mask_Put.f k (([0, 0] : List Int)) bt125.1 2).bind fun t138 => ((mask_Get.f k t138 bt125.1).bind fun t141 => (some (t141 == 2)))) else (some false))) else (some false)) else (none)) else (some false)) else (none)) else (some false)) else (some false))
theorem libevolutionlaw15_awake.mono : ∀ k, LeO (libevolutionlaw15_awake.f k ) (libevolutionlaw15_awake.f (k + 1) ) := by
  intro  k
  unfold libevolutionlaw15_awake.f
  repeat' first
      | (with_reducible exact mask_Bits.mono _ _ _)
      | (with_reducible exact mask_Count.mono _ _)
      | (with_reducible exact mask_Get.mono _ _ _)
      | (with_reducible exact mask_Put.mono _ _ _ _)
      | (with_reducible exact LeO.refl _)
      | (with_reducible exact LeO.none _)
      | (with_reducible refine LeO.ite ?_ ?_)
      | (with_reducible refine LeO.bind ?_ (fun _ => ?_))
      | exact mask_Bits.mono _ _ _
      | exact mask_Count.mono _ _
      | exact mask_Get.mono _ _ _
      | exact mask_Put.mono _ _ _ _
      | exact LeO.none _
      | refine LeO.ite ?_ ?_
      | refine LeO.bind ?_ (fun _ => ?_)
set_option maxHeartbeats 8000000 in
set_option maxRecDepth 100000 in
theorem libevolutionlaw15_awake.calls (k : Nat)  (r : Bool) (w : World) (h : libevolutionlaw15_awake.f k  = some r) :
    Calls Try.prog 43 #[] w fun e w' => e = .returned (.bool r) ∧ Below w.heap.size w w' := by
  have HB := Aside0.mk (Below.refl w.heap.size w)
  have H : ((mask_Bits.f k (([1, 6] : List Int)) 2).bind fun bt125 => (if bt125.2 = true then (if (bt125.1.length : Int) = 2 then (if 0 < (bt125.1.length : Int) then (if (rd bt125.1 0) = 0 then (if 1 < (bt125.1.length : Int) then (if (rd bt125.1 1) = 9 then ((mask_Count.f k (([1, 6] : List Int))).bind fun t134 => (if t134 = 3 then ((mask_Put.f k (([0, 0] : List Int)) bt125.1 2).bind fun t138 => ((mask_Get.f k t138 bt125.1).bind fun t141 => (some (t141 == 2)))) else (some false))) else (some false)) else (none)) else (some false)) else (none)) else (some false)) else (some false))) = some r := h
  clear h
  obtain ⟨y122, hy122⟩ : ∃ y_ : List Int, y_ = (([1, 6] : List Int)) := ⟨_, rfl⟩
  replace H : ((mask_Bits.f k y122 2).bind fun bt125 => (if bt125.2 = true then (if (bt125.1.length : Int) = 2 then (if 0 < (bt125.1.length : Int) then (if (rd bt125.1 0) = 0 then (if 1 < (bt125.1.length : Int) then (if (rd bt125.1 1) = 9 then ((mask_Count.f k (([1, 6] : List Int))).bind fun t134 => (if t134 = 3 then ((mask_Put.f k (([0, 0] : List Int)) bt125.1 2).bind fun t138 => ((mask_Get.f k t138 bt125.1).bind fun t141 => (some (t141 == 2)))) else (some false))) else (some false)) else (none)) else (some false)) else (none)) else (some false)) else (some false))) = some r := by first | (rw [hy122]; with_reducible exact H) | (have H2_ := (Option.bind_some _ _).symm.trans H; rw [hy122]; with_reducible exact H2_) | (have H2_ := (Option.bind_some _ _).symm.trans H; with_reducible exact H2_) | with_reducible exact H | (rw [hy122]; exact H) | exact H
  have Ny122 := Aside0.mk hy122
  clear hy122
  replace H := Option.bind_eq_some_iff.mp H
  obtain ⟨⟨t125, t126⟩, A10, H⟩ := H
  replace H : (if t126 = true then (if (t125.length : Int) = 2 then (if 0 < (t125.length : Int) then (if (rd t125 0) = 0 then (if 1 < (t125.length : Int) then (if (rd t125 1) = 9 then ((mask_Count.f k (([1, 6] : List Int))).bind fun t134 => (if t134 = 3 then ((mask_Put.f k (([0, 0] : List Int)) t125 2).bind fun t138 => ((mask_Get.f k t138 t125).bind fun t141 => (some (t141 == 2)))) else (some false))) else (some false)) else (none)) else (some false)) else (none)) else (some false)) else (some false)) = some r := H
  have A1 := Aside0.mk A10
  clear A10
  by_cases c2 : t126 = true
  · subst c2
    have H1 : (if (t125.length : Int) = 2 then (if 0 < (t125.length : Int) then (if (rd t125 0) = 0 then (if 1 < (t125.length : Int) then (if (rd t125 1) = 9 then ((mask_Count.f k (([1, 6] : List Int))).bind fun t134 => (if t134 = 3 then ((mask_Put.f k (([0, 0] : List Int)) t125 2).bind fun t138 => ((mask_Get.f k t138 t125).bind fun t141 => (some (t141 == 2)))) else (some false))) else (some false)) else (none)) else (some false)) else (none)) else (some false)) = some r := by rw [if_pos rfl] at H; exact H
    clear H
    have H := H1
    clear H1
    by_cases c3 : (t125.length : Int) = 2
    · rw [if_pos c3] at H
      have c3b0 : ((t125.length : Int) == 2) = true := beq_iff_eq.mpr c3
      have c3b1 : ((t125.length : Int) != 2) = false := bne_eq_false_iff_eq.mpr c3
      clear c3
      by_cases c4 : 0 < (t125.length : Int)
      · rw [if_pos c4] at H
        have c4b0 : decide (0 < (t125.length : Int)) = true := decide_eq_true c4
        have c4b1 : decide (0 < t125.length) = true := decide_eq_true (by omega)
        clear c4
        by_cases c5 : (rd t125 0) = 0
        · rw [if_pos c5] at H
          have c5b0 : ((rd t125 0) == 0) = true := beq_iff_eq.mpr c5
          have c5b1 : ((rd t125 0) != 0) = false := bne_eq_false_iff_eq.mpr c5
          clear c5
          by_cases c6 : 1 < (t125.length : Int)
          · rw [if_pos c6] at H
            have c6b0 : decide (1 < (t125.length : Int)) = true := decide_eq_true c6
            have c6b1 : decide (1 < t125.length) = true := decide_eq_true (by omega)
            clear c6
            by_cases c7 : (rd t125 1) = 9
            · rw [if_pos c7] at H
              have c7b0 : ((rd t125 1) == 9) = true := beq_iff_eq.mpr c7
              have c7b1 : ((rd t125 1) != 9) = false := bne_eq_false_iff_eq.mpr c7
              clear c7
              obtain ⟨y131, hy131⟩ : ∃ y_ : List Int, y_ = (([1, 6] : List Int)) := ⟨_, rfl⟩
              replace H : ((mask_Count.f k y131).bind fun t134 => (if t134 = 3 then ((mask_Put.f k (([0, 0] : List Int)) t125 2).bind fun t138 => ((mask_Get.f k t138 t125).bind fun t141 => (some (t141 == 2)))) else (some false))) = some r := by first | (rw [hy131]; with_reducible exact H) | (have H2_ := (Option.bind_some _ _).symm.trans H; rw [hy131]; with_reducible exact H2_) | (have H2_ := (Option.bind_some _ _).symm.trans H; with_reducible exact H2_) | with_reducible exact H | (rw [hy131]; exact H) | exact H
              have Ny131 := Aside0.mk hy131
              clear hy131
              replace H := Option.bind_eq_some_iff.mp H
              obtain ⟨t134, A80, H⟩ := H
              replace H : (if t134 = 3 then ((mask_Put.f k (([0, 0] : List Int)) t125 2).bind fun t138 => ((mask_Get.f k t138 t125).bind fun t141 => (some (t141 == 2)))) else (some false)) = some r := H
              have A8 := Aside0.mk A80
              clear A80
              by_cases c9 : t134 = 3
              · rw [if_pos c9] at H
                have c9b0 : (t134 == 3) = true := beq_iff_eq.mpr c9
                have c9b1 : (t134 != 3) = false := bne_eq_false_iff_eq.mpr c9
                clear c9
                obtain ⟨y135, hy135⟩ : ∃ y_ : List Int, y_ = (([0, 0] : List Int)) := ⟨_, rfl⟩
                replace H : ((mask_Put.f k y135 t125 2).bind fun t138 => ((mask_Get.f k t138 t125).bind fun t141 => (some (t141 == 2)))) = some r := by first | (rw [hy135]; with_reducible exact H) | (have H2_ := (Option.bind_some _ _).symm.trans H; rw [hy135]; with_reducible exact H2_) | (have H2_ := (Option.bind_some _ _).symm.trans H; with_reducible exact H2_) | with_reducible exact H | (rw [hy135]; exact H) | exact H
                have Ny135 := Aside0.mk hy135
                clear hy135
                replace H := Option.bind_eq_some_iff.mp H
                obtain ⟨t138, A100, H⟩ := H
                replace H : ((mask_Get.f k t138 t125).bind fun t141 => (some (t141 == 2))) = some r := H
                have A10 := Aside0.mk A100
                clear A100
                replace H := Option.bind_eq_some_iff.mp H
                obtain ⟨t141, A110, H⟩ := H
                replace H : (some (t141 == 2)) = some r := H
                have A11 := Aside0.mk A110
                clear A110
                obtain rfl := Option.some.inj H
                go_enter Try.func43, Try.ntmps43
                go_wp2_with (first | ((with_reducible refine gate_dst (N := 4) rfl ?_); (try (refine gate_guard (by rfl) ?_; dsimp only)); refine Kd.R_lit (Kd.int .u8) _ 5 ?hg (N := 4) ?hd (xs := ([1, 6] : List Int)) (inner := [.int .u8 1, .int .u8 6]) (ok := fun _ => True) (okp := fun _ => True) ?hr ?hp (fun _ hk => hk) trivial (Below.refl _ _) (Nat.le_refl _) (by simp) ?_; (case hd => rfl); (case hg => rfl); (case hr => first | (go_simp; done) | (go_simp; rfl)); (case hp => exact (Reps.one (show Kd.M (Kd.int .u8) _ _ _ 1 [.int .u8 1] from rfl) (Reps.one (show Kd.M (Kd.int .u8) _ _ _ 6 [.int .u8 6] from rfl) (Reps.none _ _)))); intro v123 w12 ho13 hb hg_ hnew_; clear hg_ hnew_; (first | rw [← Ny122.out] at ho13 | (simp only [Int.reduceToNat] at ho13; rw [← Ny122.out] at ho13)); have n0_ := Aside0.mk (Kd.R_lower ho13 (below_size (hb0_ HB.out))); have n1_ := Aside0.mk (below_step (hb0_ HB.out) hb); clear HB; have HO124 := n0_; have HB := n1_; clear n0_ n1_ hb ho13; obtain ⟨Ao14, co14, eo14⟩ := Kd.R_slice HO124.out; subst eo14) | ((with_reducible refine gate_callee (f := 44) rfl ?_); refine goesL_ (some 5) rfl rfl Try.func44 (by kernel_rfl) rfl #[.slice Ao14 y122.length co14, .int .i64 2] rfl (by (try simp only [List.map_toArray, List.map_cons, List.map_nil]); first | done | rfl | (simp only [List.length_drop, List.length_take]; rfl)) ?_; (with_reducible refine (mask_Bits.calls k _ _ y122 2 t125 true _ ?side1 ?side2 A1.out).mono ?_); (case side1 => repeat (first | exact (Kd.R_reads' HO124.out).2.2 | (with_reducible refine Kd.C_alloc ?_ _) | (with_reducible refine Kd.C_drewN ?_ _) | (with_reducible refine Kd.C_drew ?_))); (case side2 => exact (Kd.R_reads' HO124.out).2.1); rintro e w15 ⟨v127, rfl, ho0, hb⟩; refine ⟨_, rfl, ?_⟩; have n0_ := Aside0.mk (Kd.R_below (kR_ HO124.out) hb); have n1_ := Aside0.mk (Kd.R_lower ho0 (below_size (hb0_ HB.out))); have n2_ := Aside0.mk (below_step (hb0_ HB.out) hb); clear HO124 HB; have HO124 := n0_; have HO128 := n1_; have HB := n2_; clear n0_ n1_ n2_; (try clear hb); (try clear hb2); (try clear hk); (try clear hi); (try clear ho0); obtain ⟨Ao16, co16, eo16⟩ := Kd.R_slice HO128.out; subst eo16; have p129 : 0 ≤ (0 : Int) := (by omega); have q129 : 0 < (t125.length : Int) := od_; obtain ⟨ad129, e129, hx129_0⟩ := Kd.at_int (Kd.R_reads' HO128.out).2.2 0 p129 q129; cases e129; have qi129 : (0 < t125.length) = True := eq_true (by omega); (try rw [show ((0 : Int)).toNat = 0 from rfl] at hx129_0); (try rw [Addr.add_zero'] at hx129_0); replace p129 := eq_true p129; replace q129 := eq_true q129; have p130 : 0 ≤ (1 : Int) := (by omega); have q130 : 1 < (t125.length : Int) := od_; obtain ⟨ad130, e130, hx130_0⟩ := Kd.at_int (Kd.R_reads' HO128.out).2.2 1 p130 q130; obtain rfl : ad129 = ad130 := (by injection e130); (try simp only [show (1 : Int).toNat = 1 from rfl, Nat.reduceMul, Nat.reduceEqDiff, Go.Addr.add, ↓reduceIte] at hx130_0); have qi130 : (1 < t125.length) = True := eq_true (by omega); (try rw [show ((1 : Int)).toNat = 1 from rfl] at hx130_0); replace p130 := eq_true p130; replace q130 := eq_true q130) | ((with_reducible refine gate_dst (N := 27) rfl ?_); (try (refine gate_guard (by rfl) ?_; dsimp only)); refine Kd.R_lit (Kd.int .u8) _ 5 ?hg (N := 27) ?hd (xs := ([1, 6] : List Int)) (inner := [.int .u8 1, .int .u8 6]) (ok := fun _ => True) (okp := fun _ => True) ?hr ?hp (fun _ hk => hk) trivial (Below.refl _ _) (Nat.le_refl _) (by simp) ?_; (case hd => rfl); (case hg => rfl); (case hr => first | (go_simp; done) | (go_simp; rfl)); (case hp => exact (Reps.one (show Kd.M (Kd.int .u8) _ _ _ 1 [.int .u8 1] from rfl) (Reps.one (show Kd.M (Kd.int .u8) _ _ _ 6 [.int .u8 6] from rfl) (Reps.none _ _)))); intro v132 w17 ho18 hb hg_ hnew_; clear hg_ hnew_; (first | rw [← Ny131.out] at ho18 | (simp only [Int.reduceToNat] at ho18; rw [← Ny131.out] at ho18)); have n0_ := Aside0.mk (Kd.R_elder' (kR_ HO124.out) (Kd.R_base ho18) hb); have n1_ := Aside0.mk (Kd.R_below (kR_ HO128.out) hb); have n2_ := Aside0.mk (Kd.R_lower (Kd.R_new' ho18 (Kd.R_lt (kR_ HO124.out))) (below_size (hb0_ HB.out))); have n3_ := Aside0.mk (below_step (hb0_ HB.out) hb); clear HO124 HO128 HB; have HO124 := n0_; have HO128 := n1_; have HO133 := n2_; have HB := n3_; clear n0_ n1_ n2_ n3_ hb ho18; obtain ⟨Ao19, co19, eo19⟩ := Kd.R_slice HO133.out; subst eo19) | (go_at_call 45; (with_reducible refine (mask_Count.calls k _ _ y131 t134 _ ?side1 ?side2 A8.out).mono ?_); (case side1 => repeat (first | exact (Kd.R_reads' HO133.out).2.2 | (with_reducible refine Kd.C_alloc ?_ _) | (with_reducible refine Kd.C_drewN ?_ _) | (with_reducible refine Kd.C_drew ?_))); (case side2 => exact (Kd.R_reads' HO133.out).2.1); rintro e w' ⟨rfl, ⟨nd, rfl⟩⟩) | ((with_reducible refine gate_dst (N := 32) rfl ?_); (try (refine gate_guard (by rfl) ?_; dsimp only)); refine Kd.R_lit (Kd.int .u8) _ 5 ?hg (N := 32) ?hd (xs := ([0, 0] : List Int)) (inner := [.int .u8 0, .int .u8 0]) (ok := fun _ => True) (okp := fun _ => True) ?hr ?hp (fun _ hk => hk) trivial (Below.refl _ _) (Nat.le_refl _) (by simp) ?_; (case hd => rfl); (case hg => rfl); (case hr => first | (go_simp; done) | (go_simp; rfl)); (case hp => exact (Reps.one (show Kd.M (Kd.int .u8) _ _ _ 0 [.int .u8 0] from rfl) (Reps.one (show Kd.M (Kd.int .u8) _ _ _ 0 [.int .u8 0] from rfl) (Reps.none _ _)))); intro v136 w20 ho21 hb hg_ hnew_; clear hg_ hnew_; (first | rw [← Ny135.out] at ho21 | (simp only [Int.reduceToNat] at ho21; rw [← Ny135.out] at ho21)); have n0_ := Aside0.mk (Kd.R_elder' (kR_ HO124.out) (Kd.R_base ho21) hb); have n1_ := Aside0.mk (Kd.R_below (kR_ HO128.out) hb); have n2_ := Aside0.mk (Kd.R_elder' (kR_ HO133.out) (Kd.R_base ho21) hb); have n3_ := Aside0.mk (Kd.R_lower (Kd.R_new' (Kd.R_new' ho21 (Kd.R_lt (kR_ HO124.out))) (Kd.R_lt (kR_ HO133.out))) (below_size (hb0_ HB.out))); have n4_ := Aside0.mk (below_step (hb0_ HB.out) hb); clear HO124 HO128 HO133 HB; have HO124 := n0_; have HO128 := n1_; have HO133 := n2_; have HO137 := n3_; have HB := n4_; clear n0_ n1_ n2_ n3_ n4_ hb ho21; obtain ⟨Ao22, co22, eo22⟩ := Kd.R_slice HO137.out; subst eo22) | (go_at_call 47; (with_reducible refine (mask_Put.calls k _ _ y135 _ _ t125 2 t138 _ ?side1 ?side2 ?side3 ?side4 A10.out).mono ?_); (case side1 => repeat (first | exact (Kd.R_reads' HO137.out).2.2 | (with_reducible refine Kd.C_alloc ?_ _) | (with_reducible refine Kd.C_drewN ?_ _) | (with_reducible refine Kd.C_drew ?_))); (case side2 => exact (Kd.R_reads' HO137.out).2.1); (case side3 => repeat (first | exact (Kd.R_reads' HO128.out).2.2 | (with_reducible refine Kd.C_alloc ?_ _) | (with_reducible refine Kd.C_drewN ?_ _) | (with_reducible refine Kd.C_drew ?_))); (case side4 => exact (Kd.R_reads' HO128.out).2.1); rintro e w23 ⟨v139, rfl, ho0, hb⟩; have n0_ := Aside0.mk (Kd.R_elder' (kR_ HO124.out) (Kd.R_base ho0) hb); have n1_ := Aside0.mk (Kd.R_below (kR_ HO128.out) hb); have n2_ := Aside0.mk (Kd.R_elder' (kR_ HO133.out) (Kd.R_base ho0) hb); have n3_ := Aside0.mk (Kd.R_elder' (kR_ HO137.out) (Kd.R_base ho0) hb); have n4_ := Aside0.mk (Kd.R_lower (Kd.R_new' (Kd.R_new' (Kd.R_new' ho0 (Kd.R_lt (kR_ HO124.out))) (Kd.R_lt (kR_ HO133.out))) (Kd.R_lt (kR_ HO137.out))) (below_size (hb0_ HB.out))); have n5_ := Aside0.mk (below_step (hb0_ HB.out) hb); clear HO124 HO128 HO133 HO137 HB; have HO124 := n0_; have HO128 := n1_; have HO133 := n2_; have HO137 := n3_; have HO140 := n4_; have HB := n5_; clear n0_ n1_ n2_ n3_ n4_ n5_; (try clear hb); (try clear hb2); (try clear hk); (try clear hi); (try clear ho0); obtain ⟨Ao24, co24, eo24⟩ := Kd.R_slice HO140.out; subst eo24) | (go_at_call 48; (with_reducible refine (mask_Get.calls k _ _ t138 _ _ t125 t141 _ ?side1 ?side2 ?side3 ?side4 A11.out).mono ?_); (case side1 => repeat (first | exact (Kd.R_reads' HO140.out).2.2 | (with_reducible refine Kd.C_alloc ?_ _) | (with_reducible refine Kd.C_drewN ?_ _) | (with_reducible refine Kd.C_drew ?_))); (case side2 => exact (Kd.R_reads' HO140.out).2.1); (case side3 => repeat (first | exact (Kd.R_reads' HO128.out).2.2 | (with_reducible refine Kd.C_alloc ?_ _) | (with_reducible refine Kd.C_drewN ?_ _) | (with_reducible refine Kd.C_drew ?_))); (case side4 => exact (Kd.R_reads' HO128.out).2.1); rintro e w25 ⟨rfl, hb⟩; have n0_ := Aside0.mk (Kd.R_below (kR_ HO124.out) hb); have n1_ := Aside0.mk (Kd.R_below (kR_ HO128.out) hb); have n2_ := Aside0.mk (Kd.R_below (kR_ HO133.out) hb); have n3_ := Aside0.mk (Kd.R_below (kR_ HO137.out) hb); have n4_ := Aside0.mk (Kd.R_below (kR_ HO140.out) hb); have n5_ := Aside0.mk (below_step (hb0_ HB.out) hb); clear HO124 HO128 HO133 HO137 HO140 HB; have HO124 := n0_; have HO128 := n1_; have HO133 := n2_; have HO137 := n3_; have HO140 := n4_; have HB := n5_; clear n0_ n1_ n2_ n3_ n4_ n5_; (try clear hb); (try clear hb2); (try clear hk); (try clear hi)))
                go_ret
                exact ⟨by first | rfl | (simp [errW_none, errW_some] <;> rfl) | (simp [*, errW_none, errW_some] <;> rfl), by repeat (first | (with_reducible first | exact HB.out | apply below_alloc | apply pw_below_drewN | apply below_drew1) | exact HB.out)⟩
              · rw [if_neg c9] at H
                have c9b0 : (t134 == 3) = false := beq_eq_false_iff_ne.mpr c9
                have c9b1 : (t134 != 3) = true := bne_iff_ne.mpr c9
                obtain rfl := Option.some.inj H
                go_enter Try.func43, Try.ntmps43
                go_wp2_with (first | ((with_reducible refine gate_dst (N := 4) rfl ?_); (try (refine gate_guard (by rfl) ?_; dsimp only)); refine Kd.R_lit (Kd.int .u8) _ 5 ?hg (N := 4) ?hd (xs := ([1, 6] : List Int)) (inner := [.int .u8 1, .int .u8 6]) (ok := fun _ => True) (okp := fun _ => True) ?hr ?hp (fun _ hk => hk) trivial (Below.refl _ _) (Nat.le_refl _) (by simp) ?_; (case hd => rfl); (case hg => rfl); (case hr => first | (go_simp; done) | (go_simp; rfl)); (case hp => exact (Reps.one (show Kd.M (Kd.int .u8) _ _ _ 1 [.int .u8 1] from rfl) (Reps.one (show Kd.M (Kd.int .u8) _ _ _ 6 [.int .u8 6] from rfl) (Reps.none _ _)))); intro v123 w26 ho27 hb hg_ hnew_; clear hg_ hnew_; (first | rw [← Ny122.out] at ho27 | (simp only [Int.reduceToNat] at ho27; rw [← Ny122.out] at ho27)); have n0_ := Aside0.mk (Kd.R_lower ho27 (below_size (hb0_ HB.out))); have n1_ := Aside0.mk (below_step (hb0_ HB.out) hb); clear HB; have HO124 := n0_; have HB := n1_; clear n0_ n1_ hb ho27; obtain ⟨Ao28, co28, eo28⟩ := Kd.R_slice HO124.out; subst eo28) | ((with_reducible refine gate_callee (f := 44) rfl ?_); refine goesL_ (some 5) rfl rfl Try.func44 (by kernel_rfl) rfl #[.slice Ao28 y122.length co28, .int .i64 2] rfl (by (try simp only [List.map_toArray, List.map_cons, List.map_nil]); first | done | rfl | (simp only [List.length_drop, List.length_take]; rfl)) ?_; (with_reducible refine (mask_Bits.calls k _ _ y122 2 t125 true _ ?side1 ?side2 A1.out).mono ?_); (case side1 => repeat (first | exact (Kd.R_reads' HO124.out).2.2 | (with_reducible refine Kd.C_alloc ?_ _) | (with_reducible refine Kd.C_drewN ?_ _) | (with_reducible refine Kd.C_drew ?_))); (case side2 => exact (Kd.R_reads' HO124.out).2.1); rintro e w29 ⟨v127, rfl, ho0, hb⟩; refine ⟨_, rfl, ?_⟩; have n0_ := Aside0.mk (Kd.R_below (kR_ HO124.out) hb); have n1_ := Aside0.mk (Kd.R_lower ho0 (below_size (hb0_ HB.out))); have n2_ := Aside0.mk (below_step (hb0_ HB.out) hb); clear HO124 HB; have HO124 := n0_; have HO128 := n1_; have HB := n2_; clear n0_ n1_ n2_; (try clear hb); (try clear hb2); (try clear hk); (try clear hi); (try clear ho0); obtain ⟨Ao30, co30, eo30⟩ := Kd.R_slice HO128.out; subst eo30; have p129 : 0 ≤ (0 : Int) := (by omega); have q129 : 0 < (t125.length : Int) := od_; obtain ⟨ad129, e129, hx129_0⟩ := Kd.at_int (Kd.R_reads' HO128.out).2.2 0 p129 q129; cases e129; have qi129 : (0 < t125.length) = True := eq_true (by omega); (try rw [show ((0 : Int)).toNat = 0 from rfl] at hx129_0); (try rw [Addr.add_zero'] at hx129_0); replace p129 := eq_true p129; replace q129 := eq_true q129; have p130 : 0 ≤ (1 : Int) := (by omega); have q130 : 1 < (t125.length : Int) := od_; obtain ⟨ad130, e130, hx130_0⟩ := Kd.at_int (Kd.R_reads' HO128.out).2.2 1 p130 q130; obtain rfl : ad129 = ad130 := (by injection e130); (try simp only [show (1 : Int).toNat = 1 from rfl, Nat.reduceMul, Nat.reduceEqDiff, Go.Addr.add, ↓reduceIte] at hx130_0); have qi130 : (1 < t125.length) = True := eq_true (by omega); (try rw [show ((1 : Int)).toNat = 1 from rfl] at hx130_0); replace p130 := eq_true p130; replace q130 := eq_true q130) | ((with_reducible refine gate_dst (N := 27) rfl ?_); (try (refine gate_guard (by rfl) ?_; dsimp only)); refine Kd.R_lit (Kd.int .u8) _ 5 ?hg (N := 27) ?hd (xs := ([1, 6] : List Int)) (inner := [.int .u8 1, .int .u8 6]) (ok := fun _ => True) (okp := fun _ => True) ?hr ?hp (fun _ hk => hk) trivial (Below.refl _ _) (Nat.le_refl _) (by simp) ?_; (case hd => rfl); (case hg => rfl); (case hr => first | (go_simp; done) | (go_simp; rfl)); (case hp => exact (Reps.one (show Kd.M (Kd.int .u8) _ _ _ 1 [.int .u8 1] from rfl) (Reps.one (show Kd.M (Kd.int .u8) _ _ _ 6 [.int .u8 6] from rfl) (Reps.none _ _)))); intro v132 w31 ho32 hb hg_ hnew_; clear hg_ hnew_; (first | rw [← Ny131.out] at ho32 | (simp only [Int.reduceToNat] at ho32; rw [← Ny131.out] at ho32)); have n0_ := Aside0.mk (Kd.R_elder' (kR_ HO124.out) (Kd.R_base ho32) hb); have n1_ := Aside0.mk (Kd.R_below (kR_ HO128.out) hb); have n2_ := Aside0.mk (Kd.R_lower (Kd.R_new' ho32 (Kd.R_lt (kR_ HO124.out))) (below_size (hb0_ HB.out))); have n3_ := Aside0.mk (below_step (hb0_ HB.out) hb); clear HO124 HO128 HB; have HO124 := n0_; have HO128 := n1_; have HO133 := n2_; have HB := n3_; clear n0_ n1_ n2_ n3_ hb ho32; obtain ⟨Ao33, co33, eo33⟩ := Kd.R_slice HO133.out; subst eo33) | (go_at_call 45; (with_reducible refine (mask_Count.calls k _ _ y131 t134 _ ?side1 ?side2 A8.out).mono ?_); (case side1 => repeat (first | exact (Kd.R_reads' HO133.out).2.2 | (with_reducible refine Kd.C_alloc ?_ _) | (with_reducible refine Kd.C_drewN ?_ _) | (with_reducible refine Kd.C_drew ?_))); (case side2 => exact (Kd.R_reads' HO133.out).2.1); rintro e w' ⟨rfl, ⟨nd, rfl⟩⟩))
                go_ret
                exact ⟨by first | rfl | (simp [errW_none, errW_some] <;> rfl) | (simp [*, errW_none, errW_some] <;> rfl), by repeat (first | (with_reducible first | exact HB.out | apply below_alloc | apply pw_below_drewN | apply below_drew1) | exact HB.out)⟩
            · rw [if_neg c7] at H
              have c7b0 : ((rd t125 1) == 9) = false := beq_eq_false_iff_ne.mpr c7
              have c7b1 : ((rd t125 1) != 9) = true := bne_iff_ne.mpr c7
              obtain rfl := Option.some.inj H
              go_enter Try.func43, Try.ntmps43
              go_wp2_with (first | ((with_reducible refine gate_dst (N := 4) rfl ?_); (try (refine gate_guard (by rfl) ?_; dsimp only)); refine Kd.R_lit (Kd.int .u8) _ 5 ?hg (N := 4) ?hd (xs := ([1, 6] : List Int)) (inner := [.int .u8 1, .int .u8 6]) (ok := fun _ => True) (okp := fun _ => True) ?hr ?hp (fun _ hk => hk) trivial (Below.refl _ _) (Nat.le_refl _) (by simp) ?_; (case hd => rfl); (case hg => rfl); (case hr => first | (go_simp; done) | (go_simp; rfl)); (case hp => exact (Reps.one (show Kd.M (Kd.int .u8) _ _ _ 1 [.int .u8 1] from rfl) (Reps.one (show Kd.M (Kd.int .u8) _ _ _ 6 [.int .u8 6] from rfl) (Reps.none _ _)))); intro v123 w34 ho35 hb hg_ hnew_; clear hg_ hnew_; (first | rw [← Ny122.out] at ho35 | (simp only [Int.reduceToNat] at ho35; rw [← Ny122.out] at ho35)); have n0_ := Aside0.mk (Kd.R_lower ho35 (below_size (hb0_ HB.out))); have n1_ := Aside0.mk (below_step (hb0_ HB.out) hb); clear HB; have HO124 := n0_; have HB := n1_; clear n0_ n1_ hb ho35; obtain ⟨Ao36, co36, eo36⟩ := Kd.R_slice HO124.out; subst eo36) | ((with_reducible refine gate_callee (f := 44) rfl ?_); refine goesL_ (some 5) rfl rfl Try.func44 (by kernel_rfl) rfl #[.slice Ao36 y122.length co36, .int .i64 2] rfl (by (try simp only [List.map_toArray, List.map_cons, List.map_nil]); first | done | rfl | (simp only [List.length_drop, List.length_take]; rfl)) ?_; (with_reducible refine (mask_Bits.calls k _ _ y122 2 t125 true _ ?side1 ?side2 A1.out).mono ?_); (case side1 => repeat (first | exact (Kd.R_reads' HO124.out).2.2 | (with_reducible refine Kd.C_alloc ?_ _) | (with_reducible refine Kd.C_drewN ?_ _) | (with_reducible refine Kd.C_drew ?_))); (case side2 => exact (Kd.R_reads' HO124.out).2.1); rintro e w37 ⟨v127, rfl, ho0, hb⟩; refine ⟨_, rfl, ?_⟩; have n0_ := Aside0.mk (Kd.R_below (kR_ HO124.out) hb); have n1_ := Aside0.mk (Kd.R_lower ho0 (below_size (hb0_ HB.out))); have n2_ := Aside0.mk (below_step (hb0_ HB.out) hb); clear HO124 HB; have HO124 := n0_; have HO128 := n1_; have HB := n2_; clear n0_ n1_ n2_; (try clear hb); (try clear hb2); (try clear hk); (try clear hi); (try clear ho0); obtain ⟨Ao38, co38, eo38⟩ := Kd.R_slice HO128.out; subst eo38; have p129 : 0 ≤ (0 : Int) := (by omega); have q129 : 0 < (t125.length : Int) := od_; obtain ⟨ad129, e129, hx129_0⟩ := Kd.at_int (Kd.R_reads' HO128.out).2.2 0 p129 q129; cases e129; have qi129 : (0 < t125.length) = True := eq_true (by omega); (try rw [show ((0 : Int)).toNat = 0 from rfl] at hx129_0); (try rw [Addr.add_zero'] at hx129_0); replace p129 := eq_true p129; replace q129 := eq_true q129; have p130 : 0 ≤ (1 : Int) := (by omega); have q130 : 1 < (t125.length : Int) := od_; obtain ⟨ad130, e130, hx130_0⟩ := Kd.at_int (Kd.R_reads' HO128.out).2.2 1 p130 q130; obtain rfl : ad129 = ad130 := (by injection e130); (try simp only [show (1 : Int).toNat = 1 from rfl, Nat.reduceMul, Nat.reduceEqDiff, Go.Addr.add, ↓reduceIte] at hx130_0); have qi130 : (1 < t125.length) = True := eq_true (by omega); (try rw [show ((1 : Int)).toNat = 1 from rfl] at hx130_0); replace p130 := eq_true p130; replace q130 := eq_true q130))
              go_ret
              exact ⟨by first | rfl | (simp [errW_none, errW_some] <;> rfl) | (simp [*, errW_none, errW_some] <;> rfl), by repeat (first | (with_reducible first | exact HB.out | apply below_alloc | apply pw_below_drewN | apply below_drew1) | exact HB.out)⟩
          · rw [if_neg c6] at H
            exact absurd H (by simp)
        · rw [if_neg c5] at H
          have c5b0 : ((rd t125 0) == 0) = false := beq_eq_false_iff_ne.mpr c5
          have c5b1 : ((rd t125 0) != 0) = true := bne_iff_ne.mpr c5
          obtain rfl := Option.some.inj H
          go_enter Try.func43, Try.ntmps43
          go_wp2_with (first | ((with_reducible refine gate_dst (N := 4) rfl ?_); (try (refine gate_guard (by rfl) ?_; dsimp only)); refine Kd.R_lit (Kd.int .u8) _ 5 ?hg (N := 4) ?hd (xs := ([1, 6] : List Int)) (inner := [.int .u8 1, .int .u8 6]) (ok := fun _ => True) (okp := fun _ => True) ?hr ?hp (fun _ hk => hk) trivial (Below.refl _ _) (Nat.le_refl _) (by simp) ?_; (case hd => rfl); (case hg => rfl); (case hr => first | (go_simp; done) | (go_simp; rfl)); (case hp => exact (Reps.one (show Kd.M (Kd.int .u8) _ _ _ 1 [.int .u8 1] from rfl) (Reps.one (show Kd.M (Kd.int .u8) _ _ _ 6 [.int .u8 6] from rfl) (Reps.none _ _)))); intro v123 w39 ho40 hb hg_ hnew_; clear hg_ hnew_; (first | rw [← Ny122.out] at ho40 | (simp only [Int.reduceToNat] at ho40; rw [← Ny122.out] at ho40)); have n0_ := Aside0.mk (Kd.R_lower ho40 (below_size (hb0_ HB.out))); have n1_ := Aside0.mk (below_step (hb0_ HB.out) hb); clear HB; have HO124 := n0_; have HB := n1_; clear n0_ n1_ hb ho40; obtain ⟨Ao41, co41, eo41⟩ := Kd.R_slice HO124.out; subst eo41) | ((with_reducible refine gate_callee (f := 44) rfl ?_); refine goesL_ (some 5) rfl rfl Try.func44 (by kernel_rfl) rfl #[.slice Ao41 y122.length co41, .int .i64 2] rfl (by (try simp only [List.map_toArray, List.map_cons, List.map_nil]); first | done | rfl | (simp only [List.length_drop, List.length_take]; rfl)) ?_; (with_reducible refine (mask_Bits.calls k _ _ y122 2 t125 true _ ?side1 ?side2 A1.out).mono ?_); (case side1 => repeat (first | exact (Kd.R_reads' HO124.out).2.2 | (with_reducible refine Kd.C_alloc ?_ _) | (with_reducible refine Kd.C_drewN ?_ _) | (with_reducible refine Kd.C_drew ?_))); (case side2 => exact (Kd.R_reads' HO124.out).2.1); rintro e w42 ⟨v127, rfl, ho0, hb⟩; refine ⟨_, rfl, ?_⟩; have n0_ := Aside0.mk (Kd.R_below (kR_ HO124.out) hb); have n1_ := Aside0.mk (Kd.R_lower ho0 (below_size (hb0_ HB.out))); have n2_ := Aside0.mk (below_step (hb0_ HB.out) hb); clear HO124 HB; have HO124 := n0_; have HO128 := n1_; have HB := n2_; clear n0_ n1_ n2_; (try clear hb); (try clear hb2); (try clear hk); (try clear hi); (try clear ho0); obtain ⟨Ao43, co43, eo43⟩ := Kd.R_slice HO128.out; subst eo43; have p129 : 0 ≤ (0 : Int) := (by omega); have q129 : 0 < (t125.length : Int) := od_; obtain ⟨ad129, e129, hx129_0⟩ := Kd.at_int (Kd.R_reads' HO128.out).2.2 0 p129 q129; cases e129; have qi129 : (0 < t125.length) = True := eq_true (by omega); (try rw [show ((0 : Int)).toNat = 0 from rfl] at hx129_0); (try rw [Addr.add_zero'] at hx129_0); replace p129 := eq_true p129; replace q129 := eq_true q129))
          go_ret
          exact ⟨by first | rfl | (simp [errW_none, errW_some] <;> rfl) | (simp [*, errW_none, errW_some] <;> rfl), by repeat (first | (with_reducible first | exact HB.out | apply below_alloc | apply pw_below_drewN | apply below_drew1) | exact HB.out)⟩
      · rw [if_neg c4] at H
        exact absurd H (by simp)
    · rw [if_neg c3] at H
      have c3b0 : ((t125.length : Int) == 2) = false := beq_eq_false_iff_ne.mpr c3
      have c3b1 : ((t125.length : Int) != 2) = true := bne_iff_ne.mpr c3
      obtain rfl := Option.some.inj H
      go_enter Try.func43, Try.ntmps43
      go_wp2_with (first | ((with_reducible refine gate_dst (N := 4) rfl ?_); (try (refine gate_guard (by rfl) ?_; dsimp only)); refine Kd.R_lit (Kd.int .u8) _ 5 ?hg (N := 4) ?hd (xs := ([1, 6] : List Int)) (inner := [.int .u8 1, .int .u8 6]) (ok := fun _ => True) (okp := fun _ => True) ?hr ?hp (fun _ hk => hk) trivial (Below.refl _ _) (Nat.le_refl _) (by simp) ?_; (case hd => rfl); (case hg => rfl); (case hr => first | (go_simp; done) | (go_simp; rfl)); (case hp => exact (Reps.one (show Kd.M (Kd.int .u8) _ _ _ 1 [.int .u8 1] from rfl) (Reps.one (show Kd.M (Kd.int .u8) _ _ _ 6 [.int .u8 6] from rfl) (Reps.none _ _)))); intro v123 w44 ho45 hb hg_ hnew_; clear hg_ hnew_; (first | rw [← Ny122.out] at ho45 | (simp only [Int.reduceToNat] at ho45; rw [← Ny122.out] at ho45)); have n0_ := Aside0.mk (Kd.R_lower ho45 (below_size (hb0_ HB.out))); have n1_ := Aside0.mk (below_step (hb0_ HB.out) hb); clear HB; have HO124 := n0_; have HB := n1_; clear n0_ n1_ hb ho45; obtain ⟨Ao46, co46, eo46⟩ := Kd.R_slice HO124.out; subst eo46) | ((with_reducible refine gate_callee (f := 44) rfl ?_); refine goesL_ (some 5) rfl rfl Try.func44 (by kernel_rfl) rfl #[.slice Ao46 y122.length co46, .int .i64 2] rfl (by (try simp only [List.map_toArray, List.map_cons, List.map_nil]); first | done | rfl | (simp only [List.length_drop, List.length_take]; rfl)) ?_; (with_reducible refine (mask_Bits.calls k _ _ y122 2 t125 true _ ?side1 ?side2 A1.out).mono ?_); (case side1 => repeat (first | exact (Kd.R_reads' HO124.out).2.2 | (with_reducible refine Kd.C_alloc ?_ _) | (with_reducible refine Kd.C_drewN ?_ _) | (with_reducible refine Kd.C_drew ?_))); (case side2 => exact (Kd.R_reads' HO124.out).2.1); rintro e w47 ⟨v127, rfl, ho0, hb⟩; refine ⟨_, rfl, ?_⟩; have n0_ := Aside0.mk (Kd.R_below (kR_ HO124.out) hb); have n1_ := Aside0.mk (Kd.R_lower ho0 (below_size (hb0_ HB.out))); have n2_ := Aside0.mk (below_step (hb0_ HB.out) hb); clear HO124 HB; have HO124 := n0_; have HO128 := n1_; have HB := n2_; clear n0_ n1_ n2_; (try clear hb); (try clear hb2); (try clear hk); (try clear hi); (try clear ho0); obtain ⟨Ao48, co48, eo48⟩ := Kd.R_slice HO128.out; subst eo48))
      go_ret
      exact ⟨by first | rfl | (simp [errW_none, errW_some] <;> rfl) | (simp [*, errW_none, errW_some] <;> rfl), by repeat (first | (with_reducible first | exact HB.out | apply below_alloc | apply pw_below_drewN | apply below_drew1) | exact HB.out)⟩
  · replace c2 := Bool.eq_false_iff.mpr c2
    subst c2
    have H1 : (some false) = some r := by rw [if_neg (show ¬ (false = true) by decide)] at H; exact H
    clear H
    have H := H1
    clear H1
    obtain rfl := Option.some.inj H
    go_enter Try.func43, Try.ntmps43
    go_wp2_with (first | ((with_reducible refine gate_dst (N := 4) rfl ?_); (try (refine gate_guard (by rfl) ?_; dsimp only)); refine Kd.R_lit (Kd.int .u8) _ 5 ?hg (N := 4) ?hd (xs := ([1, 6] : List Int)) (inner := [.int .u8 1, .int .u8 6]) (ok := fun _ => True) (okp := fun _ => True) ?hr ?hp (fun _ hk => hk) trivial (Below.refl _ _) (Nat.le_refl _) (by simp) ?_; (case hd => rfl); (case hg => rfl); (case hr => first | (go_simp; done) | (go_simp; rfl)); (case hp => exact (Reps.one (show Kd.M (Kd.int .u8) _ _ _ 1 [.int .u8 1] from rfl) (Reps.one (show Kd.M (Kd.int .u8) _ _ _ 6 [.int .u8 6] from rfl) (Reps.none _ _)))); intro v123 w49 ho50 hb hg_ hnew_; clear hg_ hnew_; (first | rw [← Ny122.out] at ho50 | (simp only [Int.reduceToNat] at ho50; rw [← Ny122.out] at ho50)); have n0_ := Aside0.mk (Kd.R_lower ho50 (below_size (hb0_ HB.out))); have n1_ := Aside0.mk (below_step (hb0_ HB.out) hb); clear HB; have HO124 := n0_; have HB := n1_; clear n0_ n1_ hb ho50; obtain ⟨Ao51, co51, eo51⟩ := Kd.R_slice HO124.out; subst eo51) | ((with_reducible refine gate_callee (f := 44) rfl ?_); refine goesL_ (some 5) rfl rfl Try.func44 (by kernel_rfl) rfl #[.slice Ao51 y122.length co51, .int .i64 2] rfl (by (try simp only [List.map_toArray, List.map_cons, List.map_nil]); first | done | rfl | (simp only [List.length_drop, List.length_take]; rfl)) ?_; (with_reducible refine (mask_Bits.calls k _ _ y122 2 t125 false _ ?side1 ?side2 A1.out).mono ?_); (case side1 => repeat (first | exact (Kd.R_reads' HO124.out).2.2 | (with_reducible refine Kd.C_alloc ?_ _) | (with_reducible refine Kd.C_drewN ?_ _) | (with_reducible refine Kd.C_drew ?_))); (case side2 => exact (Kd.R_reads' HO124.out).2.1); rintro e w52 ⟨v127, rfl, ho0, hb⟩; refine ⟨_, rfl, ?_⟩; have n0_ := Aside0.mk (Kd.R_below (kR_ HO124.out) hb); have n1_ := Aside0.mk (Kd.R_lower ho0 (below_size (hb0_ HB.out))); have n2_ := Aside0.mk (below_step (hb0_ HB.out) hb); clear HO124 HB; have HO124 := n0_; have HO128 := n1_; have HB := n2_; clear n0_ n1_ n2_; (try clear hb); (try clear hb2); (try clear hk); (try clear hi); (try clear ho0)))
    go_ret
    exact ⟨by first | rfl | (simp [errW_none, errW_some] <;> rfl) | (simp [*, errW_none, errW_some] <;> rfl), by repeat (first | (with_reducible first | exact HB.out | apply below_alloc | apply pw_below_drewN | apply below_drew1) | exact HB.out)⟩

/-! ### bits_Mul32: function 97 -/
def bits_Mul32.f (a0 : Int) (a1 : Int) : Option (Int × Int) := some (((IntKind.u64.wrap ((IntKind.u64.wrap (a0)) * (IntKind.u64.wrap (a1)))) / 4294967296) % 4294967296, (IntKind.u64.wrap ((IntKind.u64.wrap (a0)) * (IntKind.u64.wrap (a1)))) % 4294967296)
set_option maxHeartbeats 8000000 in
set_option maxRecDepth 100000 in
theorem bits_Mul32.calls (a0 : Int) (a1 : Int) (r1 : Int) (r2 : Int) (w : World) (h : bits_Mul32.f a0 a1 = some (r1, r2)) :
    Calls Try.prog 97 #[.int .u32 a0, .int .u32 a1] w fun e w' => e = .returned (.tuple #[.int .u32 r1, .int .u32 r2]) ∧ Drawn0 w w' := by
  have H : (some (((IntKind.u64.wrap ((IntKind.u64.wrap (a0)) * (IntKind.u64.wrap (a1)))) / 4294967296) % 4294967296, (IntKind.u64.wrap ((IntKind.u64.wrap (a0)) * (IntKind.u64.wrap (a1)))) % 4294967296)) = some (r1, r2) := h
  clear h
  simp only [Option.some.injEq, Prod.mk.injEq] at H
  obtain ⟨rfl, rfl⟩ := H
  go_enter Try.func97, Try.ntmps97
  go_wp2
  go_ret2
  exact ⟨by first | rfl | (simp; done) | (simp [*]; done), by repeat (first | exact Drawn0.refl _ | apply Drawn0.step)⟩

/-! ### bits_Mul64: function 98 -/
def bits_Mul64.f (a0 : Int) (a1 : Int) : Option (Int × Int) := some (IntKind.u64.wrap ((IntKind.u64.wrap ((IntKind.u64.wrap ((a0 / 4294967296) * (a1 / 4294967296))) + ((IntKind.u64.wrap ((IntKind.u64.wrap ((a0 / 4294967296) * (Go.bits .and .u64 a1 4294967295))) + ((IntKind.u64.wrap ((Go.bits .and .u64 a0 4294967295) * (Go.bits .and .u64 a1 4294967295))) / 4294967296))) / 4294967296))) + ((IntKind.u64.wrap ((Go.bits .and .u64 (IntKind.u64.wrap ((IntKind.u64.wrap ((a0 / 4294967296) * (Go.bits .and .u64 a1 4294967295))) + ((IntKind.u64.wrap ((Go.bits .and .u64 a0 4294967295) * (Go.bits .and .u64 a1 4294967295))) / 4294967296))) 4294967295) + (IntKind.u64.wrap ((Go.bits .and .u64 a0 4294967295) * (a1 / 4294967296))))) / 4294967296)), IntKind.u64.wrap (a0 * a1))
set_option maxHeartbeats 8000000 in
set_option maxRecDepth 100000 in
theorem bits_Mul64.calls (a0 : Int) (a1 : Int) (r1 : Int) (r2 : Int) (w : World) (h : bits_Mul64.f a0 a1 = some (r1, r2)) :
    Calls Try.prog 98 #[.int .u64 a0, .int .u64 a1] w fun e w' => e = .returned (.tuple #[.int .u64 r1, .int .u64 r2]) ∧ Drawn0 w w' := by
  have H : (some (IntKind.u64.wrap ((IntKind.u64.wrap ((IntKind.u64.wrap ((a0 / 4294967296) * (a1 / 4294967296))) + ((IntKind.u64.wrap ((IntKind.u64.wrap ((a0 / 4294967296) * (Go.bits .and .u64 a1 4294967295))) + ((IntKind.u64.wrap ((Go.bits .and .u64 a0 4294967295) * (Go.bits .and .u64 a1 4294967295))) / 4294967296))) / 4294967296))) + ((IntKind.u64.wrap ((Go.bits .and .u64 (IntKind.u64.wrap ((IntKind.u64.wrap ((a0 / 4294967296) * (Go.bits .and .u64 a1 4294967295))) + ((IntKind.u64.wrap ((Go.bits .and .u64 a0 4294967295) * (Go.bits .and .u64 a1 4294967295))) / 4294967296))) 4294967295) + (IntKind.u64.wrap ((Go.bits .and .u64 a0 4294967295) * (a1 / 4294967296))))) / 4294967296)), IntKind.u64.wrap (a0 * a1))) = some (r1, r2) := h
  clear h
  simp only [Option.some.injEq, Prod.mk.injEq] at H
  obtain ⟨rfl, rfl⟩ := H
  go_enter Try.func98, Try.ntmps98
  go_wp2
  go_ret2
  exact ⟨by first | rfl | (simp; done) | (simp [*]; done), by repeat (first | exact Drawn0.refl _ | apply Drawn0.step)⟩

/-! ### bits_Mul: function 94 -/
def bits_Mul.f (a0 : Int) (a1 : Int) : Option (Int × Int) := (bits_Mul64.f a0 a1).bind fun bt142 => (some (bt142.1, bt142.2))
set_option maxHeartbeats 8000000 in
set_option maxRecDepth 100000 in
theorem bits_Mul.calls (a0 : Int) (a1 : Int) (r1 : Int) (r2 : Int) (w : World) (h : bits_Mul.f a0 a1 = some (r1, r2)) :
    Calls Try.prog 94 #[.int .u64 a0, .int .u64 a1] w fun e w' => e = .returned (.tuple #[.int .u64 r1, .int .u64 r2]) ∧ Drawn0 w w' := by
  have H : ((bits_Mul64.f a0 a1).bind fun bt142 => (some (bt142.1, bt142.2))) = some (r1, r2) := h
  clear h
  replace H := Option.bind_eq_some_iff.mp H
  obtain ⟨⟨t142, t143⟩, A30, H⟩ := H
  replace H : (some (t142, t143)) = some (r1, r2) := H
  have A3 := Aside0.mk A30
  clear A30
  simp only [Option.some.injEq, Prod.mk.injEq] at H
  obtain ⟨rfl, rfl⟩ := H
  go_enter Try.func94, Try.ntmps94
  go_wp2_with (first | ((with_reducible refine gate_callee (f := 98) rfl ?_); refine goesL_ (some 25) rfl rfl Try.func98 (by kernel_rfl) rfl #[.int .u64 a0, .int .u64 a1] rfl (by (try simp only [List.map_toArray, List.map_cons, List.map_nil]); first | done | rfl | (simp only [List.length_drop, List.length_take]; rfl)) ?_; (with_reducible refine (bits_Mul64.calls a0 a1 t142 t143 _ A3.out).mono ?_); rintro e w' ⟨rfl, ⟨nd, rfl⟩⟩; refine ⟨_, rfl, ?_⟩))
  go_ret2
  exact ⟨by first | rfl | (simp; done) | (simp [*]; done), by repeat (first | exact Drawn0.refl _ | apply Drawn0.step)⟩

/-! ### Extend: function 46 (by hand) -/
/-- A row of bytes of the call's own whose block may be longer than its capacity. -/
def ExtRow (w : World) (base : Nat) (v : Value) (xs : List Int) : Prop :=
  ∃ g cap cur, v = .slice (some ⟨g, 0, none⟩) xs.length cap ∧ base ≤ g ∧ w.heap[g]? = some (.cells cur 5 (0, 0)) ∧ xs.length ≤ cap ∧ cap ≤ cur.size ∧ xs.length ≤ 1024 ∧ cur.toList.take xs.length = nums .u8 xs
theorem bits_Mul_one : ∀ n : Fin 1025, bits_Mul.f 1 (n.val : Int) = some (0, (n.val : Int)) := by decide +kernel
theorem splice_take (L : List Value) (b m : Nat) (x : Value) (hL : ∀ j, j < b → L[j]? = some x) (hm : m ≤ b) (hb : b + m ≤ L.length) :
    ∀ j, j < b + m → (splice L b (L.take m))[j]? = some x := by
  intro j hj
  unfold splice
  rw [List.getElem?_append]
  simp only [List.length_take]
  split
  · rename_i h
    rw [List.getElem?_take, if_pos (by omega)]
    exact hL j (by omega)
  · rename_i h
    rw [List.getElem?_append]
    simp only [List.length_take]
    rw [if_pos (by omega), List.getElem?_take, if_pos (by omega)]
    exact hL _ (by omega)
theorem callNoZero (n : Nat) (hn : n ≤ 1024) (w : World) (nd : Nat) : ∃ cs : Array Value, (callFunc 95 #[.int .i64 (n : Int)]).run Try.prog (w.drewN nd) = .ok (.value (.slice (some ⟨w.heap.size, 0, none⟩) n cs.size)) ((w.alloc (.cells cs 5)).drewN (nd + 2)) ∧ n ≤ cs.size := by
  obtain ⟨cs, hrunM, hle, _⟩ := Lib.run_makeNoZero (P := Try.prog) (w.drewN nd) #[3] 27 5 Try.underlying27 n (by omega)
  refine ⟨cs, ?_, hle⟩
  rw [run_callFunc_extern Try.func95 (by kernel_rfl) (by kernel_rfl) (by kernel_rfl) (e := Extern.BytealgMakeNoZero.makeNoZero #[3] #[27]) (by kernel_rfl), hrunM]
  rfl
theorem one_src {W : World} {b o : Nat} {x : Value} (h : W.cell? ⟨b, o, none⟩ = some x) : ∀ j v, [x][j]? = some v → W.cell? ((⟨b, o, none⟩ : Addr).add j) = some v := by
  intro j v hj
  rcases j with _ | j
  · simp only [List.getElem?_cons_zero, Option.some.injEq] at hj
    subst hj
    simpa [Go.Addr.add] using h
  · simp at hj
theorem cells_one {L : List Value} {k m : Nat} (h : ∀ j, j < k → L[j]? = some (Value.int .u8 255)) (hm : m ≤ k) {v : Value} (hv : v ∈ L.take m) : v.oneCell' = true := by
  obtain ⟨j, hj⟩ := List.mem_iff_getElem?.1 hv
  rw [List.getElem?_take] at hj
  split at hj
  · rw [h j (by omega)] at hj
    obtain rfl := Option.some.inj hj
    rfl
  · cases hj
theorem self_src {W : World} {g : Nat} {L : List Value} (h : W.heap[g]? = some (.cells L.toArray 5 (0, 0))) (m : Nat) : ∀ j v, (L.take m)[j]? = some v → W.cell? ((⟨g, 0, none⟩ : Addr).add j) = some v := by
  intro j v hj
  rw [List.getElem?_take] at hj
  split at hj
  · rw [add_plain, cell_of_row W g j L.toArray 5 (0, 0) h]
    simpa using hj
  · cases hj
theorem cut1 (g n k : Nat) (h : k < n) (W : World) : (Instr.slice 27 (.slice (some ⟨g, 0, none⟩) n n) (some (.int .i64 (k : Int))) none none).run Try.prog W = .ok (.slice (some ⟨g, k, none⟩) (n - k) (n - k)) W := by
  have hu := Try.underlying27
  have h1 : ¬ (n < k) := by omega
  have h2 : ¬ (n = k) := by omega
  have h3 : (k : Int) ≤ (n : Int) := by omega
  have h0 : (0 : Int) ≤ (k : Int) := by omega
  go_simp
theorem cut2 (g n k : Nat) (h : k < n) (hn : n ≤ 1024) (W : World) : (Instr.slice 27 (.slice (some ⟨g, 0, none⟩) n n) none (some (.int .i64 (k : Int))) none).run Try.prog W = .ok (.slice (some ⟨g, 0, none⟩) k n) W := by
  have hu := Try.underlying27
  have h3 : (k : Int) ≤ (n : Int) := by omega
  have h0 : (0 : Int) ≤ (k : Int) := by omega
  go_simp
theorem info5s : (Try.prog.info? 5).map (·.size) = some 1 := by kernel_rfl
set_option maxHeartbeats 4000000 in
set_option maxRecDepth 100000 in
theorem Repeat.pos (b o c n : Nat) (hn : n ≤ 1024) (h0 : 0 < n) (w : World) (hc : w.cell? ⟨b, o, none⟩ = some (.int .u8 255)) :
    Calls Try.prog 87 #[.slice (some ⟨b, o, none⟩) 1 c, .int .i64 (n : Int)] w fun e w' => ∃ v, e = .returned v ∧ ExtRow w' w.heap.size v (List.replicate n 255) ∧ Below w.heap.size w w' := by
  have HM := Aside0.mk (bits_Mul_one ⟨n, by omega⟩)
  have e0 : ((n : Int) == 0) = false := by simp; omega
  have i0 : (0 : Int) ≤ (n : Int) := by omega
  have i2 : (n : Int) ≤ 1024 := by omega
  have hlt0 : decide ((n : Int) < 0) = false := by simp
  go_enter Try.func87, Try.ntmps87
  go_wp2_with (first | (go_at_call 94; (with_reducible refine (bits_Mul.calls 1 (n : Int) 0 (n : Int) _ HM.out).mono ?_); rintro e w' ⟨rfl, ⟨nd, rfl⟩⟩; obtain ⟨cs, hcall, hle⟩ := callNoZero n hn w nd; have i1 : (n : Int) ≤ (cs.size : Int) := (by omega)) | ((with_reducible refine gate_builtin (b := .copy) (xs := #[.tmp 58, .tmp 59]) rfl ?_); refine wpList_copy_splice (by rfl) (.tmp 58) (.tmp 59) 27 27 (by rfl) 5 Try.underlying27 info5s (some ⟨w.heap.size, 0, none⟩) (some ⟨b, o, none⟩) n n 1 c (by rfl) (by rfl) w.heap.size 0 cs.toList 5 ?hg [.int .u8 255] ?hn ?hpos ?hfit ?h1 w.heap.size w ?hb ?hBg ?_; (case hg => exact heap_alloc_new w _); (case hn => show (1 : Nat) = min 1 n; omega); (case hpos => exact fun _ => ⟨rfl, ⟨b, o, none⟩, rfl, one_src ((World.cell?_alloc_lt w (.cells cs 5) ⟨b, o, none⟩ (World.block_lt_of_cell? w _ hc)).trans hc)⟩); (case hfit => simp; omega); (case h1 => simp [Value.oneCell']); (case hb => exact pw_below_drewN ((Below.refl _ _).alloc (Nat.le_refl _) _) _); (case hBg => exact Nat.le_refl _); intro w3 hg3 hb3; have HG3 := Aside0.mk hg3.out; have HB3 := Aside0.mk hb3; clear hg3 hb3))
  have H3 : ∀ j, j < 1 → (splice cs.toList 0 [Value.int .u8 255])[j]? = some (.int .u8 255) := by
    intro j hj
    obtain rfl : j = 0 := by omega
    simp [splice]
  have L3 : (splice cs.toList 0 [Value.int .u8 255]).length = cs.size := by
    rw [length_splice _ _ _ (by simp; omega)]
    simp
  obtain ⟨LL, hLL⟩ : ∃ LL, splice cs.toList 0 [Value.int .u8 255] = LL := ⟨_, rfl⟩
  rw [hLL] at HG3 H3 L3
  clear hLL
  have HH3 := Aside0.mk H3
  have HL3 := Aside0.mk L3
  clear H3 L3
  go_loopg [10] (n - 1) (fun kq v10 wr => ∃ (k : Nat) (L : List Value), v10 = .int .i64 k ∧ Aside0 (1 ≤ k ∧ k ≤ n ∧ kq = n - k) ∧ Aside0 (L.length = cs.size) ∧ Aside0 (∀ j, j < k → L[j]? = some (.int .u8 255)) ∧ Aside0 (wr.heap[w.heap.size]? = some (.cells L.toArray 5 (0, 0))) ∧ Aside0 (Below w.heap.size w wr))
  case atStart => exact ⟨1, LL, rfl, ⟨by omega, by omega, by omega⟩, HL3, HH3, HG3, HB3⟩
  case round =>
    clear HL3 HH3 HG3 HB3
    obtain ⟨k, L, rfl, HK, HL, HH, HG, HB⟩ := hrel
    by_cases hkn : k < n
    · have hk1 := HK.out.1
      go_wp2
      have s0 : (0 : Int) ≤ (k : Int) := by omega
      have s1 : (k : Int) ≤ (n : Int) := by omega
      have HC := Aside0.mk hle
      obtain ⟨m, hm⟩ : ∃ m, m = min k (n - k) := ⟨_, rfl⟩
      have HMM := Aside0.mk hm
      have HM1 := Aside0.mk (show m ≤ k by omega)
      have HM2 := Aside0.mk (show k + m ≤ n by omega)
      have HM3 := Aside0.mk (show 1 ≤ m by omega)
      have m0 : (0 : Int) ≤ (m : Int) := by omega
      have m1 : (k : Int) + (m : Int) ≤ 1024 := by omega
      have HLM := Aside0.mk (show (L.take m).length = m by rw [List.length_take]; have := HL.out; omega)
      have HW := Aside0.mk (show wrap64 ((k : Int) + (m : Int)) = ((k + m : Nat) : Int) by unfold wrap64; omega)
      clear hm
      have hcut1 : ∀ W, (Instr.slice 27 (.slice (some ⟨w.heap.size, 0, none⟩) n n) (some (.int .i64 (k : Int))) none none).run Try.prog W = .ok (.slice (some ⟨w.heap.size, k, none⟩) (n - k) (n - k)) W := cut1 w.heap.size n k hkn
      have hcut2 : ∀ W, (Instr.slice 27 (.slice (some ⟨w.heap.size, 0, none⟩) n n) none (some (.int .i64 (k : Int))) none).run Try.prog W = .ok (.slice (some ⟨w.heap.size, 0, none⟩) k n) W := cut2 w.heap.size n k hkn hn
      replace HG : Aside0 (wr.drew.heap[w.heap.size]? = some (.cells L.toArray 5 (0, 0))) := ⟨HG.out⟩
      replace HB : Aside0 (Below w.heap.size w wr.drew) := ⟨below_drew HB.out⟩
      refine start_ (n := 10) (S := fun w' => True) (ds := []) #[false, false, false, false, false, false, false, false, false, false] (by kernel_rfl) rfl rfl trivial (fun hHeld => ?_)
      generalize wr.drew = w4 at HG HB hHeld ⊢
      refine pure_ (i := 0) (N := some 67) (v := ?_) (a' := ?_) #[true, false, false, false, false, false, false, false, false, false] rfl rfl (by kernel_rfl) (fun _ _ _ h => h) (Or.inl ⟨by rfl, ?_⟩) ?_ ?_
      rotate_left
      · intro w'
        go_simp
        with_reducible rfl
      rotate_left
      · simp only [Act.put, List.setIfInBounds_toArray, List.set_cons_zero, List.set_cons_succ, i64_w, i32_w]
        rfl
      refine pure_ (i := 1) (N := some 68) (v := ?_) (a' := ?_) #[true, true, false, false, false, false, false, false, false, false] rfl rfl (by kernel_rfl) (fun _ _ _ h => h) (Or.inl ⟨by rfl, ?_⟩) ?_ ?_
      rotate_left
      · intro w'
        go_simp
        with_reducible rfl
      rotate_left
      · simp only [Act.put, List.setIfInBounds_toArray, List.set_cons_zero, List.set_cons_succ, i64_w, i32_w]
        rfl
      refine pure_ (i := 2) (N := some 69) (v := ?_) (a' := ?_) #[true, true, true, false, false, false, false, false, false, false] rfl rfl (by kernel_rfl) (fun _ _ _ h => h) (Or.inl ⟨by rfl, ?_⟩) ?_ ?_
      rotate_left
      · intro w'
        go_simp
        with_reducible rfl
      rotate_left
      · simp only [Act.put, List.setIfInBounds_toArray, List.set_cons_zero, List.set_cons_succ, i64_w, i32_w]
        rfl
      refine pure_ (i := 3) (N := some 70) (v := ?_) (a' := ?_) #[true, true, true, true, false, false, false, false, false, false] rfl rfl (by kernel_rfl) (fun _ _ _ h => h) (Or.inl ⟨by rfl, ?_⟩) ?_ ?_
      rotate_left
      · intro w'
        go_simp
        with_reducible rfl
      rotate_left
      · simp only [Act.put, List.setIfInBounds_toArray, List.set_cons_zero, List.set_cons_succ, i64_w, i32_w]
        rfl
      refine pure_ (i := 4) (N := some 71) (v := ?_) (a' := ?_) #[true, true, true, true, true, false, false, false, false, false] rfl rfl (by kernel_rfl) (fun _ _ _ h => h) (Or.inl ⟨by rfl, ?_⟩) ?_ ?_
      rotate_left
      · intro w'
        go_simp
        with_reducible rfl
      rotate_left
      · simp only [Act.put, List.setIfInBounds_toArray, List.set_cons_zero, List.set_cons_succ, i64_w, i32_w]
        rfl
      refine pure_ (i := 5) (N := some 72) (v := ?_) (a' := ?_) #[true, true, true, true, true, true, false, false, false, false] rfl rfl (by kernel_rfl) (fun _ _ _ h => h) (Or.inl ⟨by rfl, ?_⟩) ?_ ?_
      rotate_left
      · intro w'
        go_simp
        with_reducible rfl
      rotate_left
      · simp only [Act.put, List.setIfInBounds_toArray, List.set_cons_zero, List.set_cons_succ, i64_w, i32_w]
        rfl
      refine pure_ (i := 6) (N := some 73) (v := ?_) (a' := ?_) #[true, true, true, true, true, true, true, false, false, false] rfl rfl (by kernel_rfl) (fun _ _ _ h => h) (Or.inl ⟨by rfl, ?_⟩) ?_ ?_
      rotate_left
      · intro w'
        go_simp
        with_reducible rfl
      rotate_left
      · simp only [Act.put, List.setIfInBounds_toArray, List.set_cons_zero, List.set_cons_succ, i64_w, i32_w]
        rfl
      refine one_ (i := 7) (N := some 74) #[true, true, true, true, true, true, true, true, false, false] rfl rfl (by kernel_rfl) (by decide) (fun K hK => ?_)
      refine step_copy_splice (by rfl) (.tmp 70) (.tmp 73) 27 27 (by rfl) 5 Try.underlying27 info5s (some ⟨w.heap.size, k, none⟩) (some ⟨w.heap.size, 0, none⟩) (n - k) (n - k) k n (by rfl) (by rfl) w.heap.size k L 5 ?hg (L.take m) ?hn ?hpos ?hfit ?h1 w.heap.size w ?hb ?hBg ?_
      (case hg => exact HG.out)
      (case hn => show _ = min k (n - k); rw [HLM.out]; exact HMM.out)
      (case hpos => exact fun _ => ⟨rfl, _, rfl, self_src HG.out _⟩)
      (case hfit => rw [HLM.out]; have := HL.out; have := HC.out; have := HM2.out; omega)
      (case h1 => exact fun v hv => cells_one HH.out HM1.out hv)
      (case hb => exact HB.out)
      (case hBg => exact Nat.le_refl _)
      intro w5 hg5 hb5
      have HG5 := Aside0.mk hg5.out
      have HB5 := Aside0.mk hb5
      clear hg5 hb5
      rw [HLM.out]
      refine hK.out _ _ trivial (fun hHeld => ?_)
      clear hK K
      refine norm_ (a' := ?_) ?_ ?_
      rotate_left
      · show Act.put _ (some 74) _ = _
        simp only [Act.put, List.setIfInBounds_toArray, List.set_cons_zero, List.set_cons_succ, i64_w, i32_w]
        rfl
      refine pure_ (i := 8) (N := some 75) (v := ?_) (a' := ?_) #[true, true, true, true, true, true, true, true, true, false] rfl rfl (by kernel_rfl) (fun _ _ _ h => h) (Or.inl ⟨by rfl, ?_⟩) ?_ ?_
      rotate_left
      · intro w'
        go_simp
        with_reducible rfl
      rotate_left
      · simp only [Act.put, List.setIfInBounds_toArray, List.set_cons_zero, List.set_cons_succ, i64_w, i32_w]
        rfl
      refine pure_ (i := 9) (N := some 10) (v := ?_) (a' := ?_) #[true, true, true, true, true, true, true, true, true, true] rfl rfl (by kernel_rfl) (fun _ _ _ h => h) (Or.inl ⟨by rfl, ?_⟩) ?_ ?_
      rotate_left
      · intro w'
        go_simp
        with_reducible rfl
      rotate_left
      · simp only [Act.put, List.setIfInBounds_toArray, List.set_cons_zero, List.set_cons_succ, i64_w, i32_w]
        rfl
      refine done_ (by kernel_rfl) ?_

      go_wp2
      go_roundg (n - (k + m))
      case measure => have := HK.out; have := HM3.out; have := HM2.out; omega
      case rel => exact ⟨k + m, splice L k (L.take m), by rw [HW.out], ⟨by omega, HM2.out, rfl⟩, ⟨by rw [length_splice _ _ _ (by rw [HLM.out]; have := HL.out; have := HC.out; have := HM2.out; omega)]; exact HL.out⟩, ⟨splice_take L k m _ HH.out HM1.out (by have := HL.out; have := HC.out; have := HM2.out; omega)⟩, HG5, HB5⟩
    · obtain rfl : k = n := by have := HK.out; omega
      clear hkn
      have hl : decide (k < k) = false := by simp
      go_wp2
      go_ret
      refine ⟨_, rfl, ⟨w.heap.size, k, L.toArray, by simp, Nat.le_refl _, HG.out, by simp, by simp [HL.out]; omega, by simp; omega, ?_⟩, HB.out⟩
      apply List.ext_getElem?
      intro j
      have hL := HL.out
      by_cases hj : j < k
      · rw [List.getElem?_take, if_pos (by simpa using hj)]
        rw [show L.toArray.toList[j]? = L[j]? from rfl, HH.out j hj]
        simp [nums, hj]
      · rw [List.getElem?_eq_none (by simp; omega), List.getElem?_eq_none (by simp [nums]; omega)]
theorem ExtRow_nil (w : World) (g : Nat) (base : Nat) (hb : base ≤ g) (cur : Array Value) (h : w.heap[g]? = some (.cells cur 5 (0, 0))) : ExtRow w base (.slice (some ⟨g, 0, none⟩) 0 0) [] :=
  ⟨g, 0, cur, rfl, hb, h, Nat.le_refl _, Nat.zero_le _, by simp, by simp [nums]⟩
theorem Repeat.zero (b o c : Nat) (w : World) :
    Calls Try.prog 87 #[.slice (some ⟨b, o, none⟩) 1 c, .int .i64 (0 : Int)] w fun e w' => ∃ v, e = .returned v ∧ ExtRow w' w.heap.size v [] ∧ Below w.heap.size w w' := by
  go_enter Try.func87, Try.ntmps87
  go_wp2
  go_ret
  exact ⟨_, rfl, ExtRow_nil _ w.heap.size _ (Nat.le_refl _) _ (heap_alloc_new w _), (Below.refl _ _).alloc (Nat.le_refl _) _⟩
theorem Repeat.all (b o c n : Nat) (hn : n ≤ 1024) (w : World) (hc : w.cell? ⟨b, o, none⟩ = some (.int .u8 255)) :
    Calls Try.prog 87 #[.slice (some ⟨b, o, none⟩) 1 c, .int .i64 (n : Int)] w fun e w' => ∃ v, e = .returned v ∧ ExtRow w' w.heap.size v (List.replicate n 255) ∧ Below w.heap.size w w' := by
  rcases Nat.eq_zero_or_pos n with h | h
  · subst h
    exact Repeat.zero b o c w
  · exact Repeat.pos b o c n hn h w hc
theorem src_of_C {w : World} {A : Option Addr} {n : Nat} {xs : List Int} (h : Kd.C (Kd.int .u8) w A n xs) (hp : 0 < n) : ∃ ad, A = some ad ∧ ∀ j v, (nums .u8 xs)[j]? = some v → w.cell? (ad.add j) = some v := by
  have hl : xs.length = n := h.1
  obtain ⟨ad, e, _⟩ := Kd.at_int h 0 (by omega) (by omega)
  refine ⟨ad, e, fun j v hj => ?_⟩
  have hlt : j < xs.length := by
    rcases Nat.lt_or_ge j xs.length with h1 | h1
    · exact h1
    · rw [List.getElem?_eq_none (by simpa [nums] using h1)] at hj
      cases hj
  obtain ⟨ad2, e2, hc⟩ := Kd.at_int h (j : Int) (by omega) (by omega)
  rw [e] at e2
  obtain rfl := Option.some.inj e2
  rw [Int.toNat_natCast] at hc
  rw [hc, ← hj]
  simp [nums, rd, List.getElem?_eq_getElem hlt, List.getD_eq_getElem?_getD]
theorem take_splice0 (cur : List Value) (cs : List Value) (n : Nat) (h : cs.length ≤ n) : (splice cur 0 cs).take n = cs ++ (cur.take n).drop cs.length := by
  unfold splice
  simp only [List.take_zero, List.nil_append, Nat.zero_add]
  rw [List.take_append, List.take_of_length_le h, List.drop_take]
theorem nums_take_some {k : IntKind} {xs : List Int} {n j : Nat} {v : Value} (h : (nums k (xs.take n))[j]? = some v) : (nums k xs)[j]? = some v := by
  unfold nums at h ⊢
  rw [List.map_take, List.getElem?_take] at h
  split at h
  · exact h
  · cases h
theorem nums_one {k : IntKind} {xs : List Int} {v : Value} (h : v ∈ nums k xs) : v.oneCell' = true := by
  unfold nums at h
  obtain ⟨x, _, rfl⟩ := List.mem_map.1 h
  rfl
def ext (l0 : List Int) (a1 : Int) : List Int := l0.take (min (max a1 0) 1024).toNat ++ List.replicate ((min (max a1 0) 1024).toNat - l0.length) 255
theorem ext_n (l0 : List Int) (a1 : Int) (n : Nat) (h : (n : Int) = min (max a1 0) 1024) : ext l0 a1 = l0.take n ++ List.replicate (n - l0.length) 255 := by
  unfold ext
  rw [← h]
  rfl
theorem ext_row {w : World} {base g cap n : Nat} {cur : Array Value} (l0 : List Int) (hb : base ≤ g) (hn : n ≤ 1024) (hcap : n ≤ cap) (hcur : cap ≤ cur.size) (ht : cur.toList.take n = nums .u8 (List.replicate n 255))
    (h : w.heap[g]? = some (.cells (splice cur.toList 0 (nums .u8 (l0.take n))).toArray 5 (0, 0))) : ExtRow w base (.slice (some ⟨g, 0, none⟩) n cap) (l0.take n ++ List.replicate (n - l0.length) 255) := by
  have hl : (l0.take n ++ List.replicate (n - l0.length) 255).length = n := by simp; omega
  have hcl : (nums .u8 (l0.take n)).length = min n l0.length := by simp [nums]
  refine ⟨g, cap, _, by rw [hl], hb, h, by rw [hl]; exact hcap, ?_, by rw [hl]; exact hn, ?_⟩
  · rw [List.size_toArray, length_splice _ _ _ (by rw [hcl]; simp only [Array.length_toList]; omega), Array.length_toList]
    exact hcur
  · rw [hl]
    show (splice cur.toList 0 (nums .u8 (l0.take n))).take n = _
    rw [take_splice0 _ _ _ (by rw [hcl]; omega), ht, nums_append, hcl]
    congr 1
    simp [nums]
    omega
set_option maxHeartbeats 2000000 in
set_option maxRecDepth 100000 in
theorem ExtendS.calls (A0 : Option Addr) (c0 : Nat) (l0 : List Int) (a1 : Int) (w : World) (hr0 : Kd.C (Kd.int .u8) w A0 l0.length l0) :
    Calls Try.prog 46 #[.slice A0 l0.length c0, .int .i64 a1] w fun e w' => ∃ v, e = .returned v ∧ ExtRow w' w.heap.size v (ext l0 a1) ∧ Below w.heap.size w w' := by
  obtain ⟨n, hn⟩ : ∃ n : Nat, (n : Int) = min (max a1 0) 1024 := ⟨(min (max a1 0) 1024).toNat, by omega⟩
  rw [ext_n l0 a1 n hn]
  have hn1 : n ≤ 1024 := by omega
  obtain ⟨j1, hj1⟩ : ∃ j : Int, (if 1024 < a1 then 1024 else a1) = j := ⟨_, rfl⟩
  have hj2 : (if 0 < j1 then j1 else 0) = (n : Int) := by
    split at hj1 <;> split <;> omega
  have HR := Aside0.mk hr0
  have HN := Aside0.mk hn1
  clear hn hr0 hn1
  go_enter Try.func46, Try.ntmps46
  go_wp2_with (first | (go_at_call 87; (with_reducible refine (Repeat.all w.heap.size 0 1 n HN.out _ (by simp)).mono ?_); rintro e w2 ⟨v2, rfl, hx, hb⟩; obtain ⟨g, cap, cur, hv, hg, hh, h1, h2, h3, h4⟩ := hx; rw [List.length_replicate] at hv h1 h3 h4; subst hv; have HB := Aside0.mk hb; have HG := Aside0.mk hg; have HH := Aside0.mk hh; have H1 := Aside0.mk h1; have H2 := Aside0.mk h2; have H4 := Aside0.mk h4; clear hb hg hh h1 h2 h3 h4) | ((with_reducible refine gate_builtin (b := .copy) (xs := #[.tmp 12, .tmp 13]) rfl ?_); refine wpList_copy_splice (by rfl) (.tmp 12) (.tmp 13) 27 27 (by rfl) 5 Try.underlying27 info5s (some ⟨g, 0, none⟩) A0 n cap l0.length c0 (by rfl) (by rfl) g 0 cur.toList 5 ?hg (nums .u8 (l0.take n)) ?hn ?hpos ?hfit ?h1 w.heap.size w ?hb ?hBg ?_; (case hg => exact HH.out); (case hn => show _ = min l0.length n; simp [nums]; omega); (case hpos => intro hp_; have hlp_ : 0 < l0.length := (by rw [nums_length, List.length_take] at hp_; omega); obtain ⟨ad_, ea_, hs_⟩ := src_of_C (Kd.C_below (Kd.C_below HR.out (below_alloc (Below.refl _ _) _)) HB.out) hlp_; exact ⟨rfl, ad_, ea_, fun j v hj => hs_ j v (nums_take_some hj)⟩); (case hfit => rw [nums_length, List.length_take]; have := H1.out; have := H2.out; simp only [Array.length_toList]; omega); (case h1 => exact fun v hv => nums_one hv); (case hb => exact below_step (below_alloc (Below.refl _ _) _) HB.out); (case hBg => have h_ := HG.out; simp only [World.size_alloc] at h_; omega); intro w3 hg3 hb3; have HG3 := Aside0.mk hg3.out; have HB3 := Aside0.mk hb3; clear hg3 hb3))
  go_ret
  exact ⟨_, rfl, ext_row l0 (by have h_ := HG.out; simp only [World.size_alloc] at h_; omega) HN.out H1.out H2.out H4.out HG3.out, HB3.out⟩
theorem ExtRow.toV {w : World} {base : Nat} {v : Value} {xs : List Int} (h : ExtRow w base v xs) : Kd.V (Kd.int .u8) 5 w base (fun k_ => base ≤ k_) v xs := by
  obtain ⟨g, cap, cur, rfl, hb, hh, h1, h2, h3, h4⟩ := h
  refine Kd.V_mk h1 ?_
  intro W' hW
  have hlt : g < w.heap.size := (Array.getElem?_eq_some_iff.1 hh).1
  have hg : W'.heap[g]? = some (.cells cur 5 (0, 0)) := (hW g hb hlt).trans hh
  refine Kd.C_of_reads (d := (0 : Int)) (h1 := fun _ => rfl) ⟨rfl, by omega, fun hp => ⟨⟨g, 0, none⟩, rfl, fun j hj => ?_⟩⟩
  rw [add_plain, cell_of_row W' g j cur 5 (0, 0) hg]
  have e : cur.toList[j]? = (nums .u8 xs)[j]? := by
    rw [← h4, List.getElem?_take, if_pos hj]
  rw [← Array.getElem?_toList, e]
  simp [nums, List.getElem?_eq_getElem hj, List.getD_eq_getElem?_getD]
def Extend.f (l0 : List Int) (a1 : Int) : Option (List Int) := some (ext l0 a1)
theorem Extend.calls (A0 : Option Addr) (c0 : Nat) (l0 : List Int) (a1 : Int) (r : List Int) (w : World) (hr0 : Kd.C (Kd.int .u8) w A0 l0.length l0) (hc0 : l0.length ≤ c0) (h : Extend.f l0 a1 = some r) :
    Calls Try.prog 46 #[.slice A0 l0.length c0, .int .i64 a1] w fun e w' => ∃ v0_ : Value, e = .returned (v0_) ∧ Kd.V (Kd.int .u8) 5 w' w.heap.size (fun k_ => (w.heap.size ≤ k_)) v0_ r ∧ Below w.heap.size w w' := by
  unfold Extend.f at h
  obtain rfl := Option.some.inj h
  refine (ExtendS.calls A0 c0 l0 a1 w hr0).mono ?_
  rintro e w' ⟨v, rfl, hx, hb⟩
  exact ⟨v, rfl, hx.toV, hb⟩

/-! ### mask_Clear: function 49 -/
def mask_Clear.l0 : Nat → List Int → List Int → Int → Int → Option (List Int)
  | 0, _, _, _, _ => none
  | k + 1, x5, x10, x11, x12 => if x12 < x11 then (if 0 ≤ x12 then (if x12 < (x10.length : Int) then ((mask_set.f k x5 (rd x10 x12) false).bind fun t148 => (mask_Clear.l0 k t148 x10 x11 (wrap64 (x12 + 1)))) else (none)) else (none)) else (some x5)
def mask_Clear.f (k : Nat) (l0 : List Int) (l1 : List Int) : Option (List Int) := (CloneB.f l0).bind fun t144 => (mask_Clear.l0 k t144 l1 (l1.length : Int) 0)
theorem mask_Clear.mono_l : ∀ k, (∀ y0 y1 y2 y3, LeO (mask_Clear.l0 k y0 y1 y2 y3) (mask_Clear.l0 (k + 1) y0 y1 y2 y3))
  | 0 => fun _ _ _ _ r h => by simp [mask_Clear.l0] at h
  | k + 1 => by
    have ih0 := mask_Clear.mono_l k
    · intro y0 y1 y2 y3
      unfold mask_Clear.l0
      repeat' first
      | (with_reducible exact ih0 _ _ _ _)
      | (with_reducible exact mask_set.mono _ _ _ _)
      | (with_reducible exact LeO.refl _)
      | (with_reducible exact LeO.none _)
      | (with_reducible refine LeO.ite ?_ ?_)
      | (with_reducible refine LeO.bind ?_ (fun _ => ?_))
      | exact ih0 _ _ _ _
      | exact mask_set.mono _ _ _ _
      | exact LeO.none _
      | refine LeO.ite ?_ ?_
      | refine LeO.bind ?_ (fun _ => ?_)
theorem mask_Clear.mono : ∀ a0 a1 k, LeO (mask_Clear.f k a0 a1) (mask_Clear.f (k + 1) a0 a1) := by
  intro a0 a1 k
  have ih0 := mask_Clear.mono_l k
  unfold mask_Clear.f
  repeat' first
      | (with_reducible exact ih0 _ _ _ _)
      | (with_reducible exact mask_set.mono _ _ _ _)
      | (with_reducible exact LeO.refl _)
      | (with_reducible exact LeO.none _)
      | (with_reducible refine LeO.ite ?_ ?_)
      | (with_reducible refine LeO.bind ?_ (fun _ => ?_))
      | exact ih0 _ _ _ _
      | exact mask_set.mono _ _ _ _
      | exact LeO.none _
      | refine LeO.ite ?_ ?_
      | refine LeO.bind ?_ (fun _ => ?_)
set_option maxHeartbeats 8000000 in
set_option maxRecDepth 100000 in
theorem mask_Clear.calls (k : Nat) (A0 : Option Addr) (c0 : Nat) (l0 : List Int) (A1 : Option Addr) (c1 : Nat) (l1 : List Int) (r : List Int) (w : World) (hr0 : Kd.C (Kd.int .u8) w A0 l0.length l0) (hc0 : l0.length ≤ c0) (hr1 : Kd.C (Kd.int .i64) w A1 l1.length l1) (hc1 : l1.length ≤ c1) (h : mask_Clear.f k l0 l1 = some r) :
    Calls Try.prog 49 #[.slice A0 l0.length c0, .slice A1 l1.length c1] w fun e w' => ∃ v0_ : Value, e = .returned (v0_) ∧ Kd.R (Kd.int .u8) 5 w' w.heap.size (fun _ => True) v0_ r ∧ Below w.heap.size w w' := by
  have HR0 := Aside0.mk hr0
  have HC0 := Aside0.mk hc0
  clear hr0 hc0
  have HR1 := Aside0.mk hr1
  have HC1 := Aside0.mk hc1
  clear hr1 hc1
  have HB := Aside0.mk (Below.refl w.heap.size w)
  have H : ((CloneB.f l0).bind fun t144 => (mask_Clear.l0 k t144 l1 (l1.length : Int) 0)) = some r := h
  clear h
  replace H := Option.bind_eq_some_iff.mp H
  obtain ⟨t144, A30, H⟩ := H
  replace H : (mask_Clear.l0 k t144 l1 (l1.length : Int) 0) = some r := H
  have A3 := Aside0.mk A30
  clear A30
  have H' := Aside0.mk H
  clear H
  go_enter Try.func49, Try.ntmps49
  go_wp2_with (first | ((with_reducible refine gate_callee (f := 81) rfl ?_); refine goesL_ (some 9) rfl rfl Try.func81 (by kernel_rfl) rfl #[.slice A0 l0.length c0] rfl (by (try simp only [List.map_toArray, List.map_cons, List.map_nil]); first | done | rfl | (simp only [List.length_drop, List.length_take]; rfl)) ?_; (with_reducible refine (CloneB.calls _ _ l0 t144 _ ?side1 ?side2 A3.out).mono ?_); (case side1 => repeat (first | exact HR0.out | (with_reducible refine Kd.C_alloc ?_ _) | (with_reducible refine Kd.C_drewN ?_ _) | (with_reducible refine Kd.C_drew ?_))); (case side2 => exact HC0.out); rintro e w4 ⟨v145, rfl, ho0, hb⟩; refine ⟨_, rfl, ?_⟩; have n0_ := Aside0.mk (Kd.R_lower ho0 (below_size (hb0_ HB.out))); have n1_ := Aside0.mk (below_step (hb0_ HB.out) hb); clear HB; have HO146 := n0_; have HB := n1_; clear n0_ n1_; (try clear hb); (try clear hb2); (try clear hk); (try clear hi); (try clear ho0)))
  go_loopg [12] k (fun kq v12 w' => ∃ (x5_1 : List Int) (x12_1 : Int), v12 = .int .i64 x12_1 ∧ Aside0 (mask_Clear.l0 kq x5_1 l1 (l1.length : Int) x12_1 = some r) ∧ Aside0 (kq ≤ k) ∧ Aside0 (Kd.R (Kd.int .u8) 5 w' w.heap.size (fun _ => True) v145 x5_1) ∧ Aside0 (Below w.heap.size w w'))
  case atStart => exact ⟨(t144), (0), (by first | rfl | (simp; done) | (simp [*]; done)), H', ⟨Nat.le_refl _⟩, ⟨by (with_reducible repeat (first | apply Kd.R_alloc | apply Kd.R_drewN | apply Kd.R_drew)); exact HO146.out⟩, ⟨by repeat (first | (with_reducible first | exact HB.out | apply below_alloc | apply pw_below_drewN | apply below_drew1) | exact HB.out)⟩⟩
  case round =>
    clear H'
    try clear c1
    try clear p2
    try clear c4
    obtain ⟨x5_1, x12_1, rfl, HA, HK1, HO_5, HB⟩ := hrel
    cases gk with
    | zero => exact absurd HA.out (by simp [mask_Clear.l0])
    | succ k1 =>
      have H := HA.out
      clear HA
      simp only [mask_Clear.l0] at H
      by_cases c5 : x12_1 < (l1.length : Int)
      · rw [if_pos c5] at H
        have c5b0 : decide (x12_1 < (l1.length : Int)) = true := decide_eq_true c5
        clear c5
        by_cases c6 : 0 ≤ x12_1
        · rw [if_pos c6] at H
          have c6b0 : decide (0 ≤ x12_1) = true := decide_eq_true c6
          clear c6
          by_cases c7 : x12_1 < (l1.length : Int)
          · rw [if_pos c7] at H
            have c7b0 : decide (x12_1 < (l1.length : Int)) = true := decide_eq_true c7
            clear c7
            replace H := Option.bind_eq_some_iff.mp H
            obtain ⟨t148, A80, H⟩ := H
            replace H : (mask_Clear.l0 k1 t148 l1 (l1.length : Int) (wrap64 (x12_1 + 1))) = some r := H
            have A8 := Aside0.mk A80
            clear A80
            have H' := Aside0.mk H
            clear H
            have p147 : 0 ≤ (x12_1 : Int) := od_
            have q147 : x12_1 < (l1.length : Int) := od_
            obtain ⟨ad147, e147, hx147_0⟩ := Kd.at_int HR1.out x12_1 p147 q147
            cases e147
            replace hx147_0 := (HB.out.cell (World.block_lt_of_cell? w _ hx147_0)).trans hx147_0
            replace p147 := eq_true p147
            replace q147 := eq_true q147
            obtain ⟨Ao9, co9, eo9⟩ := Kd.R_slice HO_5.out
            subst eo9
            go_wp2_with (first | ((with_reducible refine gate_callee (f := 88) rfl ?_); refine goesL_ (some 18) rfl rfl Try.func88 (by kernel_rfl) rfl #[.slice Ao9 x5_1.length co9, .int .i64 (rd l1 x12_1), .bool false] rfl (by (try simp only [List.map_toArray, List.map_cons, List.map_nil]); first | done | rfl | (simp only [List.length_drop, List.length_take]; rfl)) ?_; (with_reducible refine (mask_set.calls k1 (fun k_ => some k_ = (.slice Ao9 x5_1.length co9 : Value).ownBlock) (.slice Ao9 x5_1.length co9) x5_1 (rd l1 x12_1) false t148 w _ ?side1 ?side2 A8.out).mono ?_); (case side1 => repeat (first | (with_reducible first | exact HB.out | apply below_alloc | apply pw_below_drewN | apply below_drew1) | exact HB.out)); (case side2 => exact Kd.R_tight rfl HO_5.out); rintro e w10 ⟨rfl, hy0, hb, hkp⟩; refine ⟨_, rfl, ?_⟩; have n0_ := Aside0.mk (Kd.R_reok rfl hy0 (fun k_ e_ => HO_5.out.1 k_ e_)); have n1_ := Aside0.mk (hb); clear HO_5 HB; have HO_5 := n0_; have HB := n1_; clear n0_ n1_; (try clear hb); (try clear hkp); (try clear hy0)))
            go_roundg k1
            case measure => have := HK1.out; omega
            case rel => exact ⟨(t148), (wrap64 (x12_1 + 1)), (by first | rfl | (simp; done) | (simp [*]; done)), H', ⟨by have := HK1.out; omega⟩, ⟨by (with_reducible repeat (first | apply Kd.R_alloc | apply Kd.R_drewN | apply Kd.R_drew)); exact HO_5.out⟩, ⟨by repeat (first | (with_reducible first | exact HB.out | apply below_alloc | apply pw_below_drewN | apply below_drew1) | exact HB.out)⟩⟩
          · rw [if_neg c7] at H
            exact absurd H (by simp)
        · rw [if_neg c6] at H
          exact absurd H (by simp)
      · rw [if_neg c5] at H
        have c5b0 : decide (x12_1 < (l1.length : Int)) = false := decide_eq_false c5
        clear c5
        obtain rfl := Option.some.inj H
        go_wp2
        go_ret
        exact ⟨_, by first | rfl | (simp [errW_none, errW_some] <;> rfl) | (simp [*, errW_none, errW_some] <;> rfl), by (with_reducible repeat (first | apply Kd.R_alloc | apply Kd.R_drewN | apply Kd.R_drew)); exact HO_5.out, by repeat (first | (with_reducible first | exact HB.out | apply below_alloc | apply pw_below_drewN | apply below_drew1) | exact HB.out)⟩

end Go.Proofs.Ytpcephbhnbfcmaa.D
