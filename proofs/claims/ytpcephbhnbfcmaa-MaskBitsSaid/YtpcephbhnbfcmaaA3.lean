-- Written by this session's program fork.py: a Lean function for each Go function and its walk. Not trusted: Lean checks it.
import Derived.Test.YtpcephbhnbfcmaaA0
import Derived.Test.YtpcephbhnbfcmaaA1
import Derived.Test.YtpcephbhnbfcmaaA2
namespace Go.Proofs.Ytpcephbhnbfcmaa.A
open Go.RowKit Go.Proofs.YtpcephbhnbfcmaaW.PrintWords Go.Proofs.YtpcephbhnbfcmaaW.PrintLast Go.Proofs.YtpcephbhnbfcmaaW.PrintMore
attribute [local go_sem] max2_int min2_int max_two min_two max_three min_three max_four min_four   -- for this text's walks alone
set_option linter.unusedVariables false
set_option linter.unusedSimpArgs false

/-! ### libevolutionlaw15_awake: function 43 -/
def libevolutionlaw15_awake.f (k : Nat)  : Option (Bool) := (mask_Bits.f k (([1, 6] : List Int)) 2).bind fun bt125 => (if bt125.2 = true then (if (bt125.1.length : Int) = 2 then (if 0 < (bt125.1.length : Int) then (if (rd bt125.1 0) = 0 then (if 1 < (bt125.1.length : Int) then (if (rd bt125.1 1) = 9 then ((mask_Count.f k (([1, 6] : List Int))).bind fun t134 => (if t134 = 3 then ((mask_Put.f k (([0, 0] : List Int)) bt125.1 2).bind fun t138 => ((mask_Get.f k t138 bt125.1).bind fun t141 => (some (t141 == 2)))) else (some false))) else (some false)) else (none)) else (some false)) else (none)) else (some false)) else (some false))
theorem libevolutionlaw15_awake.mono : ∀ k, LeO (libevolutionlaw15_awake.f k ) (libevolutionlaw15_awake.f (k + 1) ) := by
  intro  k
  unfold libevolutionlaw15_awake.f
  repeat' first
      | (with_reducible exact mask_Bits.mono _ _ _)
      | (with_reducible exact mask_Count.mono _ _)
      | (with_reducible exact mask_Get.mono _ _ _)
      | (with_reducible exact mask_Put.mono _ _ _ _)
      | (with_reducible exact LeO.refl _)
      | (with_reducible exact LeO.none _)
      | (with_reducible refine LeO.ite ?_ ?_)
      | (with_reducible refine LeO.bind ?_ (fun _ => ?_))
      | exact mask_Bits.mono _ _ _
      | exact mask_Count.mono _ _
      | exact mask_Get.mono _ _ _
      | exact mask_Put.mono _ _ _ _
      | exact LeO.none _
      | refine LeO.ite ?_ ?_
      | refine LeO.bind ?_ (fun _ => ?_)
set_option maxHeartbeats 8000000 in
set_option maxRecDepth 100000 in
theorem libevolutionlaw15_awake.calls (k : Nat)  (r : Bool) (w : World) (h : libevolutionlaw15_awake.f k  = some r) :
    Calls Try.prog 43 #[] w fun e w' => e = .returned (.bool r) ∧ Below w.heap.size w w' := by
  have HB := Aside0.mk (Below.refl w.heap.size w)
  have H : ((mask_Bits.f k (([1, 6] : List Int)) 2).bind fun bt125 => (if bt125.2 = true then (if (bt125.1.length : Int) = 2 then (if 0 < (bt125.1.length : Int) then (if (rd bt125.1 0) = 0 then (if 1 < (bt125.1.length : Int) then (if (rd bt125.1 1) = 9 then ((mask_Count.f k (([1, 6] : List Int))).bind fun t134 => (if t134 = 3 then ((mask_Put.f k (([0, 0] : List Int)) bt125.1 2).bind fun t138 => ((mask_Get.f k t138 bt125.1).bind fun t141 => (some (t141 == 2)))) else (some false))) else (some false)) else (none)) else (some false)) else (none)) else (some false)) else (some false))) = some r := h
  clear h
  obtain ⟨y122, hy122⟩ : ∃ y_ : List Int, y_ = (([1, 6] : List Int)) := ⟨_, rfl⟩
  replace H : ((mask_Bits.f k y122 2).bind fun bt125 => (if bt125.2 = true then (if (bt125.1.length : Int) = 2 then (if 0 < (bt125.1.length : Int) then (if (rd bt125.1 0) = 0 then (if 1 < (bt125.1.length : Int) then (if (rd bt125.1 1) = 9 then ((mask_Count.f k (([1, 6] : List Int))).bind fun t134 => (if t134 = 3 then ((mask_Put.f k (([0, 0] : List Int)) bt125.1 2).bind fun t138 => ((mask_Get.f k t138 bt125.1).bind fun t141 => (some (t141 == 2)))) else (some false))) else (some false)) else (none)) else (some false)) else (none)) else (some false)) else (some false))) = some r := by first | (rw [hy122]; with_reducible exact H) | (have H2_ := (Option.bind_some _ _).symm.trans H; rw [hy122]; with_reducible exact H2_) | (have H2_ := (Option.bind_some _ _).symm.trans H; with_reducible exact H2_) | with_reducible exact H | (rw [hy122]; exact H) | exact H
  have Ny122 := Aside0.mk hy122
  clear hy122
  replace H := Option.bind_eq_some_iff.mp H
  obtain ⟨⟨t125, t126⟩, A10, H⟩ := H
  replace H : (if t126 = true then (if (t125.length : Int) = 2 then (if 0 < (t125.length : Int) then (if (rd t125 0) = 0 then (if 1 < (t125.length : Int) then (if (rd t125 1) = 9 then ((mask_Count.f k (([1, 6] : List Int))).bind fun t134 => (if t134 = 3 then ((mask_Put.f k (([0, 0] : List Int)) t125 2).bind fun t138 => ((mask_Get.f k t138 t125).bind fun t141 => (some (t141 == 2)))) else (some false))) else (some false)) else (none)) else (some false)) else (none)) else (some false)) else (some false)) = some r := H
  have A1 := Aside0.mk A10
  clear A10
  by_cases c2 : t126 = true
  · subst c2
    have H1 : (if (t125.length : Int) = 2 then (if 0 < (t125.length : Int) then (if (rd t125 0) = 0 then (if 1 < (t125.length : Int) then (if (rd t125 1) = 9 then ((mask_Count.f k (([1, 6] : List Int))).bind fun t134 => (if t134 = 3 then ((mask_Put.f k (([0, 0] : List Int)) t125 2).bind fun t138 => ((mask_Get.f k t138 t125).bind fun t141 => (some (t141 == 2)))) else (some false))) else (some false)) else (none)) else (some false)) else (none)) else (some false)) = some r := by rw [if_pos rfl] at H; exact H
    clear H
    have H := H1
    clear H1
    by_cases c3 : (t125.length : Int) = 2
    · rw [if_pos c3] at H
      have c3b0 : ((t125.length : Int) == 2) = true := beq_iff_eq.mpr c3
      have c3b1 : ((t125.length : Int) != 2) = false := bne_eq_false_iff_eq.mpr c3
      clear c3
      by_cases c4 : 0 < (t125.length : Int)
      · rw [if_pos c4] at H
        have c4b0 : decide (0 < (t125.length : Int)) = true := decide_eq_true c4
        have c4b1 : decide (0 < t125.length) = true := decide_eq_true (by omega)
        clear c4
        by_cases c5 : (rd t125 0) = 0
        · rw [if_pos c5] at H
          have c5b0 : ((rd t125 0) == 0) = true := beq_iff_eq.mpr c5
          have c5b1 : ((rd t125 0) != 0) = false := bne_eq_false_iff_eq.mpr c5
          clear c5
          by_cases c6 : 1 < (t125.length : Int)
          · rw [if_pos c6] at H
            have c6b0 : decide (1 < (t125.length : Int)) = true := decide_eq_true c6
            have c6b1 : decide (1 < t125.length) = true := decide_eq_true (by omega)
            clear c6
            by_cases c7 : (rd t125 1) = 9
            · rw [if_pos c7] at H
              have c7b0 : ((rd t125 1) == 9) = true := beq_iff_eq.mpr c7
              have c7b1 : ((rd t125 1) != 9) = false := bne_eq_false_iff_eq.mpr c7
              clear c7
              obtain ⟨y131, hy131⟩ : ∃ y_ : List Int, y_ = (([1, 6] : List Int)) := ⟨_, rfl⟩
              replace H : ((mask_Count.f k y131).bind fun t134 => (if t134 = 3 then ((mask_Put.f k (([0, 0] : List Int)) t125 2).bind fun t138 => ((mask_Get.f k t138 t125).bind fun t141 => (some (t141 == 2)))) else (some false))) = some r := by first | (rw [hy131]; with_reducible exact H) | (have H2_ := (Option.bind_some _ _).symm.trans H; rw [hy131]; with_reducible exact H2_) | (have H2_ := (Option.bind_some _ _).symm.trans H; with_reducible exact H2_) | with_reducible exact H | (rw [hy131]; exact H) | exact H
              have Ny131 := Aside0.mk hy131
              clear hy131
              replace H := Option.bind_eq_some_iff.mp H
              obtain ⟨t134, A80, H⟩ := H
              replace H : (if t134 = 3 then ((mask_Put.f k (([0, 0] : List Int)) t125 2).bind fun t138 => ((mask_Get.f k t138 t125).bind fun t141 => (some (t141 == 2)))) else (some false)) = some r := H
              have A8 := Aside0.mk A80
              clear A80
              by_cases c9 : t134 = 3
              · rw [if_pos c9] at H
                have c9b0 : (t134 == 3) = true := beq_iff_eq.mpr c9
                have c9b1 : (t134 != 3) = false := bne_eq_false_iff_eq.mpr c9
                clear c9
                obtain ⟨y135, hy135⟩ : ∃ y_ : List Int, y_ = (([0, 0] : List Int)) := ⟨_, rfl⟩
                replace H : ((mask_Put.f k y135 t125 2).bind fun t138 => ((mask_Get.f k t138 t125).bind fun t141 => (some (t141 == 2)))) = some r := by first | (rw [hy135]; with_reducible exact H) | (have H2_ := (Option.bind_some _ _).symm.trans H; rw [hy135]; with_reducible exact H2_) | (have H2_ := (Option.bind_some _ _).symm.trans H; with_reducible exact H2_) | with_reducible exact H | (rw [hy135]; exact H) | exact H
                have Ny135 := Aside0.mk hy135
                clear hy135
                replace H := Option.bind_eq_some_iff.mp H
                obtain ⟨t138, A100, H⟩ := H
                replace H : ((mask_Get.f k t138 t125).bind fun t141 => (some (t141 == 2))) = some r := H
                have A10 := Aside0.mk A100
                clear A100
                replace H := Option.bind_eq_some_iff.mp H
                obtain ⟨t141, A110, H⟩ := H
                replace H : (some (t141 == 2)) = some r := H
                have A11 := Aside0.mk A110
                clear A110
                obtain rfl := Option.some.inj H
                go_enter Try.func43, Try.ntmps43
                go_wp2_with (first | ((with_reducible refine gate_dst (N := 4) rfl ?_); (try (refine gate_guard (by rfl) ?_; dsimp only)); refine Kd.R_lit (Kd.int .u8) _ 5 ?hg (N := 4) ?hd (xs := ([1, 6] : List Int)) (inner := [.int .u8 1, .int .u8 6]) (ok := fun _ => True) (okp := fun _ => True) ?hr ?hp (fun _ hk => hk) trivial (Below.refl _ _) (Nat.le_refl _) (by simp) ?_; (case hd => rfl); (case hg => rfl); (case hr => first | (go_simp; done) | (go_simp; rfl)); (case hp => exact (Reps.one (show Kd.M (Kd.int .u8) _ _ _ 1 [.int .u8 1] from rfl) (Reps.one (show Kd.M (Kd.int .u8) _ _ _ 6 [.int .u8 6] from rfl) (Reps.none _ _)))); intro v123 w12 ho13 hb hg_ hnew_; clear hg_ hnew_; (first | rw [← Ny122.out] at ho13 | (simp only [Int.reduceToNat] at ho13; rw [← Ny122.out] at ho13)); have n0_ := Aside0.mk (Kd.R_lower ho13 (below_size (hb0_ HB.out))); have n1_ := Aside0.mk (below_step (hb0_ HB.out) hb); clear HB; have HO124 := n0_; have HB := n1_; clear n0_ n1_ hb ho13; obtain ⟨Ao14, co14, eo14⟩ := Kd.R_slice HO124.out; subst eo14) | ((with_reducible refine gate_callee (f := 44) rfl ?_); refine goesL_ (some 5) rfl rfl Try.func44 (by kernel_rfl) rfl #[.slice Ao14 y122.length co14, .int .i64 2] rfl (by (try simp only [List.map_toArray, List.map_cons, List.map_nil]); first | done | rfl | (simp only [List.length_drop, List.length_take]; rfl)) ?_; (with_reducible refine (mask_Bits.calls k _ _ y122 2 t125 true _ ?side1 ?side2 A1.out).mono ?_); (case side1 => repeat (first | exact (Kd.R_reads' HO124.out).2.2 | (with_reducible refine Kd.C_alloc ?_ _) | (with_reducible refine Kd.C_drewN ?_ _) | (with_reducible refine Kd.C_drew ?_))); (case side2 => exact (Kd.R_reads' HO124.out).2.1); rintro e w15 ⟨v127, rfl, ho0, hb⟩; refine ⟨_, rfl, ?_⟩; have n0_ := Aside0.mk (Kd.R_below (kR_ HO124.out) hb); have n1_ := Aside0.mk (Kd.R_lower ho0 (below_size (hb0_ HB.out))); have n2_ := Aside0.mk (below_step (hb0_ HB.out) hb); clear HO124 HB; have HO124 := n0_; have HO128 := n1_; have HB := n2_; clear n0_ n1_ n2_; (try clear hb); (try clear hb2); (try clear hk); (try clear hi); (try clear ho0); obtain ⟨Ao16, co16, eo16⟩ := Kd.R_slice HO128.out; subst eo16; have p129 : 0 ≤ (0 : Int) := (by omega); have q129 : 0 < (t125.length : Int) := od_; obtain ⟨ad129, e129, hx129_0⟩ := Kd.at_int (Kd.R_reads' HO128.out).2.2 0 p129 q129; cases e129; have qi129 : (0 < t125.length) = True := eq_true (by omega); (try rw [show ((0 : Int)).toNat = 0 from rfl] at hx129_0); (try rw [Addr.add_zero'] at hx129_0); replace p129 := eq_true p129; replace q129 := eq_true q129; have p130 : 0 ≤ (1 : Int) := (by omega); have q130 : 1 < (t125.length : Int) := od_; obtain ⟨ad130, e130, hx130_0⟩ := Kd.at_int (Kd.R_reads' HO128.out).2.2 1 p130 q130; obtain rfl : ad129 = ad130 := (by injection e130); (try simp only [show (1 : Int).toNat = 1 from rfl, Nat.reduceMul, Nat.reduceEqDiff, Go.Addr.add, ↓reduceIte] at hx130_0); have qi130 : (1 < t125.length) = True := eq_true (by omega); (try rw [show ((1 : Int)).toNat = 1 from rfl] at hx130_0); replace p130 := eq_true p130; replace q130 := eq_true q130) | ((with_reducible refine gate_dst (N := 27) rfl ?_); (try (refine gate_guard (by rfl) ?_; dsimp only)); refine Kd.R_lit (Kd.int .u8) _ 5 ?hg (N := 27) ?hd (xs := ([1, 6] : List Int)) (inner := [.int .u8 1, .int .u8 6]) (ok := fun _ => True) (okp := fun _ => True) ?hr ?hp (fun _ hk => hk) trivial (Below.refl _ _) (Nat.le_refl _) (by simp) ?_; (case hd => rfl); (case hg => rfl); (case hr => first | (go_simp; done) | (go_simp; rfl)); (case hp => exact (Reps.one (show Kd.M (Kd.int .u8) _ _ _ 1 [.int .u8 1] from rfl) (Reps.one (show Kd.M (Kd.int .u8) _ _ _ 6 [.int .u8 6] from rfl) (Reps.none _ _)))); intro v132 w17 ho18 hb hg_ hnew_; clear hg_ hnew_; (first | rw [← Ny131.out] at ho18 | (simp only [Int.reduceToNat] at ho18; rw [← Ny131.out] at ho18)); have n0_ := Aside0.mk (Kd.R_elder' (kR_ HO124.out) (Kd.R_base ho18) hb); have n1_ := Aside0.mk (Kd.R_below (kR_ HO128.out) hb); have n2_ := Aside0.mk (Kd.R_lower (Kd.R_new' ho18 (Kd.R_lt (kR_ HO124.out))) (below_size (hb0_ HB.out))); have n3_ := Aside0.mk (below_step (hb0_ HB.out) hb); clear HO124 HO128 HB; have HO124 := n0_; have HO128 := n1_; have HO133 := n2_; have HB := n3_; clear n0_ n1_ n2_ n3_ hb ho18; obtain ⟨Ao19, co19, eo19⟩ := Kd.R_slice HO133.out; subst eo19) | (go_at_call 45; (with_reducible refine (mask_Count.calls k _ _ y131 t134 _ ?side1 ?side2 A8.out).mono ?_); (case side1 => repeat (first | exact (Kd.R_reads' HO133.out).2.2 | (with_reducible refine Kd.C_alloc ?_ _) | (with_reducible refine Kd.C_drewN ?_ _) | (with_reducible refine Kd.C_drew ?_))); (case side2 => exact (Kd.R_reads' HO133.out).2.1); rintro e w' ⟨rfl, ⟨nd, rfl⟩⟩) | ((with_reducible refine gate_dst (N := 32) rfl ?_); (try (refine gate_guard (by rfl) ?_; dsimp only)); refine Kd.R_lit (Kd.int .u8) _ 5 ?hg (N := 32) ?hd (xs := ([0, 0] : List Int)) (inner := [.int .u8 0, .int .u8 0]) (ok := fun _ => True) (okp := fun _ => True) ?hr ?hp (fun _ hk => hk) trivial (Below.refl _ _) (Nat.le_refl _) (by simp) ?_; (case hd => rfl); (case hg => rfl); (case hr => first | (go_simp; done) | (go_simp; rfl)); (case hp => exact (Reps.one (show Kd.M (Kd.int .u8) _ _ _ 0 [.int .u8 0] from rfl) (Reps.one (show Kd.M (Kd.int .u8) _ _ _ 0 [.int .u8 0] from rfl) (Reps.none _ _)))); intro v136 w20 ho21 hb hg_ hnew_; clear hg_ hnew_; (first | rw [← Ny135.out] at ho21 | (simp only [Int.reduceToNat] at ho21; rw [← Ny135.out] at ho21)); have n0_ := Aside0.mk (Kd.R_elder' (kR_ HO124.out) (Kd.R_base ho21) hb); have n1_ := Aside0.mk (Kd.R_below (kR_ HO128.out) hb); have n2_ := Aside0.mk (Kd.R_elder' (kR_ HO133.out) (Kd.R_base ho21) hb); have n3_ := Aside0.mk (Kd.R_lower (Kd.R_new' (Kd.R_new' ho21 (Kd.R_lt (kR_ HO124.out))) (Kd.R_lt (kR_ HO133.out))) (below_size (hb0_ HB.out))); have n4_ := Aside0.mk (below_step (hb0_ HB.out) hb); clear HO124 HO128 HO133 HB; have HO124 := n0_; have HO128 := n1_; have HO133 := n2_; have HO137 := n3_; have HB := n4_; clear n0_ n1_ n2_ n3_ n4_ hb ho21; obtain ⟨Ao22, co22, eo22⟩ := Kd.R_slice HO137.out; subst eo22) | (go_at_call 47; (with_reducible refine (mask_Put.calls k _ _ y135 _ _ t125 2 t138 _ ?side1 ?side2 ?side3 ?side4 A10.out).mono ?_); (case side1 => repeat (first | exact (Kd.R_reads' HO137.out).2.2 | (with_reducible refine Kd.C_alloc ?_ _) | (with_reducible refine Kd.C_drewN ?_ _) | (with_reducible refine Kd.C_drew ?_))); (case side2 => exact (Kd.R_reads' HO137.out).2.1); (case side3 => repeat (first | exact (Kd.R_reads' HO128.out).2.2 | (with_reducible refine Kd.C_alloc ?_ _) | (with_reducible refine Kd.C_drewN ?_ _) | (with_reducible refine Kd.C_drew ?_))); (case side4 => exact (Kd.R_reads' HO128.out).2.1); rintro e w23 ⟨v139, rfl, ho0, hb⟩; have n0_ := Aside0.mk (Kd.R_elder' (kR_ HO124.out) (Kd.R_base ho0) hb); have n1_ := Aside0.mk (Kd.R_below (kR_ HO128.out) hb); have n2_ := Aside0.mk (Kd.R_elder' (kR_ HO133.out) (Kd.R_base ho0) hb); have n3_ := Aside0.mk (Kd.R_elder' (kR_ HO137.out) (Kd.R_base ho0) hb); have n4_ := Aside0.mk (Kd.R_lower (Kd.R_new' (Kd.R_new' (Kd.R_new' ho0 (Kd.R_lt (kR_ HO124.out))) (Kd.R_lt (kR_ HO133.out))) (Kd.R_lt (kR_ HO137.out))) (below_size (hb0_ HB.out))); have n5_ := Aside0.mk (below_step (hb0_ HB.out) hb); clear HO124 HO128 HO133 HO137 HB; have HO124 := n0_; have HO128 := n1_; have HO133 := n2_; have HO137 := n3_; have HO140 := n4_; have HB := n5_; clear n0_ n1_ n2_ n3_ n4_ n5_; (try clear hb); (try clear hb2); (try clear hk); (try clear hi); (try clear ho0); obtain ⟨Ao24, co24, eo24⟩ := Kd.R_slice HO140.out; subst eo24) | (go_at_call 48; (with_reducible refine (mask_Get.calls k _ _ t138 _ _ t125 t141 _ ?side1 ?side2 ?side3 ?side4 A11.out).mono ?_); (case side1 => repeat (first | exact (Kd.R_reads' HO140.out).2.2 | (with_reducible refine Kd.C_alloc ?_ _) | (with_reducible refine Kd.C_drewN ?_ _) | (with_reducible refine Kd.C_drew ?_))); (case side2 => exact (Kd.R_reads' HO140.out).2.1); (case side3 => repeat (first | exact (Kd.R_reads' HO128.out).2.2 | (with_reducible refine Kd.C_alloc ?_ _) | (with_reducible refine Kd.C_drewN ?_ _) | (with_reducible refine Kd.C_drew ?_))); (case side4 => exact (Kd.R_reads' HO128.out).2.1); rintro e w25 ⟨rfl, hb⟩; have n0_ := Aside0.mk (Kd.R_below (kR_ HO124.out) hb); have n1_ := Aside0.mk (Kd.R_below (kR_ HO128.out) hb); have n2_ := Aside0.mk (Kd.R_below (kR_ HO133.out) hb); have n3_ := Aside0.mk (Kd.R_below (kR_ HO137.out) hb); have n4_ := Aside0.mk (Kd.R_below (kR_ HO140.out) hb); have n5_ := Aside0.mk (below_step (hb0_ HB.out) hb); clear HO124 HO128 HO133 HO137 HO140 HB; have HO124 := n0_; have HO128 := n1_; have HO133 := n2_; have HO137 := n3_; have HO140 := n4_; have HB := n5_; clear n0_ n1_ n2_ n3_ n4_ n5_; (try clear hb); (try clear hb2); (try clear hk); (try clear hi)))
                go_ret
                exact ⟨by first | rfl | (simp [errW_none, errW_some] <;> rfl) | (simp [*, errW_none, errW_some] <;> rfl), by repeat (first | (with_reducible first | exact HB.out | apply below_alloc | apply pw_below_drewN | apply below_drew1) | exact HB.out)⟩
              · rw [if_neg c9] at H
                have c9b0 : (t134 == 3) = false := beq_eq_false_iff_ne.mpr c9
                have c9b1 : (t134 != 3) = true := bne_iff_ne.mpr c9
                obtain rfl := Option.some.inj H
                go_enter Try.func43, Try.ntmps43
                go_wp2_with (first | ((with_reducible refine gate_dst (N := 4) rfl ?_); (try (refine gate_guard (by rfl) ?_; dsimp only)); refine Kd.R_lit (Kd.int .u8) _ 5 ?hg (N := 4) ?hd (xs := ([1, 6] : List Int)) (inner := [.int .u8 1, .int .u8 6]) (ok := fun _ => True) (okp := fun _ => True) ?hr ?hp (fun _ hk => hk) trivial (Below.refl _ _) (Nat.le_refl _) (by simp) ?_; (case hd => rfl); (case hg => rfl); (case hr => first | (go_simp; done) | (go_simp; rfl)); (case hp => exact (Reps.one (show Kd.M (Kd.int .u8) _ _ _ 1 [.int .u8 1] from rfl) (Reps.one (show Kd.M (Kd.int .u8) _ _ _ 6 [.int .u8 6] from rfl) (Reps.none _ _)))); intro v123 w26 ho27 hb hg_ hnew_; clear hg_ hnew_; (first | rw [← Ny122.out] at ho27 | (simp only [Int.reduceToNat] at ho27; rw [← Ny122.out] at ho27)); have n0_ := Aside0.mk (Kd.R_lower ho27 (below_size (hb0_ HB.out))); have n1_ := Aside0.mk (below_step (hb0_ HB.out) hb); clear HB; have HO124 := n0_; have HB := n1_; clear n0_ n1_ hb ho27; obtain ⟨Ao28, co28, eo28⟩ := Kd.R_slice HO124.out; subst eo28) | ((with_reducible refine gate_callee (f := 44) rfl ?_); refine goesL_ (some 5) rfl rfl Try.func44 (by kernel_rfl) rfl #[.slice Ao28 y122.length co28, .int .i64 2] rfl (by (try simp only [List.map_toArray, List.map_cons, List.map_nil]); first | done | rfl | (simp only [List.length_drop, List.length_take]; rfl)) ?_; (with_reducible refine (mask_Bits.calls k _ _ y122 2 t125 true _ ?side1 ?side2 A1.out).mono ?_); (case side1 => repeat (first | exact (Kd.R_reads' HO124.out).2.2 | (with_reducible refine Kd.C_alloc ?_ _) | (with_reducible refine Kd.C_drewN ?_ _) | (with_reducible refine Kd.C_drew ?_))); (case side2 => exact (Kd.R_reads' HO124.out).2.1); rintro e w29 ⟨v127, rfl, ho0, hb⟩; refine ⟨_, rfl, ?_⟩; have n0_ := Aside0.mk (Kd.R_below (kR_ HO124.out) hb); have n1_ := Aside0.mk (Kd.R_lower ho0 (below_size (hb0_ HB.out))); have n2_ := Aside0.mk (below_step (hb0_ HB.out) hb); clear HO124 HB; have HO124 := n0_; have HO128 := n1_; have HB := n2_; clear n0_ n1_ n2_; (try clear hb); (try clear hb2); (try clear hk); (try clear hi); (try clear ho0); obtain ⟨Ao30, co30, eo30⟩ := Kd.R_slice HO128.out; subst eo30; have p129 : 0 ≤ (0 : Int) := (by omega); have q129 : 0 < (t125.length : Int) := od_; obtain ⟨ad129, e129, hx129_0⟩ := Kd.at_int (Kd.R_reads' HO128.out).2.2 0 p129 q129; cases e129; have qi129 : (0 < t125.length) = True := eq_true (by omega); (try rw [show ((0 : Int)).toNat = 0 from rfl] at hx129_0); (try rw [Addr.add_zero'] at hx129_0); replace p129 := eq_true p129; replace q129 := eq_true q129; have p130 : 0 ≤ (1 : Int) := (by omega); have q130 : 1 < (t125.length : Int) := od_; obtain ⟨ad130, e130, hx130_0⟩ := Kd.at_int (Kd.R_reads' HO128.out).2.2 1 p130 q130; obtain rfl : ad129 = ad130 := (by injection e130); (try simp only [show (1 : Int).toNat = 1 from rfl, Nat.reduceMul, Nat.reduceEqDiff, Go.Addr.add, ↓reduceIte] at hx130_0); have qi130 : (1 < t125.length) = True := eq_true (by omega); (try rw [show ((1 : Int)).toNat = 1 from rfl] at hx130_0); replace p130 := eq_true p130; replace q130 := eq_true q130) | ((with_reducible refine gate_dst (N := 27) rfl ?_); (try (refine gate_guard (by rfl) ?_; dsimp only)); refine Kd.R_lit (Kd.int .u8) _ 5 ?hg (N := 27) ?hd (xs := ([1, 6] : List Int)) (inner := [.int .u8 1, .int .u8 6]) (ok := fun _ => True) (okp := fun _ => True) ?hr ?hp (fun _ hk => hk) trivial (Below.refl _ _) (Nat.le_refl _) (by simp) ?_; (case hd => rfl); (case hg => rfl); (case hr => first | (go_simp; done) | (go_simp; rfl)); (case hp => exact (Reps.one (show Kd.M (Kd.int .u8) _ _ _ 1 [.int .u8 1] from rfl) (Reps.one (show Kd.M (Kd.int .u8) _ _ _ 6 [.int .u8 6] from rfl) (Reps.none _ _)))); intro v132 w31 ho32 hb hg_ hnew_; clear hg_ hnew_; (first | rw [← Ny131.out] at ho32 | (simp only [Int.reduceToNat] at ho32; rw [← Ny131.out] at ho32)); have n0_ := Aside0.mk (Kd.R_elder' (kR_ HO124.out) (Kd.R_base ho32) hb); have n1_ := Aside0.mk (Kd.R_below (kR_ HO128.out) hb); have n2_ := Aside0.mk (Kd.R_lower (Kd.R_new' ho32 (Kd.R_lt (kR_ HO124.out))) (below_size (hb0_ HB.out))); have n3_ := Aside0.mk (below_step (hb0_ HB.out) hb); clear HO124 HO128 HB; have HO124 := n0_; have HO128 := n1_; have HO133 := n2_; have HB := n3_; clear n0_ n1_ n2_ n3_ hb ho32; obtain ⟨Ao33, co33, eo33⟩ := Kd.R_slice HO133.out; subst eo33) | (go_at_call 45; (with_reducible refine (mask_Count.calls k _ _ y131 t134 _ ?side1 ?side2 A8.out).mono ?_); (case side1 => repeat (first | exact (Kd.R_reads' HO133.out).2.2 | (with_reducible refine Kd.C_alloc ?_ _) | (with_reducible refine Kd.C_drewN ?_ _) | (with_reducible refine Kd.C_drew ?_))); (case side2 => exact (Kd.R_reads' HO133.out).2.1); rintro e w' ⟨rfl, ⟨nd, rfl⟩⟩))
                go_ret
                exact ⟨by first | rfl | (simp [errW_none, errW_some] <;> rfl) | (simp [*, errW_none, errW_some] <;> rfl), by repeat (first | (with_reducible first | exact HB.out | apply below_alloc | apply pw_below_drewN | apply below_drew1) | exact HB.out)⟩
            · rw [if_neg c7] at H
              have c7b0 : ((rd t125 1) == 9) = false := beq_eq_false_iff_ne.mpr c7
              have c7b1 : ((rd t125 1) != 9) = true := bne_iff_ne.mpr c7
              obtain rfl := Option.some.inj H
              go_enter Try.func43, Try.ntmps43
              go_wp2_with (first | ((with_reducible refine gate_dst (N := 4) rfl ?_); (try (refine gate_guard (by rfl) ?_; dsimp only)); refine Kd.R_lit (Kd.int .u8) _ 5 ?hg (N := 4) ?hd (xs := ([1, 6] : List Int)) (inner := [.int .u8 1, .int .u8 6]) (ok := fun _ => True) (okp := fun _ => True) ?hr ?hp (fun _ hk => hk) trivial (Below.refl _ _) (Nat.le_refl _) (by simp) ?_; (case hd => rfl); (case hg => rfl); (case hr => first | (go_simp; done) | (go_simp; rfl)); (case hp => exact (Reps.one (show Kd.M (Kd.int .u8) _ _ _ 1 [.int .u8 1] from rfl) (Reps.one (show Kd.M (Kd.int .u8) _ _ _ 6 [.int .u8 6] from rfl) (Reps.none _ _)))); intro v123 w34 ho35 hb hg_ hnew_; clear hg_ hnew_; (first | rw [← Ny122.out] at ho35 | (simp only [Int.reduceToNat] at ho35; rw [← Ny122.out] at ho35)); have n0_ := Aside0.mk (Kd.R_lower ho35 (below_size (hb0_ HB.out))); have n1_ := Aside0.mk (below_step (hb0_ HB.out) hb); clear HB; have HO124 := n0_; have HB := n1_; clear n0_ n1_ hb ho35; obtain ⟨Ao36, co36, eo36⟩ := Kd.R_slice HO124.out; subst eo36) | ((with_reducible refine gate_callee (f := 44) rfl ?_); refine goesL_ (some 5) rfl rfl Try.func44 (by kernel_rfl) rfl #[.slice Ao36 y122.length co36, .int .i64 2] rfl (by (try simp only [List.map_toArray, List.map_cons, List.map_nil]); first | done | rfl | (simp only [List.length_drop, List.length_take]; rfl)) ?_; (with_reducible refine (mask_Bits.calls k _ _ y122 2 t125 true _ ?side1 ?side2 A1.out).mono ?_); (case side1 => repeat (first | exact (Kd.R_reads' HO124.out).2.2 | (with_reducible refine Kd.C_alloc ?_ _) | (with_reducible refine Kd.C_drewN ?_ _) | (with_reducible refine Kd.C_drew ?_))); (case side2 => exact (Kd.R_reads' HO124.out).2.1); rintro e w37 ⟨v127, rfl, ho0, hb⟩; refine ⟨_, rfl, ?_⟩; have n0_ := Aside0.mk (Kd.R_below (kR_ HO124.out) hb); have n1_ := Aside0.mk (Kd.R_lower ho0 (below_size (hb0_ HB.out))); have n2_ := Aside0.mk (below_step (hb0_ HB.out) hb); clear HO124 HB; have HO124 := n0_; have HO128 := n1_; have HB := n2_; clear n0_ n1_ n2_; (try clear hb); (try clear hb2); (try clear hk); (try clear hi); (try clear ho0); obtain ⟨Ao38, co38, eo38⟩ := Kd.R_slice HO128.out; subst eo38; have p129 : 0 ≤ (0 : Int) := (by omega); have q129 : 0 < (t125.length : Int) := od_; obtain ⟨ad129, e129, hx129_0⟩ := Kd.at_int (Kd.R_reads' HO128.out).2.2 0 p129 q129; cases e129; have qi129 : (0 < t125.length) = True := eq_true (by omega); (try rw [show ((0 : Int)).toNat = 0 from rfl] at hx129_0); (try rw [Addr.add_zero'] at hx129_0); replace p129 := eq_true p129; replace q129 := eq_true q129; have p130 : 0 ≤ (1 : Int) := (by omega); have q130 : 1 < (t125.length : Int) := od_; obtain ⟨ad130, e130, hx130_0⟩ := Kd.at_int (Kd.R_reads' HO128.out).2.2 1 p130 q130; obtain rfl : ad129 = ad130 := (by injection e130); (try simp only [show (1 : Int).toNat = 1 from rfl, Nat.reduceMul, Nat.reduceEqDiff, Go.Addr.add, ↓reduceIte] at hx130_0); have qi130 : (1 < t125.length) = True := eq_true (by omega); (try rw [show ((1 : Int)).toNat = 1 from rfl] at hx130_0); replace p130 := eq_true p130; replace q130 := eq_true q130))
              go_ret
              exact ⟨by first | rfl | (simp [errW_none, errW_some] <;> rfl) | (simp [*, errW_none, errW_some] <;> rfl), by repeat (first | (with_reducible first | exact HB.out | apply below_alloc | apply pw_below_drewN | apply below_drew1) | exact HB.out)⟩
          · rw [if_neg c6] at H
            exact absurd H (by simp)
        · rw [if_neg c5] at H
          have c5b0 : ((rd t125 0) == 0) = false := beq_eq_false_iff_ne.mpr c5
          have c5b1 : ((rd t125 0) != 0) = true := bne_iff_ne.mpr c5
          obtain rfl := Option.some.inj H
          go_enter Try.func43, Try.ntmps43
          go_wp2_with (first | ((with_reducible refine gate_dst (N := 4) rfl ?_); (try (refine gate_guard (by rfl) ?_; dsimp only)); refine Kd.R_lit (Kd.int .u8) _ 5 ?hg (N := 4) ?hd (xs := ([1, 6] : List Int)) (inner := [.int .u8 1, .int .u8 6]) (ok := fun _ => True) (okp := fun _ => True) ?hr ?hp (fun _ hk => hk) trivial (Below.refl _ _) (Nat.le_refl _) (by simp) ?_; (case hd => rfl); (case hg => rfl); (case hr => first | (go_simp; done) | (go_simp; rfl)); (case hp => exact (Reps.one (show Kd.M (Kd.int .u8) _ _ _ 1 [.int .u8 1] from rfl) (Reps.one (show Kd.M (Kd.int .u8) _ _ _ 6 [.int .u8 6] from rfl) (Reps.none _ _)))); intro v123 w39 ho40 hb hg_ hnew_; clear hg_ hnew_; (first | rw [← Ny122.out] at ho40 | (simp only [Int.reduceToNat] at ho40; rw [← Ny122.out] at ho40)); have n0_ := Aside0.mk (Kd.R_lower ho40 (below_size (hb0_ HB.out))); have n1_ := Aside0.mk (below_step (hb0_ HB.out) hb); clear HB; have HO124 := n0_; have HB := n1_; clear n0_ n1_ hb ho40; obtain ⟨Ao41, co41, eo41⟩ := Kd.R_slice HO124.out; subst eo41) | ((with_reducible refine gate_callee (f := 44) rfl ?_); refine goesL_ (some 5) rfl rfl Try.func44 (by kernel_rfl) rfl #[.slice Ao41 y122.length co41, .int .i64 2] rfl (by (try simp only [List.map_toArray, List.map_cons, List.map_nil]); first | done | rfl | (simp only [List.length_drop, List.length_take]; rfl)) ?_; (with_reducible refine (mask_Bits.calls k _ _ y122 2 t125 true _ ?side1 ?side2 A1.out).mono ?_); (case side1 => repeat (first | exact (Kd.R_reads' HO124.out).2.2 | (with_reducible refine Kd.C_alloc ?_ _) | (with_reducible refine Kd.C_drewN ?_ _) | (with_reducible refine Kd.C_drew ?_))); (case side2 => exact (Kd.R_reads' HO124.out).2.1); rintro e w42 ⟨v127, rfl, ho0, hb⟩; refine ⟨_, rfl, ?_⟩; have n0_ := Aside0.mk (Kd.R_below (kR_ HO124.out) hb); have n1_ := Aside0.mk (Kd.R_lower ho0 (below_size (hb0_ HB.out))); have n2_ := Aside0.mk (below_step (hb0_ HB.out) hb); clear HO124 HB; have HO124 := n0_; have HO128 := n1_; have HB := n2_; clear n0_ n1_ n2_; (try clear hb); (try clear hb2); (try clear hk); (try clear hi); (try clear ho0); obtain ⟨Ao43, co43, eo43⟩ := Kd.R_slice HO128.out; subst eo43; have p129 : 0 ≤ (0 : Int) := (by omega); have q129 : 0 < (t125.length : Int) := od_; obtain ⟨ad129, e129, hx129_0⟩ := Kd.at_int (Kd.R_reads' HO128.out).2.2 0 p129 q129; cases e129; have qi129 : (0 < t125.length) = True := eq_true (by omega); (try rw [show ((0 : Int)).toNat = 0 from rfl] at hx129_0); (try rw [Addr.add_zero'] at hx129_0); replace p129 := eq_true p129; replace q129 := eq_true q129))
          go_ret
          exact ⟨by first | rfl | (simp [errW_none, errW_some] <;> rfl) | (simp [*, errW_none, errW_some] <;> rfl), by repeat (first | (with_reducible first | exact HB.out | apply below_alloc | apply pw_below_drewN | apply below_drew1) | exact HB.out)⟩
      · rw [if_neg c4] at H
        exact absurd H (by simp)
    · rw [if_neg c3] at H
      have c3b0 : ((t125.length : Int) == 2) = false := beq_eq_false_iff_ne.mpr c3
      have c3b1 : ((t125.length : Int) != 2) = true := bne_iff_ne.mpr c3
      obtain rfl := Option.some.inj H
      go_enter Try.func43, Try.ntmps43
      go_wp2_with (first | ((with_reducible refine gate_dst (N := 4) rfl ?_); (try (refine gate_guard (by rfl) ?_; dsimp only)); refine Kd.R_lit (Kd.int .u8) _ 5 ?hg (N := 4) ?hd (xs := ([1, 6] : List Int)) (inner := [.int .u8 1, .int .u8 6]) (ok := fun _ => True) (okp := fun _ => True) ?hr ?hp (fun _ hk => hk) trivial (Below.refl _ _) (Nat.le_refl _) (by simp) ?_; (case hd => rfl); (case hg => rfl); (case hr => first | (go_simp; done) | (go_simp; rfl)); (case hp => exact (Reps.one (show Kd.M (Kd.int .u8) _ _ _ 1 [.int .u8 1] from rfl) (Reps.one (show Kd.M (Kd.int .u8) _ _ _ 6 [.int .u8 6] from rfl) (Reps.none _ _)))); intro v123 w44 ho45 hb hg_ hnew_; clear hg_ hnew_; (first | rw [← Ny122.out] at ho45 | (simp only [Int.reduceToNat] at ho45; rw [← Ny122.out] at ho45)); have n0_ := Aside0.mk (Kd.R_lower ho45 (below_size (hb0_ HB.out))); have n1_ := Aside0.mk (below_step (hb0_ HB.out) hb); clear HB; have HO124 := n0_; have HB := n1_; clear n0_ n1_ hb ho45; obtain ⟨Ao46, co46, eo46⟩ := Kd.R_slice HO124.out; subst eo46) | ((with_reducible refine gate_callee (f := 44) rfl ?_); refine goesL_ (some 5) rfl rfl Try.func44 (by kernel_rfl) rfl #[.slice Ao46 y122.length co46, .int .i64 2] rfl (by (try simp only [List.map_toArray, List.map_cons, List.map_nil]); first | done | rfl | (simp only [List.length_drop, List.length_take]; rfl)) ?_; (with_reducible refine (mask_Bits.calls k _ _ y122 2 t125 true _ ?side1 ?side2 A1.out).mono ?_); (case side1 => repeat (first | exact (Kd.R_reads' HO124.out).2.2 | (with_reducible refine Kd.C_alloc ?_ _) | (with_reducible refine Kd.C_drewN ?_ _) | (with_reducible refine Kd.C_drew ?_))); (case side2 => exact (Kd.R_reads' HO124.out).2.1); rintro e w47 ⟨v127, rfl, ho0, hb⟩; refine ⟨_, rfl, ?_⟩; have n0_ := Aside0.mk (Kd.R_below (kR_ HO124.out) hb); have n1_ := Aside0.mk (Kd.R_lower ho0 (below_size (hb0_ HB.out))); have n2_ := Aside0.mk (below_step (hb0_ HB.out) hb); clear HO124 HB; have HO124 := n0_; have HO128 := n1_; have HB := n2_; clear n0_ n1_ n2_; (try clear hb); (try clear hb2); (try clear hk); (try clear hi); (try clear ho0); obtain ⟨Ao48, co48, eo48⟩ := Kd.R_slice HO128.out; subst eo48))
      go_ret
      exact ⟨by first | rfl | (simp [errW_none, errW_some] <;> rfl) | (simp [*, errW_none, errW_some] <;> rfl), by repeat (first | (with_reducible first | exact HB.out | apply below_alloc | apply pw_below_drewN | apply below_drew1) | exact HB.out)⟩
  · replace c2 := Bool.eq_false_iff.mpr c2
    subst c2
    have H1 : (some false) = some r := by rw [if_neg (show ¬ (false = true) by decide)] at H; exact H
    clear H
    have H := H1
    clear H1
    obtain rfl := Option.some.inj H
    go_enter Try.func43, Try.ntmps43
    go_wp2_with (first | ((with_reducible refine gate_dst (N := 4) rfl ?_); (try (refine gate_guard (by rfl) ?_; dsimp only)); refine Kd.R_lit (Kd.int .u8) _ 5 ?hg (N := 4) ?hd (xs := ([1, 6] : List Int)) (inner := [.int .u8 1, .int .u8 6]) (ok := fun _ => True) (okp := fun _ => True) ?hr ?hp (fun _ hk => hk) trivial (Below.refl _ _) (Nat.le_refl _) (by simp) ?_; (case hd => rfl); (case hg => rfl); (case hr => first | (go_simp; done) | (go_simp; rfl)); (case hp => exact (Reps.one (show Kd.M (Kd.int .u8) _ _ _ 1 [.int .u8 1] from rfl) (Reps.one (show Kd.M (Kd.int .u8) _ _ _ 6 [.int .u8 6] from rfl) (Reps.none _ _)))); intro v123 w49 ho50 hb hg_ hnew_; clear hg_ hnew_; (first | rw [← Ny122.out] at ho50 | (simp only [Int.reduceToNat] at ho50; rw [← Ny122.out] at ho50)); have n0_ := Aside0.mk (Kd.R_lower ho50 (below_size (hb0_ HB.out))); have n1_ := Aside0.mk (below_step (hb0_ HB.out) hb); clear HB; have HO124 := n0_; have HB := n1_; clear n0_ n1_ hb ho50; obtain ⟨Ao51, co51, eo51⟩ := Kd.R_slice HO124.out; subst eo51) | ((with_reducible refine gate_callee (f := 44) rfl ?_); refine goesL_ (some 5) rfl rfl Try.func44 (by kernel_rfl) rfl #[.slice Ao51 y122.length co51, .int .i64 2] rfl (by (try simp only [List.map_toArray, List.map_cons, List.map_nil]); first | done | rfl | (simp only [List.length_drop, List.length_take]; rfl)) ?_; (with_reducible refine (mask_Bits.calls k _ _ y122 2 t125 false _ ?side1 ?side2 A1.out).mono ?_); (case side1 => repeat (first | exact (Kd.R_reads' HO124.out).2.2 | (with_reducible refine Kd.C_alloc ?_ _) | (with_reducible refine Kd.C_drewN ?_ _) | (with_reducible refine Kd.C_drew ?_))); (case side2 => exact (Kd.R_reads' HO124.out).2.1); rintro e w52 ⟨v127, rfl, ho0, hb⟩; refine ⟨_, rfl, ?_⟩; have n0_ := Aside0.mk (Kd.R_below (kR_ HO124.out) hb); have n1_ := Aside0.mk (Kd.R_lower ho0 (below_size (hb0_ HB.out))); have n2_ := Aside0.mk (below_step (hb0_ HB.out) hb); clear HO124 HB; have HO124 := n0_; have HO128 := n1_; have HB := n2_; clear n0_ n1_ n2_; (try clear hb); (try clear hb2); (try clear hk); (try clear hi); (try clear ho0)))
    go_ret
    exact ⟨by first | rfl | (simp [errW_none, errW_some] <;> rfl) | (simp [*, errW_none, errW_some] <;> rfl), by repeat (first | (with_reducible first | exact HB.out | apply below_alloc | apply pw_below_drewN | apply below_drew1) | exact HB.out)⟩

/-! ### libevolutionlaw15_MaskBits: function 8 -/
mutual
def libevolutionlaw15_MaskBits.j0 : Nat → List Int → List Int → Bool → Option (Bool)
  | 0, _, _, _ => none
  | k + 1, x0, x6, x47 => if x47 = true then (some false) else (libevolutionlaw15_MaskBits.l0 k x0 (-1) x6 (x6.length : Int) 0)
def libevolutionlaw15_MaskBits.l0 : Nat → List Int → Int → List Int → Int → Int → Option (Bool)
  | 0, _, _, _, _, _ => none
  | k + 1, x0, x8, x48, x49, x50 => if x50 < x49 then (if 0 ≤ x50 then (if x50 < (x48.length : Int) then (libevolutionlaw15_MaskBits.l1 k x0 x8 (rd x48 x50) (wrap64 (x8 + 1)) x48 x49 x50) else (none)) else (none)) else ((libevolutionlaw15_awake.f k).bind fun t148 => (some t148))
def libevolutionlaw15_MaskBits.l1 : Nat → List Int → Int → Int → Int → List Int → Int → Int → Option (Bool)
  | 0, _, _, _, _, _, _, _ => none
  | k + 1, x0, x8, x10, x11, x48, x49, x50 => if x11 < x10 then (if 0 ≤ (wrap64 (Int.tdiv x11 8)) then (if (wrap64 (Int.tdiv x11 8)) < (x0.length : Int) then (if 0 ≤ (IntKind.u64.wrap (Int.tmod x11 8)) then (if (Go.bits .and .u8 (shr .u8 (rd x0 (wrap64 (Int.tdiv x11 8))) (IntKind.u64.wrap (Int.tmod x11 8))) 1) = 1 then (some false) else (libevolutionlaw15_MaskBits.l1 k x0 x8 x10 (wrap64 (x11 + 1)) x48 x49 x50)) else (none)) else (none)) else (none)) else (if x10 ≤ x8 then (some false) else (if x10 ≥ (wrap64 (8 * (x0.length : Int))) then (some false) else (if 0 ≤ (wrap64 (Int.tdiv x10 8)) then (if (wrap64 (Int.tdiv x10 8)) < (x0.length : Int) then (if 0 ≤ (IntKind.u64.wrap (Int.tmod x10 8)) then (if (Go.bits .and .u8 (shr .u8 (rd x0 (wrap64 (Int.tdiv x10 8))) (IntKind.u64.wrap (Int.tmod x10 8))) 1) = 0 then (some false) else (libevolutionlaw15_MaskBits.l0 k x0 x10 x48 x49 (wrap64 (x50 + 1)))) else (none)) else (none)) else (none))))
end
def libevolutionlaw15_MaskBits.f (k : Nat) (l0 : List Int) (a1 : Int) : Option (Bool) := if (l0.length : Int) > 100 then ((libevolutionlaw15_awake.f k).bind fun t142 => (some t142)) else ((mask_Bits.f k l0 (wrap64 (a1))).bind fun bt143 => ((mask_Count.f k l0).bind fun t147 => (if (bt143.2 != (decide (t147 ≥ (wrap64 (a1))))) = true then (libevolutionlaw15_MaskBits.j0 k l0 bt143.1 true) else (if bt143.2 = true then (if (bt143.1.length : Int) = (wrap64 (a1)) then (libevolutionlaw15_MaskBits.j0 k l0 bt143.1 false) else (libevolutionlaw15_MaskBits.j0 k l0 bt143.1 true)) else (libevolutionlaw15_MaskBits.j0 k l0 bt143.1 (decide ((bt143.1.length : Int) > 0)))))))
theorem libevolutionlaw15_MaskBits.mono_l : ∀ k, (∀ y0 y1 y2, LeO (libevolutionlaw15_MaskBits.j0 k y0 y1 y2) (libevolutionlaw15_MaskBits.j0 (k + 1) y0 y1 y2)) ∧ (∀ y0 y1 y2 y3 y4, LeO (libevolutionlaw15_MaskBits.l0 k y0 y1 y2 y3 y4) (libevolutionlaw15_MaskBits.l0 (k + 1) y0 y1 y2 y3 y4)) ∧ (∀ y0 y1 y2 y3 y4 y5 y6, LeO (libevolutionlaw15_MaskBits.l1 k y0 y1 y2 y3 y4 y5 y6) (libevolutionlaw15_MaskBits.l1 (k + 1) y0 y1 y2 y3 y4 y5 y6))
  | 0 => ⟨fun _ _ _ r h => by simp [libevolutionlaw15_MaskBits.j0] at h, fun _ _ _ _ _ r h => by simp [libevolutionlaw15_MaskBits.l0] at h, fun _ _ _ _ _ _ _ r h => by simp [libevolutionlaw15_MaskBits.l1] at h⟩
  | k + 1 => by
    obtain ⟨ih0, ih1, ih2⟩ := libevolutionlaw15_MaskBits.mono_l k
    refine ⟨?_, ?_, ?_⟩
    · intro y0 y1 y2
      unfold libevolutionlaw15_MaskBits.j0
      repeat' first
      | (with_reducible exact ih0 _ _ _)
      | (with_reducible exact ih1 _ _ _ _ _)
      | (with_reducible exact ih2 _ _ _ _ _ _ _)
      | (with_reducible exact libevolutionlaw15_awake.mono _)
      | (with_reducible exact mask_Bits.mono _ _ _)
      | (with_reducible exact mask_Count.mono _ _)
      | (with_reducible exact LeO.refl _)
      | (with_reducible exact LeO.none _)
      | (with_reducible refine LeO.ite ?_ ?_)
      | (with_reducible refine LeO.bind ?_ (fun _ => ?_))
      | exact ih0 _ _ _
      | exact ih1 _ _ _ _ _
      | exact ih2 _ _ _ _ _ _ _
      | exact libevolutionlaw15_awake.mono _
      | exact mask_Bits.mono _ _ _
      | exact mask_Count.mono _ _
      | exact LeO.none _
      | refine LeO.ite ?_ ?_
      | refine LeO.bind ?_ (fun _ => ?_)
    · intro y0 y1 y2 y3 y4
      unfold libevolutionlaw15_MaskBits.l0
      repeat' first
      | (with_reducible exact ih0 _ _ _)
      | (with_reducible exact ih1 _ _ _ _ _)
      | (with_reducible exact ih2 _ _ _ _ _ _ _)
      | (with_reducible exact libevolutionlaw15_awake.mono _)
      | (with_reducible exact mask_Bits.mono _ _ _)
      | (with_reducible exact mask_Count.mono _ _)
      | (with_reducible exact LeO.refl _)
      | (with_reducible exact LeO.none _)
      | (with_reducible refine LeO.ite ?_ ?_)
      | (with_reducible refine LeO.bind ?_ (fun _ => ?_))
      | exact ih0 _ _ _
      | exact ih1 _ _ _ _ _
      | exact ih2 _ _ _ _ _ _ _
      | exact libevolutionlaw15_awake.mono _
      | exact mask_Bits.mono _ _ _
      | exact mask_Count.mono _ _
      | exact LeO.none _
      | refine LeO.ite ?_ ?_
      | refine LeO.bind ?_ (fun _ => ?_)
    · intro y0 y1 y2 y3 y4 y5 y6
      unfold libevolutionlaw15_MaskBits.l1
      repeat' first
      | (with_reducible exact ih0 _ _ _)
      | (with_reducible exact ih1 _ _ _ _ _)
      | (with_reducible exact ih2 _ _ _ _ _ _ _)
      | (with_reducible exact libevolutionlaw15_awake.mono _)
      | (with_reducible exact mask_Bits.mono _ _ _)
      | (with_reducible exact mask_Count.mono _ _)
      | (with_reducible exact LeO.refl _)
      | (with_reducible exact LeO.none _)
      | (with_reducible refine LeO.ite ?_ ?_)
      | (with_reducible refine LeO.bind ?_ (fun _ => ?_))
      | exact ih0 _ _ _
      | exact ih1 _ _ _ _ _
      | exact ih2 _ _ _ _ _ _ _
      | exact libevolutionlaw15_awake.mono _
      | exact mask_Bits.mono _ _ _
      | exact mask_Count.mono _ _
      | exact LeO.none _
      | refine LeO.ite ?_ ?_
      | refine LeO.bind ?_ (fun _ => ?_)
theorem libevolutionlaw15_MaskBits.mono : ∀ a0 a1 k, LeO (libevolutionlaw15_MaskBits.f k a0 a1) (libevolutionlaw15_MaskBits.f (k + 1) a0 a1) := by
  intro a0 a1 k
  obtain ⟨ih0, ih1, ih2⟩ := libevolutionlaw15_MaskBits.mono_l k
  unfold libevolutionlaw15_MaskBits.f
  repeat' first
      | (with_reducible exact ih0 _ _ _)
      | (with_reducible exact ih1 _ _ _ _ _)
      | (with_reducible exact ih2 _ _ _ _ _ _ _)
      | (with_reducible exact libevolutionlaw15_awake.mono _)
      | (with_reducible exact mask_Bits.mono _ _ _)
      | (with_reducible exact mask_Count.mono _ _)
      | (with_reducible exact LeO.refl _)
      | (with_reducible exact LeO.none _)
      | (with_reducible refine LeO.ite ?_ ?_)
      | (with_reducible refine LeO.bind ?_ (fun _ => ?_))
      | exact ih0 _ _ _
      | exact ih1 _ _ _ _ _
      | exact ih2 _ _ _ _ _ _ _
      | exact libevolutionlaw15_awake.mono _
      | exact mask_Bits.mono _ _ _
      | exact mask_Count.mono _ _
      | exact LeO.none _
      | refine LeO.ite ?_ ?_
      | refine LeO.bind ?_ (fun _ => ?_)
set_option maxHeartbeats 8000000 in
set_option maxRecDepth 100000 in
theorem libevolutionlaw15_MaskBits.calls (k : Nat) (A0 : Option Addr) (c0 : Nat) (l0 : List Int) (a1 : Int) (r : Bool) (w : World) (hr0 : Kd.C (Kd.int .u8) w A0 l0.length l0) (hc0 : l0.length ≤ c0) (h : libevolutionlaw15_MaskBits.f k l0 a1 = some r) :
    Calls Try.prog 8 #[.slice A0 l0.length c0, .int .u8 a1] w fun e w' => e = .returned (.bool r) ∧ Below w.heap.size w w' := by
  have HR0 := Aside0.mk hr0
  have HC0 := Aside0.mk hc0
  clear hr0 hc0
  have HB := Aside0.mk (Below.refl w.heap.size w)
  have H : (if (l0.length : Int) > 100 then ((libevolutionlaw15_awake.f k).bind fun t142 => (some t142)) else ((mask_Bits.f k l0 (wrap64 (a1))).bind fun bt143 => ((mask_Count.f k l0).bind fun t147 => (if (bt143.2 != (decide (t147 ≥ (wrap64 (a1))))) = true then (libevolutionlaw15_MaskBits.j0 k l0 bt143.1 true) else (if bt143.2 = true then (if (bt143.1.length : Int) = (wrap64 (a1)) then (libevolutionlaw15_MaskBits.j0 k l0 bt143.1 false) else (libevolutionlaw15_MaskBits.j0 k l0 bt143.1 true)) else (libevolutionlaw15_MaskBits.j0 k l0 bt143.1 (decide ((bt143.1.length : Int) > 0)))))))) = some r := h
  clear h
  by_cases c3 : (l0.length : Int) > 100
  · rw [if_pos c3] at H
    have c3b0 : decide (100 < (l0.length : Int)) = true := decide_eq_true c3
    have c3b1 : decide (100 < l0.length) = true := decide_eq_true (by omega)
    clear c3
    replace H := Option.bind_eq_some_iff.mp H
    obtain ⟨t142, A40, H⟩ := H
    replace H : (some t142) = some r := H
    have A4 := Aside0.mk A40
    clear A40
    obtain rfl := Option.some.inj H
    go_enter Try.func8, Try.ntmps8
    go_wp2_with (first | ((with_reducible refine gate_callee (f := 43) rfl ?_); refine goesL_ (some 15) rfl rfl Try.func43 (by kernel_rfl) rfl #[] rfl (by (try simp only [List.map_toArray, List.map_cons, List.map_nil]); first | done | rfl | (simp only [List.length_drop, List.length_take]; rfl)) ?_; (with_reducible refine (libevolutionlaw15_awake.calls k  t142 _ A4.out).mono ?_); rintro e w5 ⟨rfl, hb⟩; refine ⟨_, rfl, ?_⟩; have n0_ := Aside0.mk (below_step (hb0_ HB.out) hb); clear HB; have HB := n0_; clear n0_; (try clear hb); (try clear hb2); (try clear hk); (try clear hi)))
    go_ret
    exact ⟨by first | rfl | (simp [errW_none, errW_some] <;> rfl) | (simp [*, errW_none, errW_some] <;> rfl), by repeat (first | (with_reducible first | exact HB.out | apply below_alloc | apply pw_below_drewN | apply below_drew1) | exact HB.out)⟩
  · rw [if_neg c3] at H
    have c3b0 : decide (100 < (l0.length : Int)) = false := decide_eq_false c3
    have c3b1 : decide (100 < l0.length) = false := decide_eq_false (by omega)
    clear c3
    replace H := Option.bind_eq_some_iff.mp H
    obtain ⟨⟨t143, t144⟩, A60, H⟩ := H
    replace H : ((mask_Count.f k l0).bind fun t147 => (if (t144 != (decide (t147 ≥ (wrap64 (a1))))) = true then (libevolutionlaw15_MaskBits.j0 k l0 t143 true) else (if t144 = true then (if (t143.length : Int) = (wrap64 (a1)) then (libevolutionlaw15_MaskBits.j0 k l0 t143 false) else (libevolutionlaw15_MaskBits.j0 k l0 t143 true)) else (libevolutionlaw15_MaskBits.j0 k l0 t143 (decide ((t143.length : Int) > 0)))))) = some r := H
    have A6 := Aside0.mk A60
    clear A60
    have HC7 := Aside0.mk H
    clear H
    go_enter Try.func8, Try.ntmps8
    go_upto_region 5 with (first | ((with_reducible refine gate_callee (f := 44) rfl ?_); refine goesL_ (some 21) rfl rfl Try.func44 (by kernel_rfl) rfl #[.slice A0 l0.length c0, .int .i64 (wrap64 (a1))] rfl (by (try simp only [List.map_toArray, List.map_cons, List.map_nil]); first | done | rfl | (simp only [List.length_drop, List.length_take]; rfl)) ?_; (with_reducible refine (mask_Bits.calls k _ _ l0 (wrap64 (a1)) t143 t144 _ ?side1 ?side2 A6.out).mono ?_); (case side1 => repeat (first | exact HR0.out | (with_reducible refine Kd.C_alloc ?_ _) | (with_reducible refine Kd.C_drewN ?_ _) | (with_reducible refine Kd.C_drew ?_))); (case side2 => exact HC0.out); rintro e w8 ⟨v145, rfl, ho0, hb⟩; refine ⟨_, rfl, ?_⟩; have n0_ := Aside0.mk (Kd.R_lower ho0 (below_size (hb0_ HB.out))); have n1_ := Aside0.mk (below_step (hb0_ HB.out) hb); clear HB; have HO146 := n0_; have HB := n1_; clear n0_ n1_; (try clear hb); (try clear hb2); (try clear hk); (try clear hi); (try clear ho0)))
    (try simp only [Act.put, List.setIfInBounds_toArray, List.set_cons_zero, List.set_cons_succ])
    go_cut [47] (fun v47 wc => ∃ (kq : Nat) (x47_6 : Bool), v47 = .bool x47_6 ∧ Aside0 (libevolutionlaw15_MaskBits.j0 kq l0 t143 x47_6 = some r) ∧ Aside0 (kq ≤ k) ∧ Aside0 (Kd.R (Kd.int .i64) 3 wc w.heap.size (fun _ => True) v145 t143) ∧ Aside0 (Below w.heap.size w wc))
    case first =>
      have H := HC7.out
      clear HC7
      replace H := Option.bind_eq_some_iff.mp H
      obtain ⟨t147, A90, H⟩ := H
      replace H : (if (t144 != (decide (t147 ≥ (wrap64 (a1))))) = true then (libevolutionlaw15_MaskBits.j0 k l0 t143 true) else (if t144 = true then (if (t143.length : Int) = (wrap64 (a1)) then (libevolutionlaw15_MaskBits.j0 k l0 t143 false) else (libevolutionlaw15_MaskBits.j0 k l0 t143 true)) else (libevolutionlaw15_MaskBits.j0 k l0 t143 (decide ((t143.length : Int) > 0))))) = some r := H
      have A9 := Aside0.mk A90
      clear A90
      by_cases c10 : (t144 != (decide (t147 ≥ (wrap64 (a1))))) = true
      · rw [if_pos c10] at H
        have c10b0 : (t144 != (decide (t147 ≥ (wrap64 (a1))))) = true := c10
        (try (have c10b1 : decide (t144 = (decide (t147 ≥ (wrap64 (a1))))) = false := by simpa using c10))
        (try (have c10b2 : (t144 == (decide (t147 ≥ (wrap64 (a1))))) = false := by simpa using c10))
        (try (have c10b3 : ¬ (t144 = (decide (t147 ≥ (wrap64 (a1))))) := by simpa using c10))
        clear c10
        (first | rw [c10b0] | (simp only [i64_w, i32_w]; rw [c10b0]) | skip)
        have H' := Aside0.mk H
        clear H
        go_wp2_with (first | ((with_reducible refine gate_callee (f := 45) rfl ?_); refine goesL_ (some 26) rfl rfl Try.func45 (by kernel_rfl) rfl #[.slice A0 l0.length c0] rfl (by (try simp only [List.map_toArray, List.map_cons, List.map_nil]); first | done | rfl | (simp only [List.length_drop, List.length_take]; rfl)) ?_; (with_reducible refine (mask_Count.calls k _ _ l0 t147 _ ?side1 ?side2 A9.out).mono ?_); (case side1 => repeat (first | exact (Kd.C_below HR0.out HB.out) | (with_reducible refine Kd.C_alloc ?_ _) | (with_reducible refine Kd.C_drewN ?_ _) | (with_reducible refine Kd.C_drew ?_))); (case side2 => exact HC0.out); rintro e w' ⟨rfl, ⟨nd, rfl⟩⟩; refine ⟨_, rfl, ?_⟩))
        go_meet
        case rel => exact ⟨_, (true), (by first | rfl | (simp; done) | (simp [*]; done)), H', ⟨by first | omega | exact Nat.le_refl _⟩, ⟨by (with_reducible repeat (first | apply Kd.R_alloc | apply Kd.R_drewN | apply Kd.R_drew)); exact HO146.out⟩, ⟨by repeat (first | (with_reducible first | exact HB.out | apply below_alloc | apply pw_below_drewN | apply below_drew1) | exact HB.out)⟩⟩
      · rw [if_neg c10] at H
        have c10b0 : (t144 != (decide (t147 ≥ (wrap64 (a1))))) = false := by simpa using c10
        (try (have c10b1 : decide (t144 = (decide (t147 ≥ (wrap64 (a1))))) = true := by simpa using c10))
        (try (have c10b2 : (t144 == (decide (t147 ≥ (wrap64 (a1))))) = true := by simpa using c10))
        clear c10
        (first | rw [c10b0] | (simp only [i64_w, i32_w]; rw [c10b0]) | skip)
        by_cases c11 : t144 = true
        · subst c11
          have H1 : (if (t143.length : Int) = (wrap64 (a1)) then (libevolutionlaw15_MaskBits.j0 k l0 t143 false) else (libevolutionlaw15_MaskBits.j0 k l0 t143 true)) = some r := by rw [if_pos rfl] at H; exact H
          clear H
          have H := H1
          clear H1
          by_cases c12 : (t143.length : Int) = (wrap64 (a1))
          · rw [if_pos c12] at H
            have c12b0 : ((t143.length : Int) == (wrap64 (a1))) = true := beq_iff_eq.mpr c12
            have c12b1 : ((t143.length : Int) != (wrap64 (a1))) = false := bne_eq_false_iff_eq.mpr c12
            clear c12
            have H' := Aside0.mk H
            clear H
            go_wp2_with (first | ((with_reducible refine gate_callee (f := 45) rfl ?_); refine goesL_ (some 26) rfl rfl Try.func45 (by kernel_rfl) rfl #[.slice A0 l0.length c0] rfl (by (try simp only [List.map_toArray, List.map_cons, List.map_nil]); first | done | rfl | (simp only [List.length_drop, List.length_take]; rfl)) ?_; (with_reducible refine (mask_Count.calls k _ _ l0 t147 _ ?side1 ?side2 A9.out).mono ?_); (case side1 => repeat (first | exact (Kd.C_below HR0.out HB.out) | (with_reducible refine Kd.C_alloc ?_ _) | (with_reducible refine Kd.C_drewN ?_ _) | (with_reducible refine Kd.C_drew ?_))); (case side2 => exact HC0.out); rintro e w' ⟨rfl, ⟨nd, rfl⟩⟩; refine ⟨_, rfl, ?_⟩; obtain ⟨Ao13, co13, eo13⟩ := Kd.R_slice HO146.out; subst eo13))
            go_meet
            case rel => exact ⟨_, (false), (by first | rfl | (simp; done) | (simp [*]; done)), H', ⟨by first | omega | exact Nat.le_refl _⟩, ⟨by (with_reducible repeat (first | apply Kd.R_alloc | apply Kd.R_drewN | apply Kd.R_drew)); exact HO146.out⟩, ⟨by repeat (first | (with_reducible first | exact HB.out | apply below_alloc | apply pw_below_drewN | apply below_drew1) | exact HB.out)⟩⟩
          · rw [if_neg c12] at H
            have c12b0 : ((t143.length : Int) == (wrap64 (a1))) = false := beq_eq_false_iff_ne.mpr c12
            have c12b1 : ((t143.length : Int) != (wrap64 (a1))) = true := bne_iff_ne.mpr c12
            have H' := Aside0.mk H
            clear H
            go_wp2_with (first | ((with_reducible refine gate_callee (f := 45) rfl ?_); refine goesL_ (some 26) rfl rfl Try.func45 (by kernel_rfl) rfl #[.slice A0 l0.length c0] rfl (by (try simp only [List.map_toArray, List.map_cons, List.map_nil]); first | done | rfl | (simp only [List.length_drop, List.length_take]; rfl)) ?_; (with_reducible refine (mask_Count.calls k _ _ l0 t147 _ ?side1 ?side2 A9.out).mono ?_); (case side1 => repeat (first | exact (Kd.C_below HR0.out HB.out) | (with_reducible refine Kd.C_alloc ?_ _) | (with_reducible refine Kd.C_drewN ?_ _) | (with_reducible refine Kd.C_drew ?_))); (case side2 => exact HC0.out); rintro e w' ⟨rfl, ⟨nd, rfl⟩⟩; refine ⟨_, rfl, ?_⟩; obtain ⟨Ao14, co14, eo14⟩ := Kd.R_slice HO146.out; subst eo14))
            go_meet
            case rel => exact ⟨_, (true), (by first | rfl | (simp; done) | (simp [*]; done)), H', ⟨by first | omega | exact Nat.le_refl _⟩, ⟨by (with_reducible repeat (first | apply Kd.R_alloc | apply Kd.R_drewN | apply Kd.R_drew)); exact HO146.out⟩, ⟨by repeat (first | (with_reducible first | exact HB.out | apply below_alloc | apply pw_below_drewN | apply below_drew1) | exact HB.out)⟩⟩
        · replace c11 := Bool.eq_false_iff.mpr c11
          subst c11
          have H1 : (libevolutionlaw15_MaskBits.j0 k l0 t143 (decide ((t143.length : Int) > 0))) = some r := by rw [if_neg (show ¬ (false = true) by decide)] at H; exact H
          clear H
          have H := H1
          clear H1
          have H' := Aside0.mk H
          clear H
          go_wp2_with (first | ((with_reducible refine gate_callee (f := 45) rfl ?_); refine goesL_ (some 26) rfl rfl Try.func45 (by kernel_rfl) rfl #[.slice A0 l0.length c0] rfl (by (try simp only [List.map_toArray, List.map_cons, List.map_nil]); first | done | rfl | (simp only [List.length_drop, List.length_take]; rfl)) ?_; (with_reducible refine (mask_Count.calls k _ _ l0 t147 _ ?side1 ?side2 A9.out).mono ?_); (case side1 => repeat (first | exact (Kd.C_below HR0.out HB.out) | (with_reducible refine Kd.C_alloc ?_ _) | (with_reducible refine Kd.C_drewN ?_ _) | (with_reducible refine Kd.C_drew ?_))); (case side2 => exact HC0.out); rintro e w' ⟨rfl, ⟨nd, rfl⟩⟩; refine ⟨_, rfl, ?_⟩; obtain ⟨Ao15, co15, eo15⟩ := Kd.R_slice HO146.out; subst eo15))
          go_meet
          case rel => exact ⟨_, (decide ((t143.length : Int) > 0)), (by first | rfl | (simp; done) | (simp [*]; done)), H', ⟨by first | omega | exact Nat.le_refl _⟩, ⟨by (with_reducible repeat (first | apply Kd.R_alloc | apply Kd.R_drewN | apply Kd.R_drew)); exact HO146.out⟩, ⟨by repeat (first | (with_reducible first | exact HB.out | apply below_alloc | apply pw_below_drewN | apply below_drew1) | exact HB.out)⟩⟩
    case rest =>
      clear HC7
      try clear c1
      try clear p2
      try clear c3
      try clear c3b0
      try clear c3b1
      try clear c4
      try clear p6
      try clear c8
      try clear c10
      try clear c10b0
      try clear c10b1
      try clear c10b2
      try clear c11
      try clear c12
      try clear c12b0
      try clear c12b1
      obtain ⟨kq, x47_6, rfl, HA, HJ6, HO_6, HB⟩ := hcut
      cases kq with
      | zero => exact absurd HA.out (by simp [libevolutionlaw15_MaskBits.j0])
      | succ kj6 =>
        have H := HA.out
        clear HA
        simp only [libevolutionlaw15_MaskBits.j0] at H
        by_cases c16 : x47_6 = true
        · subst c16
          have H1 : (some false) = some r := by rw [if_pos rfl] at H; exact H
          clear H
          have H := H1
          clear H1
          obtain rfl := Option.some.inj H
          go_wp2
          go_ret
          exact ⟨by first | rfl | (simp [errW_none, errW_some] <;> rfl) | (simp [*, errW_none, errW_some] <;> rfl), by repeat (first | (with_reducible first | exact HB.out | apply below_alloc | apply pw_below_drewN | apply below_drew1) | exact HB.out)⟩
        · replace c16 := Bool.eq_false_iff.mpr c16
          subst c16
          have H1 : (libevolutionlaw15_MaskBits.l0 kj6 l0 (-1) t143 (t143.length : Int) 0) = some r := by rw [if_neg (show ¬ (false = true) by decide)] at H; exact H
          clear H
          have H := H1
          clear H1
          have H' := Aside0.mk H
          clear H
          obtain ⟨Ao17, co17, eo17⟩ := Kd.R_slice HO_6.out
          subst eo17
          go_wp2
          go_loopg [8, 50] kj6 (fun kq v8 v50 w' => ∃ (x8_2 : Int) (x50_2 : Int), v8 = .int .i64 x8_2 ∧ v50 = .int .i64 x50_2 ∧ Aside0 (libevolutionlaw15_MaskBits.l0 kq l0 x8_2 t143 (t143.length : Int) x50_2 = some r) ∧ Aside0 (kq ≤ kj6) ∧ Aside0 (Kd.R (Kd.int .i64) 3 w' w.heap.size (fun _ => True) (.slice Ao17 t143.length co17) t143) ∧ Aside0 (Below w.heap.size w w'))
          case atStart => exact ⟨((-1)), (0), (by first | rfl | (simp; done) | (simp [*]; done)), (by first | rfl | (simp; done) | (simp [*]; done)), H', ⟨Nat.le_refl _⟩, ⟨by (with_reducible repeat (first | apply Kd.R_alloc | apply Kd.R_drewN | apply Kd.R_drew)); exact HO_6.out⟩, ⟨by repeat (first | (with_reducible first | exact HB.out | apply below_alloc | apply pw_below_drewN | apply below_drew1) | exact HB.out)⟩⟩
          case round =>
            clear H'
            try clear c1
            try clear p2
            try clear c3
            try clear c3b0
            try clear c3b1
            try clear c4
            try clear p6
            try clear c8
            try clear c10
            try clear c10b0
            try clear c10b1
            try clear c10b2
            try clear c11
            try clear c12
            try clear c12b0
            try clear c12b1
            try clear c16
            try clear p2
            try clear p6
            obtain ⟨x8_2, x50_2, rfl, rfl, HA, HK2, HO_48, HB⟩ := hrel
            cases gk with
            | zero => exact absurd HA.out (by simp [libevolutionlaw15_MaskBits.l0])
            | succ k2 =>
              have H := HA.out
              clear HA
              simp only [libevolutionlaw15_MaskBits.l0] at H
              by_cases c18 : x50_2 < (t143.length : Int)
              · rw [if_pos c18] at H
                have c18b0 : decide (x50_2 < (t143.length : Int)) = true := decide_eq_true c18
                clear c18
                by_cases c19 : 0 ≤ x50_2
                · rw [if_pos c19] at H
                  have c19b0 : decide (0 ≤ x50_2) = true := decide_eq_true c19
                  clear c19
                  by_cases c20 : x50_2 < (t143.length : Int)
                  · rw [if_pos c20] at H
                    have c20b0 : decide (x50_2 < (t143.length : Int)) = true := decide_eq_true c20
                    clear c20
                    have H' := Aside0.mk H
                    clear H
                    have p149 : 0 ≤ (x50_2 : Int) := od_
                    have q149 : x50_2 < (t143.length : Int) := od_
                    obtain ⟨ad149, e149, hx149_0⟩ := Kd.at_int (Kd.R_reads' HO_48.out).2.2 x50_2 p149 q149
                    cases e149
                    replace p149 := eq_true p149
                    replace q149 := eq_true q149
                    go_wp2
                    go_loopg [11] k2 (fun kq v11 w' => ∃ (x11_3 : Int), v11 = .int .i64 x11_3 ∧ Aside0 (libevolutionlaw15_MaskBits.l1 kq l0 x8_2 (rd t143 x50_2) x11_3 t143 (t143.length : Int) x50_2 = some r) ∧ Aside0 (kq ≤ k2) ∧ Aside0 (Kd.R (Kd.int .i64) 3 w' w.heap.size (fun _ => True) (.slice (some ad149) t143.length co17) t143) ∧ Aside0 (Below w.heap.size w w'))
                    case atStart => exact ⟨(wrap64 (x8_2 + 1)), (by first | rfl | (simp; done) | (simp [*]; done)), H', ⟨Nat.le_refl _⟩, ⟨by (with_reducible repeat (first | apply Kd.R_alloc | apply Kd.R_drewN | apply Kd.R_drew)); exact HO_48.out⟩, ⟨by repeat (first | (with_reducible first | exact HB.out | apply below_alloc | apply pw_below_drewN | apply below_drew1) | exact HB.out)⟩⟩
                    case round =>
                      clear H'
                      try clear c1
                      try clear p1
                      try clear q1
                      try clear hx1
                      try clear c2
                      try clear p2
                      try clear c3
                      try clear c3b0
                      try clear c3b1
                      try clear c4
                      try clear p6
                      try clear c8
                      try clear c10
                      try clear c10b0
                      try clear c10b1
                      try clear c10b2
                      try clear c11
                      try clear c12
                      try clear c12b0
                      try clear c12b1
                      try clear p14
                      try clear q14
                      try clear hx14
                      try clear c16
                      try clear c18
                      try clear c18b0
                      try clear c19
                      try clear c19b0
                      try clear c20
                      try clear c20b0
                      try clear hx149_0
                      try clear p149
                      try clear p2
                      try clear p6
                      try clear q149
                      obtain ⟨x11_3, rfl, HA, HK3, HO_48, HB⟩ := hrel
                      cases gk with
                      | zero => exact absurd HA.out (by simp [libevolutionlaw15_MaskBits.l1])
                      | succ k3 =>
                        have H := HA.out
                        clear HA
                        simp only [libevolutionlaw15_MaskBits.l1] at H
                        by_cases c21 : x11_3 < (rd t143 x50_2)
                        · rw [if_pos c21] at H
                          have c21b0 : decide (x11_3 < (rd t143 x50_2)) = true := decide_eq_true c21
                          clear c21
                          obtain ⟨ji22, hji22⟩ : ∃ j_ : Int, (wrap64 (Int.tdiv x11_3 8)) = j_ := ⟨_, rfl⟩
                          replace H : (if 0 ≤ (ji22) then (if (ji22) < (l0.length : Int) then (if 0 ≤ (IntKind.u64.wrap (Int.tmod x11_3 8)) then (if (Go.bits .and .u8 (shr .u8 (rd l0 (ji22)) (IntKind.u64.wrap (Int.tmod x11_3 8))) 1) = 1 then (some false) else (libevolutionlaw15_MaskBits.l1 k3 l0 x8_2 (rd t143 x50_2) (wrap64 (x11_3 + 1)) t143 (t143.length : Int) x50_2)) else (none)) else (none)) else (none)) = some r := by first | (rw [hji22] at H; exact H) | (simp only [hji22] at H ⊢; exact H)
                          have hji22w : (IntKind.i64.wrap (Int.tdiv x11_3 8)) = ji22 := (i64_w _).trans hji22
                          by_cases c23 : 0 ≤ (ji22)
                          · rw [if_pos c23] at H
                            have c23b0 : decide (0 ≤ (ji22)) = true := decide_eq_true c23
                            clear c23
                            by_cases c24 : (ji22) < (l0.length : Int)
                            · rw [if_pos c24] at H
                              have c24b0 : decide ((ji22) < (l0.length : Int)) = true := decide_eq_true c24
                              clear c24
                              obtain ⟨ji25, hji25⟩ : ∃ j_ : Int, (IntKind.u64.wrap (Int.tmod x11_3 8)) = j_ := ⟨_, rfl⟩
                              replace H : (if 0 ≤ (ji25) then (if (Go.bits .and .u8 (shr .u8 (rd l0 (ji22)) (ji25)) 1) = 1 then (some false) else (libevolutionlaw15_MaskBits.l1 k3 l0 x8_2 (rd t143 x50_2) (wrap64 (x11_3 + 1)) t143 (t143.length : Int) x50_2)) else (none)) = some r := by first | (rw [hji25] at H; exact H) | (simp only [hji25] at H ⊢; exact H)
                              by_cases c26 : 0 ≤ (ji25)
                              · rw [if_pos c26] at H
                                have c26b0 := eq_true c26
                                have c26b1 : decide (0 ≤ (ji25)) = true := decide_eq_true c26
                                clear c26
                                obtain ⟨ji27, hji27⟩ : ∃ j_ : Int, (shr .u8 (rd l0 (ji22)) (ji25)) = j_ := ⟨_, rfl⟩
                                replace H : (if (Go.bits .and .u8 (ji27) 1) = 1 then (some false) else (libevolutionlaw15_MaskBits.l1 k3 l0 x8_2 (rd t143 x50_2) (wrap64 (x11_3 + 1)) t143 (t143.length : Int) x50_2)) = some r := by first | (rw [hji27] at H; exact H) | (simp only [hji27] at H ⊢; exact H)
                                have hji27_ : ((rd l0 (ji22)) / 2 ^ min (ji25).toNat 8) = ji27 := hji27
                                have hji27z : (ji25) ≤ 8 → ((rd l0 (ji22)) / 2 ^ (ji25).toNat) = ji27 := shr_small hji27
                                by_cases c28 : (Go.bits .and .u8 (ji27) 1) = 1
                                · rw [if_pos c28] at H
                                  have c28b0 : ((Go.bits .and .u8 (ji27) 1) == 1) = true := beq_iff_eq.mpr c28
                                  have c28b1 : ((Go.bits .and .u8 (ji27) 1) != 1) = false := bne_eq_false_iff_eq.mpr c28
                                  clear c28
                                  obtain rfl := Option.some.inj H
                                  have p150 : 0 ≤ ((ji22) : Int) := od_
                                  have q150 : (ji22) < (l0.length : Int) := od_
                                  obtain ⟨ad150, e150, hx150_0⟩ := Kd.at_int HR0.out (ji22) p150 q150
                                  cases e150
                                  replace hx150_0 := (HB.out.cell (World.block_lt_of_cell? w _ hx150_0)).trans hx150_0
                                  replace p150 := eq_true p150
                                  replace q150 := eq_true q150
                                  go_wp2
                                  go_ret
                                  exact ⟨by first | rfl | (simp [errW_none, errW_some] <;> rfl) | (simp only [← hji22, ← hji25, ← hji27]; first | rfl | (simp [errW_none, errW_some] <;> rfl)) | (simp [*, errW_none, errW_some] <;> rfl), by repeat (first | (with_reducible first | exact HB.out | apply below_alloc | apply pw_below_drewN | apply below_drew1) | exact HB.out)⟩
                                · rw [if_neg c28] at H
                                  have c28b0 : ((Go.bits .and .u8 (ji27) 1) == 1) = false := beq_eq_false_iff_ne.mpr c28
                                  have c28b1 : ((Go.bits .and .u8 (ji27) 1) != 1) = true := bne_iff_ne.mpr c28
                                  have H' := Aside0.mk H
                                  clear H
                                  have p150 : 0 ≤ ((ji22) : Int) := od_
                                  have q150 : (ji22) < (l0.length : Int) := od_
                                  obtain ⟨ad150, e150, hx150_0⟩ := Kd.at_int HR0.out (ji22) p150 q150
                                  cases e150
                                  replace hx150_0 := (HB.out.cell (World.block_lt_of_cell? w _ hx150_0)).trans hx150_0
                                  replace p150 := eq_true p150
                                  replace q150 := eq_true q150
                                  go_wp2
                                  go_roundg k3
                                  case measure => have := HJ6.out; have := HK2.out; have := HK3.out; omega
                                  case rel => exact ⟨(wrap64 (x11_3 + 1)), (by first | rfl | (simp; done) | (simp [*]; done)), H', ⟨by have := HJ6.out; have := HK2.out; have := HK3.out; omega⟩, ⟨by (with_reducible repeat (first | apply Kd.R_alloc | apply Kd.R_drewN | apply Kd.R_drew)); exact HO_48.out⟩, ⟨by repeat (first | (with_reducible first | exact HB.out | apply below_alloc | apply pw_below_drewN | apply below_drew1) | exact HB.out)⟩⟩
                              · rw [if_neg c26] at H
                                exact absurd H (by simp)
                            · rw [if_neg c24] at H
                              exact absurd H (by simp)
                          · rw [if_neg c23] at H
                            exact absurd H (by simp)
                        · rw [if_neg c21] at H
                          have c21b0 : decide (x11_3 < (rd t143 x50_2)) = false := decide_eq_false c21
                          clear c21
                          by_cases c29 : (rd t143 x50_2) ≤ x8_2
                          · rw [if_pos c29] at H
                            have c29b0 : decide ((rd t143 x50_2) ≤ x8_2) = true := decide_eq_true c29
                            clear c29
                            obtain rfl := Option.some.inj H
                            go_wp2
                            go_ret
                            exact ⟨by first | rfl | (simp [errW_none, errW_some] <;> rfl) | (simp [*, errW_none, errW_some] <;> rfl), by repeat (first | (with_reducible first | exact HB.out | apply below_alloc | apply pw_below_drewN | apply below_drew1) | exact HB.out)⟩
                          · rw [if_neg c29] at H
                            have c29b0 : decide ((rd t143 x50_2) ≤ x8_2) = false := decide_eq_false c29
                            clear c29
                            by_cases c30 : (rd t143 x50_2) ≥ (wrap64 (8 * (l0.length : Int)))
                            · rw [if_pos c30] at H
                              have c30b0 : decide ((wrap64 (8 * (l0.length : Int))) ≤ (rd t143 x50_2)) = true := decide_eq_true c30
                              clear c30
                              obtain rfl := Option.some.inj H
                              go_wp2
                              go_ret
                              exact ⟨by first | rfl | (simp [errW_none, errW_some] <;> rfl) | (simp [*, errW_none, errW_some] <;> rfl), by repeat (first | (with_reducible first | exact HB.out | apply below_alloc | apply pw_below_drewN | apply below_drew1) | exact HB.out)⟩
                            · rw [if_neg c30] at H
                              have c30b0 : decide ((wrap64 (8 * (l0.length : Int))) ≤ (rd t143 x50_2)) = false := decide_eq_false c30
                              clear c30
                              obtain ⟨ji31, hji31⟩ : ∃ j_ : Int, (wrap64 (Int.tdiv (rd t143 x50_2) 8)) = j_ := ⟨_, rfl⟩
                              replace H : (if 0 ≤ (ji31) then (if (ji31) < (l0.length : Int) then (if 0 ≤ (IntKind.u64.wrap (Int.tmod (rd t143 x50_2) 8)) then (if (Go.bits .and .u8 (shr .u8 (rd l0 (ji31)) (IntKind.u64.wrap (Int.tmod (rd t143 x50_2) 8))) 1) = 0 then (some false) else (libevolutionlaw15_MaskBits.l0 k3 l0 (rd t143 x50_2) t143 (t143.length : Int) (wrap64 (x50_2 + 1)))) else (none)) else (none)) else (none)) = some r := by first | (rw [hji31] at H; exact H) | (simp only [hji31] at H ⊢; exact H)
                              have hji31w : (IntKind.i64.wrap (Int.tdiv (rd t143 x50_2) 8)) = ji31 := (i64_w _).trans hji31
                              by_cases c32 : 0 ≤ (ji31)
                              · rw [if_pos c32] at H
                                have c32b0 : decide (0 ≤ (ji31)) = true := decide_eq_true c32
                                clear c32
                                by_cases c33 : (ji31) < (l0.length : Int)
                                · rw [if_pos c33] at H
                                  have c33b0 : decide ((ji31) < (l0.length : Int)) = true := decide_eq_true c33
                                  clear c33
                                  obtain ⟨ji34, hji34⟩ : ∃ j_ : Int, (IntKind.u64.wrap (Int.tmod (rd t143 x50_2) 8)) = j_ := ⟨_, rfl⟩
                                  replace H : (if 0 ≤ (ji34) then (if (Go.bits .and .u8 (shr .u8 (rd l0 (ji31)) (ji34)) 1) = 0 then (some false) else (libevolutionlaw15_MaskBits.l0 k3 l0 (rd t143 x50_2) t143 (t143.length : Int) (wrap64 (x50_2 + 1)))) else (none)) = some r := by first | (rw [hji34] at H; exact H) | (simp only [hji34] at H ⊢; exact H)
                                  by_cases c35 : 0 ≤ (ji34)
                                  · rw [if_pos c35] at H
                                    have c35b0 := eq_true c35
                                    have c35b1 : decide (0 ≤ (ji34)) = true := decide_eq_true c35
                                    clear c35
                                    obtain ⟨ji36, hji36⟩ : ∃ j_ : Int, (shr .u8 (rd l0 (ji31)) (ji34)) = j_ := ⟨_, rfl⟩
                                    replace H : (if (Go.bits .and .u8 (ji36) 1) = 0 then (some false) else (libevolutionlaw15_MaskBits.l0 k3 l0 (rd t143 x50_2) t143 (t143.length : Int) (wrap64 (x50_2 + 1)))) = some r := by first | (rw [hji36] at H; exact H) | (simp only [hji36] at H ⊢; exact H)
                                    have hji36_ : ((rd l0 (ji31)) / 2 ^ min (ji34).toNat 8) = ji36 := hji36
                                    have hji36z : (ji34) ≤ 8 → ((rd l0 (ji31)) / 2 ^ (ji34).toNat) = ji36 := shr_small hji36
                                    by_cases c37 : (Go.bits .and .u8 (ji36) 1) = 0
                                    · rw [if_pos c37] at H
                                      have c37b0 : ((Go.bits .and .u8 (ji36) 1) == 0) = true := beq_iff_eq.mpr c37
                                      have c37b1 : ((Go.bits .and .u8 (ji36) 1) != 0) = false := bne_eq_false_iff_eq.mpr c37
                                      clear c37
                                      obtain rfl := Option.some.inj H
                                      have p151 : 0 ≤ ((ji31) : Int) := od_
                                      have q151 : (ji31) < (l0.length : Int) := od_
                                      obtain ⟨ad151, e151, hx151_0⟩ := Kd.at_int HR0.out (ji31) p151 q151
                                      cases e151
                                      replace hx151_0 := (HB.out.cell (World.block_lt_of_cell? w _ hx151_0)).trans hx151_0
                                      replace p151 := eq_true p151
                                      replace q151 := eq_true q151
                                      go_wp2
                                      go_ret
                                      exact ⟨by first | rfl | (simp [errW_none, errW_some] <;> rfl) | (simp only [← hji31, ← hji34, ← hji36]; first | rfl | (simp [errW_none, errW_some] <;> rfl)) | (simp [*, errW_none, errW_some] <;> rfl), by repeat (first | (with_reducible first | exact HB.out | apply below_alloc | apply pw_below_drewN | apply below_drew1) | exact HB.out)⟩
                                    · rw [if_neg c37] at H
                                      have c37b0 : ((Go.bits .and .u8 (ji36) 1) == 0) = false := beq_eq_false_iff_ne.mpr c37
                                      have c37b1 : ((Go.bits .and .u8 (ji36) 1) != 0) = true := bne_iff_ne.mpr c37
                                      have H' := Aside0.mk H
                                      clear H
                                      have p151 : 0 ≤ ((ji31) : Int) := od_
                                      have q151 : (ji31) < (l0.length : Int) := od_
                                      obtain ⟨ad151, e151, hx151_0⟩ := Kd.at_int HR0.out (ji31) p151 q151
                                      cases e151
                                      replace hx151_0 := (HB.out.cell (World.block_lt_of_cell? w _ hx151_0)).trans hx151_0
                                      replace p151 := eq_true p151
                                      replace q151 := eq_true q151
                                      go_wp2
                                      go_roundg k3
                                      case measure => have := HJ6.out; have := HK2.out; have := HK3.out; omega
                                      case rel => exact ⟨((rd t143 x50_2)), (wrap64 (x50_2 + 1)), (by first | rfl | (simp; done) | (simp [*]; done)), (by first | rfl | (simp; done) | (simp [*]; done)), H', ⟨by have := HJ6.out; have := HK2.out; have := HK3.out; omega⟩, ⟨by (with_reducible repeat (first | apply Kd.R_alloc | apply Kd.R_drewN | apply Kd.R_drew)); exact HO_48.out⟩, ⟨by repeat (first | (with_reducible first | exact HB.out | apply below_alloc | apply pw_below_drewN | apply below_drew1) | exact HB.out)⟩⟩
                                  · rw [if_neg c35] at H
                                    exact absurd H (by simp)
                                · rw [if_neg c33] at H
                                  exact absurd H (by simp)
                              · rw [if_neg c32] at H
                                exact absurd H (by simp)
                  · rw [if_neg c20] at H
                    exact absurd H (by simp)
                · rw [if_neg c19] at H
                  exact absurd H (by simp)
              · rw [if_neg c18] at H
                have c18b0 : decide (x50_2 < (t143.length : Int)) = false := decide_eq_false c18
                clear c18
                replace H := Option.bind_eq_some_iff.mp H
                obtain ⟨t148, A380, H⟩ := H
                replace H : (some t148) = some r := H
                have A38 := Aside0.mk A380
                clear A380
                obtain rfl := Option.some.inj H
                go_wp2_with (first | ((with_reducible refine gate_callee (f := 43) rfl ?_); refine goesL_ (some 97) rfl rfl Try.func43 (by kernel_rfl) rfl #[] rfl (by (try simp only [List.map_toArray, List.map_cons, List.map_nil]); first | done | rfl | (simp only [List.length_drop, List.length_take]; rfl)) ?_; (with_reducible refine (libevolutionlaw15_awake.calls k2  t148 _ A38.out).mono ?_); rintro e w39 ⟨rfl, hb⟩; refine ⟨_, rfl, ?_⟩; have n0_ := Aside0.mk (Kd.R_below (kR_ HO_48.out) hb); have n1_ := Aside0.mk (below_step (hb0_ HB.out) hb); clear HO_48 HB; have HO_48 := n0_; have HB := n1_; clear n0_ n1_; (try clear hb); (try clear hb2); (try clear hk); (try clear hi)))
                go_ret
                exact ⟨by first | rfl | (simp [errW_none, errW_some] <;> rfl) | (simp [*, errW_none, errW_some] <;> rfl), by repeat (first | (with_reducible first | exact HB.out | apply below_alloc | apply pw_below_drewN | apply below_drew1) | exact HB.out)⟩

/-- THE ONE PURE STATEMENT of libevolutionlaw15_MaskBits: yours. -/
def libevolutionlaw15_MaskBits.Pure : Prop := ∀ (l0 : List Int) (a1 : Int), l0.length ≤ maxLen → l0.length * 1 ≤ 140737488351232 → (∀ x ∈ l0, (Lit.int .u8 x).wf = true) → (Lit.int .u8 a1).wf = true → ∃ k, libevolutionlaw15_MaskBits.f k l0 a1 = some true
theorem libevolutionlaw15_MaskBits.walk (P : libevolutionlaw15_MaskBits.Pure) (a0 : Option Addr) (len0 cap0 : Nat) (z0 : List Int) (a1 : Int) (w : World) (w0 : (a0 = none ∧ len0 = 0 ∧ cap0 = 0 ∧ z0 = []) ∨ ∃ x, a0 = some x ∧ len0 ≤ cap0 ∧ cap0 ≤ maxLen ∧ z0.length = cap0 ∧ (∀ i, i < z0.length → w.cell? (x.add i) = some (.int .u8 (z0.getD i 0))) ∧ ∀ n ∈ z0, (Lit.int .u8 n).wf = true) (y0 : len0 * 1 ≤ 140737488351232) (w1 : (Lit.int .u8 a1).wf = true) :
    Calls Try.prog 8 #[.slice a0 len0 cap0, .int .u8 a1] w fun e w' => e = .returned (.bool true) ∧ Below w.heap.size w w' := by
  obtain ⟨l0, rfl, hr0, hm0, hw0, hc0⟩ := ReadsInt.ofRowC w0
  obtain ⟨k, h⟩ := P l0 a1 hm0 y0 hw0 w1
  refine (libevolutionlaw15_MaskBits.calls k _ _ l0 a1 true w (Kd.C_of_reads (d := (0 : Int)) (h1 := fun _ => rfl) hr0) hc0 h).mono ?_
  rintro e w' ⟨rfl, hd⟩
  exact ⟨rfl, hd⟩

end Go.Proofs.Ytpcephbhnbfcmaa.A
