-- Written by this session's program fork.py: a Lean function for each Go function and its walk. Not trusted: Lean checks it.
import Derived.Test.YtpcephbhnbfcmaaM0
import Derived.Test.YtpcephbhnbfcmaaM1
namespace Go.Proofs.Ytpcephbhnbfcmaa.M
open Go.RowKit Go.Proofs.YtpcephbhnbfcmaaW.PrintWords Go.Proofs.YtpcephbhnbfcmaaW.PrintLast Go.Proofs.YtpcephbhnbfcmaaW.PrintMore
attribute [local go_sem] max2_int min2_int max_two min_two max_three min_three max_four min_four   -- for this text's walks alone
set_option linter.unusedVariables false
set_option linter.unusedSimpArgs false

/-! ### law15_awake: function 43 -/
def law15_awake.f (k : Nat)  : Option (Bool) := (mask_Bits.f k (([1, 6] : List Int)) 2).bind fun bt130 => (if bt130.2 = true then (if (bt130.1.length : Int) = 2 then (if 0 < (bt130.1.length : Int) then (if (rd bt130.1 0) = 0 then (if 1 < (bt130.1.length : Int) then (if (rd bt130.1 1) = 9 then ((mask_Count.f k (([1, 6] : List Int))).bind fun t139 => (if t139 = 3 then ((mask_Put.f k (([0, 0] : List Int)) bt130.1 2).bind fun t143 => ((mask_Get.f k t143 bt130.1).bind fun t146 => (some (t146 == 2)))) else (some false))) else (some false)) else (none)) else (some false)) else (none)) else (some false)) else (some false))
theorem law15_awake.mono : ∀ k, LeO (law15_awake.f k ) (law15_awake.f (k + 1) ) := by
 intro  k; unfold law15_awake.f
 repeat' first
   | (with_reducible exact mask_Bits.mono _ _ _)
   | (with_reducible exact mask_Count.mono _ _)
   | (with_reducible exact mask_Get.mono _ _ _)
   | (with_reducible exact mask_Put.mono _ _ _ _)
   | (with_reducible exact LeO.refl _)
   | (with_reducible exact LeO.none _)
   | (with_reducible refine LeO.ite ?_ ?_)
   | (with_reducible refine LeO.bind ?_ (fun _ => ?_))
   | exact mask_Bits.mono _ _ _
   | exact mask_Count.mono _ _
   | exact mask_Get.mono _ _ _
   | exact mask_Put.mono _ _ _ _
   | exact LeO.none _
   | refine LeO.ite ?_ ?_
   | refine LeO.bind ?_ (fun _ => ?_)
set_option maxHeartbeats 8000000 in
set_option maxRecDepth 100000 in
theorem law15_awake.calls (k : Nat)  (r : Bool) (w : World) (h : law15_awake.f k  = some r) :
  Calls Try.prog 43 #[] w fun e w' => e = .returned (.bool r) ∧ Below w.heap.size w w' := by
 have HB := Aside0.mk (Below.refl w.heap.size w); have H : ((mask_Bits.f k (([1, 6] : List Int)) 2).bind fun bt130 => (if bt130.2 = true then (if (bt130.1.length : Int) = 2 then (if 0 < (bt130.1.length : Int) then (if (rd bt130.1 0) = 0 then (if 1 < (bt130.1.length : Int) then (if (rd bt130.1 1) = 9 then ((mask_Count.f k (([1, 6] : List Int))).bind fun t139 => (if t139 = 3 then ((mask_Put.f k (([0, 0] : List Int)) bt130.1 2).bind fun t143 => ((mask_Get.f k t143 bt130.1).bind fun t146 => (some (t146 == 2)))) else (some false))) else (some false)) else (none)) else (some false)) else (none)) else (some false)) else (some false))) = some r := h; clear h; obtain ⟨y127, hy127⟩ : ∃ y_ : List Int, y_ = (([1, 6] : List Int)) := ⟨_, rfl⟩; replace H : ((mask_Bits.f k y127 2).bind fun bt130 => (if bt130.2 = true then (if (bt130.1.length : Int) = 2 then (if 0 < (bt130.1.length : Int) then (if (rd bt130.1 0) = 0 then (if 1 < (bt130.1.length : Int) then (if (rd bt130.1 1) = 9 then ((mask_Count.f k (([1, 6] : List Int))).bind fun t139 => (if t139 = 3 then ((mask_Put.f k (([0, 0] : List Int)) bt130.1 2).bind fun t143 => ((mask_Get.f k t143 bt130.1).bind fun t146 => (some (t146 == 2)))) else (some false))) else (some false)) else (none)) else (some false)) else (none)) else (some false)) else (some false))) = some r := by first | (rw [hy127]; with_reducible exact H) | (have H2_ := (Option.bind_some _ _).symm.trans H; rw [hy127]; with_reducible exact H2_) | (have H2_ := (Option.bind_some _ _).symm.trans H; with_reducible exact H2_) | with_reducible exact H | (rw [hy127]; exact H) | exact H
 have Ny127 := Aside0.mk hy127; clear hy127; replace H := Option.bind_eq_some_iff.mp H; obtain ⟨⟨t130, t131⟩, A10, H⟩ := H; (try dsimp only at H); have A1 := Aside0.mk A10; clear A10; by_cases c2 : t131 = true
 ·
  subst c2; have H1 : (if (t130.length : Int) = 2 then (if 0 < (t130.length : Int) then (if (rd t130 0) = 0 then (if 1 < (t130.length : Int) then (if (rd t130 1) = 9 then ((mask_Count.f k (([1, 6] : List Int))).bind fun t139 => (if t139 = 3 then ((mask_Put.f k (([0, 0] : List Int)) t130 2).bind fun t143 => ((mask_Get.f k t143 t130).bind fun t146 => (some (t146 == 2)))) else (some false))) else (some false)) else (none)) else (some false)) else (none)) else (some false)) = some r := by rw [if_pos rfl] at H; exact H
  clear H; have H := H1; clear H1; by_cases c3 : (t130.length : Int) = 2
  ·
   rw [if_pos c3] at H; have c3b0 : ((t130.length : Int) == 2) = true := beq_iff_eq.mpr c3; have c3b1 : ((t130.length : Int) != 2) = false := bne_eq_false_iff_eq.mpr c3; clear c3; by_cases c4 : 0 < (t130.length : Int)
   rotate_left
   ·
    rw [if_neg c4] at H; exact absurd H (by simp)
   rw [if_pos c4] at H; have c4b0 : decide (0 < (t130.length : Int)) = true := decide_eq_true c4; have c4b1 : decide (0 < t130.length) = true := decide_eq_true (by omega); clear c4; by_cases c5 : (rd t130 0) = 0
   ·
    rw [if_pos c5] at H; have c5b0 : ((rd t130 0) == 0) = true := beq_iff_eq.mpr c5; have c5b1 : ((rd t130 0) != 0) = false := bne_eq_false_iff_eq.mpr c5; clear c5; by_cases c6 : 1 < (t130.length : Int)
    rotate_left
    ·
     rw [if_neg c6] at H; exact absurd H (by simp)
    rw [if_pos c6] at H; have c6b0 : decide (1 < (t130.length : Int)) = true := decide_eq_true c6; have c6b1 : decide (1 < t130.length) = true := decide_eq_true (by omega); clear c6; by_cases c7 : (rd t130 1) = 9
    ·
     rw [if_pos c7] at H; have c7b0 : ((rd t130 1) == 9) = true := beq_iff_eq.mpr c7; have c7b1 : ((rd t130 1) != 9) = false := bne_eq_false_iff_eq.mpr c7; clear c7; obtain ⟨y136, hy136⟩ : ∃ y_ : List Int, y_ = (([1, 6] : List Int)) := ⟨_, rfl⟩; replace H : ((mask_Count.f k y136).bind fun t139 => (if t139 = 3 then ((mask_Put.f k (([0, 0] : List Int)) t130 2).bind fun t143 => ((mask_Get.f k t143 t130).bind fun t146 => (some (t146 == 2)))) else (some false))) = some r := by first | (rw [hy136]; with_reducible exact H) | (have H2_ := (Option.bind_some _ _).symm.trans H; rw [hy136]; with_reducible exact H2_) | (have H2_ := (Option.bind_some _ _).symm.trans H; with_reducible exact H2_) | with_reducible exact H | (rw [hy136]; exact H) | exact H
     have Ny136 := Aside0.mk hy136; clear hy136; replace H := Option.bind_eq_some_iff.mp H; obtain ⟨t139, A80, H⟩ := H; (try dsimp only at H); have A8 := Aside0.mk A80; clear A80; by_cases c9 : t139 = 3
     ·
      rw [if_pos c9] at H; have c9b0 : (t139 == 3) = true := beq_iff_eq.mpr c9; have c9b1 : (t139 != 3) = false := bne_eq_false_iff_eq.mpr c9; clear c9; obtain ⟨y140, hy140⟩ : ∃ y_ : List Int, y_ = (([0, 0] : List Int)) := ⟨_, rfl⟩; replace H : ((mask_Put.f k y140 t130 2).bind fun t143 => ((mask_Get.f k t143 t130).bind fun t146 => (some (t146 == 2)))) = some r := by first | (rw [hy140]; with_reducible exact H) | (have H2_ := (Option.bind_some _ _).symm.trans H; rw [hy140]; with_reducible exact H2_) | (have H2_ := (Option.bind_some _ _).symm.trans H; with_reducible exact H2_) | with_reducible exact H | (rw [hy140]; exact H) | exact H
      have Ny140 := Aside0.mk hy140; clear hy140; replace H := Option.bind_eq_some_iff.mp H; obtain ⟨t143, A100, H⟩ := H; (try dsimp only at H); have A10 := Aside0.mk A100; clear A100; replace H := Option.bind_eq_some_iff.mp H; obtain ⟨t146, A110, H⟩ := H; (try dsimp only at H); have A11 := Aside0.mk A110; clear A110; obtain rfl := Option.some.inj H; go_enter Try.func43, Try.ntmps43
      go_wp2_with (first | ((with_reducible refine gate_dst (N := 4) rfl ?_); (try (refine gate_guard (by rfl) ?_; dsimp only)); refine Kd.R_lit (Kd.int .u8) _ 5 ?hg (N := 4) ?hd (xs := ([1, 6] : List Int)) (inner := [.int .u8 1, .int .u8 6]) (ok := fun _ => True) (okp := fun _ => True) ?hr ?hp (fun _ hk => hk) trivial (Below.refl _ _) (Nat.le_refl _) (by simp) ?_; (case hd => rfl); (case hg => rfl); (case hr => first | (go_simp; done) | (go_simp; rfl)); (case hp => exact (Reps.one (show Kd.M (Kd.int .u8) _ _ _ 1 [.int .u8 1] from rfl) (Reps.one (show Kd.M (Kd.int .u8) _ _ _ 6 [.int .u8 6] from rfl) (Reps.none _ _)))); intro v128 w12 ho13 hb hg_ hnew_; clear hg_ hnew_; (first | rw [← Ny127.out] at ho13 | (simp only [Int.reduceToNat] at ho13; rw [← Ny127.out] at ho13)); have n0_ := Aside0.mk (Kd.R_lower ho13 (below_size (hb0_ HB.out))); have n1_ := Aside0.mk (below_step (hb0_ HB.out) hb); clear HB; revert n0_ n1_; intro HO129 HB; clear hb ho13; obtain ⟨Ao14, co14, eo14⟩ := Kd.R_slice HO129.out; subst eo14) | ((with_reducible refine gate_callee (f := 44) rfl ?_); refine goesL_ (some 5) rfl rfl Try.func44 (by kernel_rfl) rfl #[.slice Ao14 y127.length co14, .int .i64 2] rfl lm_ ?_; (with_reducible refine (mask_Bits.calls k _ _ y127 2 t130 true _ ?side1 ?side2 A1.out).mono ?_); (case side1 => exact kD_ (Kd.R_reads' HO129.out).2.2); (case side2 => exact (Kd.R_reads' HO129.out).2.1); rintro e w15 ⟨v132, rfl, ho0, hb⟩; refine ⟨_, rfl, ?_⟩; have n0_ := Aside0.mk (Kd.R_below (kR_ HO129.out) hb); have n1_ := Aside0.mk (Kd.R_lower ho0 (below_size (hb0_ HB.out))); have n2_ := Aside0.mk (below_step (hb0_ HB.out) hb); clear HO129 HB; revert n0_ n1_ n2_; intro HO129 HO133 HB; (try clear hb); (try clear hb2); (try clear hk); (try clear hi); (try clear ho0); obtain ⟨Ao16, co16, eo16⟩ := Kd.R_slice HO133.out; subst eo16; have p134 : 0 ≤ (0 : Int) := (by omega); have q134 : 0 < (t130.length : Int) := od_; obtain ⟨ad134, e134, hx134_0⟩ := Kd.at_int (Kd.R_reads' HO133.out).2.2 0 p134 q134; cases e134; have qi134 : (0 < t130.length) = True := eq_true (by omega); (try rw [show ((0 : Int)).toNat = 0 from rfl] at hx134_0); (try rw [Addr.add_zero'] at hx134_0); replace p134 := eq_true p134; replace q134 := eq_true q134; have p135 : 0 ≤ (1 : Int) := (by omega); have q135 : 1 < (t130.length : Int) := od_; obtain ⟨ad135, e135, hx135_0⟩ := Kd.at_int (Kd.R_reads' HO133.out).2.2 1 p135 q135; obtain rfl : ad134 = ad135 := (by injection e135); (try simp only [show (1 : Int).toNat = 1 from rfl, Nat.reduceMul, Nat.reduceEqDiff, Go.Addr.add, ↓reduceIte] at hx135_0); have qi135 : (1 < t130.length) = True := eq_true (by omega); (try rw [show ((1 : Int)).toNat = 1 from rfl] at hx135_0); replace p135 := eq_true p135; replace q135 := eq_true q135) | ((with_reducible refine gate_dst (N := 27) rfl ?_); (try (refine gate_guard (by rfl) ?_; dsimp only)); refine Kd.R_lit (Kd.int .u8) _ 5 ?hg (N := 27) ?hd (xs := ([1, 6] : List Int)) (inner := [.int .u8 1, .int .u8 6]) (ok := fun _ => True) (okp := fun _ => True) ?hr ?hp (fun _ hk => hk) trivial (Below.refl _ _) (Nat.le_refl _) (by simp) ?_; (case hd => rfl); (case hg => rfl); (case hr => first | (go_simp; done) | (go_simp; rfl)); (case hp => exact (Reps.one (show Kd.M (Kd.int .u8) _ _ _ 1 [.int .u8 1] from rfl) (Reps.one (show Kd.M (Kd.int .u8) _ _ _ 6 [.int .u8 6] from rfl) (Reps.none _ _)))); intro v137 w17 ho18 hb hg_ hnew_; clear hg_ hnew_; (first | rw [← Ny136.out] at ho18 | (simp only [Int.reduceToNat] at ho18; rw [← Ny136.out] at ho18)); have n0_ := Aside0.mk (Kd.R_elder' (kR_ HO129.out) (Kd.R_base ho18) hb); have n1_ := Aside0.mk (Kd.R_below (kR_ HO133.out) hb); have n2_ := Aside0.mk (Kd.R_lower (Kd.R_new' ho18 (Kd.R_lt (kR_ HO129.out))) (below_size (hb0_ HB.out))); have n3_ := Aside0.mk (below_step (hb0_ HB.out) hb); clear HO129 HO133 HB; revert n0_ n1_ n2_ n3_; intro HO129 HO133 HO138 HB; clear hb ho18; obtain ⟨Ao19, co19, eo19⟩ := Kd.R_slice HO138.out; subst eo19) | (go_at_call 45; (with_reducible refine (mask_Count.calls k _ _ y136 t139 _ ?side1 ?side2 A8.out).mono ?_); (case side1 => exact kD_ (Kd.R_reads' HO138.out).2.2); (case side2 => exact (Kd.R_reads' HO138.out).2.1); rintro e w' ⟨rfl, ⟨nd, rfl⟩⟩) | ((with_reducible refine gate_dst (N := 32) rfl ?_); (try (refine gate_guard (by rfl) ?_; dsimp only)); refine Kd.R_lit (Kd.int .u8) _ 5 ?hg (N := 32) ?hd (xs := ([0, 0] : List Int)) (inner := [.int .u8 0, .int .u8 0]) (ok := fun _ => True) (okp := fun _ => True) ?hr ?hp (fun _ hk => hk) trivial (Below.refl _ _) (Nat.le_refl _) (by simp) ?_; (case hd => rfl); (case hg => rfl); (case hr => first | (go_simp; done) | (go_simp; rfl)); (case hp => exact (Reps.one (show Kd.M (Kd.int .u8) _ _ _ 0 [.int .u8 0] from rfl) (Reps.one (show Kd.M (Kd.int .u8) _ _ _ 0 [.int .u8 0] from rfl) (Reps.none _ _)))); intro v141 w20 ho21 hb hg_ hnew_; clear hg_ hnew_; (first | rw [← Ny140.out] at ho21 | (simp only [Int.reduceToNat] at ho21; rw [← Ny140.out] at ho21)); have n0_ := Aside0.mk (Kd.R_elder' (kR_ HO129.out) (Kd.R_base ho21) hb); have n1_ := Aside0.mk (Kd.R_below (kR_ HO133.out) hb); have n2_ := Aside0.mk (Kd.R_elder' (kR_ HO138.out) (Kd.R_base ho21) hb); have n3_ := Aside0.mk (Kd.R_lower (Kd.R_new' (Kd.R_new' ho21 (Kd.R_lt (kR_ HO129.out))) (Kd.R_lt (kR_ HO138.out))) (below_size (hb0_ HB.out))); have n4_ := Aside0.mk (below_step (hb0_ HB.out) hb); clear HO129 HO133 HO138 HB; revert n0_ n1_ n2_ n3_ n4_; intro HO129 HO133 HO138 HO142 HB; clear hb ho21; obtain ⟨Ao22, co22, eo22⟩ := Kd.R_slice HO142.out; subst eo22) | (go_at_call 47; (with_reducible refine (mask_Put.calls k _ _ y140 _ _ t130 2 t143 _ ?side1 ?side2 ?side3 ?side4 A10.out).mono ?_); (case side1 => exact kD_ (Kd.R_reads' HO142.out).2.2); (case side2 => exact (Kd.R_reads' HO142.out).2.1); (case side3 => exact kD_ (Kd.R_reads' HO133.out).2.2); (case side4 => exact (Kd.R_reads' HO133.out).2.1); rintro e w23 ⟨v144, rfl, ho0, hb⟩; have n0_ := Aside0.mk (Kd.R_elder' (kR_ HO129.out) (Kd.R_base ho0) hb); have n1_ := Aside0.mk (Kd.R_below (kR_ HO133.out) hb); have n2_ := Aside0.mk (Kd.R_elder' (kR_ HO138.out) (Kd.R_base ho0) hb); have n3_ := Aside0.mk (Kd.R_elder' (kR_ HO142.out) (Kd.R_base ho0) hb); have n4_ := Aside0.mk (Kd.R_lower (Kd.R_new' (Kd.R_new' (Kd.R_new' ho0 (Kd.R_lt (kR_ HO129.out))) (Kd.R_lt (kR_ HO138.out))) (Kd.R_lt (kR_ HO142.out))) (below_size (hb0_ HB.out))); have n5_ := Aside0.mk (below_step (hb0_ HB.out) hb); clear HO129 HO133 HO138 HO142 HB; revert n0_ n1_ n2_ n3_ n4_ n5_; intro HO129 HO133 HO138 HO142 HO145 HB; (try clear hb); (try clear hb2); (try clear hk); (try clear hi); (try clear ho0); obtain ⟨Ao24, co24, eo24⟩ := Kd.R_slice HO145.out; subst eo24) | (go_at_call 48; (with_reducible refine (mask_Get.calls k _ _ t143 _ _ t130 t146 _ ?side1 ?side2 ?side3 ?side4 A11.out).mono ?_); (case side1 => exact kD_ (Kd.R_reads' HO145.out).2.2); (case side2 => exact (Kd.R_reads' HO145.out).2.1); (case side3 => exact kD_ (Kd.R_reads' HO133.out).2.2); (case side4 => exact (Kd.R_reads' HO133.out).2.1); rintro e w25 ⟨rfl, hb⟩; have n0_ := Aside0.mk (Kd.R_below (kR_ HO129.out) hb); have n1_ := Aside0.mk (Kd.R_below (kR_ HO133.out) hb); have n2_ := Aside0.mk (Kd.R_below (kR_ HO138.out) hb); have n3_ := Aside0.mk (Kd.R_below (kR_ HO142.out) hb); have n4_ := Aside0.mk (Kd.R_below (kR_ HO145.out) hb); have n5_ := Aside0.mk (below_step (hb0_ HB.out) hb); clear HO129 HO133 HO138 HO142 HO145 HB; revert n0_ n1_ n2_ n3_ n4_ n5_; intro HO129 HO133 HO138 HO142 HO145 HB; (try clear hb); (try clear hb2); (try clear hk); (try clear hi)))
      go_ret
      exact ⟨by first | rfl | (simp [errW_none, errW_some] <;> rfl) | (simp [*, errW_none, errW_some] <;> rfl), (hb0_ HB.out)⟩
     ·
      rw [if_neg c9] at H; have c9b0 : (t139 == 3) = false := beq_eq_false_iff_ne.mpr c9; have c9b1 : (t139 != 3) = true := bne_iff_ne.mpr c9; obtain rfl := Option.some.inj H; go_enter Try.func43, Try.ntmps43
      go_wp2_with (first | ((with_reducible refine gate_dst (N := 4) rfl ?_); (try (refine gate_guard (by rfl) ?_; dsimp only)); refine Kd.R_lit (Kd.int .u8) _ 5 ?hg (N := 4) ?hd (xs := ([1, 6] : List Int)) (inner := [.int .u8 1, .int .u8 6]) (ok := fun _ => True) (okp := fun _ => True) ?hr ?hp (fun _ hk => hk) trivial (Below.refl _ _) (Nat.le_refl _) (by simp) ?_; (case hd => rfl); (case hg => rfl); (case hr => first | (go_simp; done) | (go_simp; rfl)); (case hp => exact (Reps.one (show Kd.M (Kd.int .u8) _ _ _ 1 [.int .u8 1] from rfl) (Reps.one (show Kd.M (Kd.int .u8) _ _ _ 6 [.int .u8 6] from rfl) (Reps.none _ _)))); intro v128 w26 ho27 hb hg_ hnew_; clear hg_ hnew_; (first | rw [← Ny127.out] at ho27 | (simp only [Int.reduceToNat] at ho27; rw [← Ny127.out] at ho27)); have n0_ := Aside0.mk (Kd.R_lower ho27 (below_size (hb0_ HB.out))); have n1_ := Aside0.mk (below_step (hb0_ HB.out) hb); clear HB; revert n0_ n1_; intro HO129 HB; clear hb ho27; obtain ⟨Ao28, co28, eo28⟩ := Kd.R_slice HO129.out; subst eo28) | ((with_reducible refine gate_callee (f := 44) rfl ?_); refine goesL_ (some 5) rfl rfl Try.func44 (by kernel_rfl) rfl #[.slice Ao28 y127.length co28, .int .i64 2] rfl lm_ ?_; (with_reducible refine (mask_Bits.calls k _ _ y127 2 t130 true _ ?side1 ?side2 A1.out).mono ?_); (case side1 => exact kD_ (Kd.R_reads' HO129.out).2.2); (case side2 => exact (Kd.R_reads' HO129.out).2.1); rintro e w29 ⟨v132, rfl, ho0, hb⟩; refine ⟨_, rfl, ?_⟩; have n0_ := Aside0.mk (Kd.R_below (kR_ HO129.out) hb); have n1_ := Aside0.mk (Kd.R_lower ho0 (below_size (hb0_ HB.out))); have n2_ := Aside0.mk (below_step (hb0_ HB.out) hb); clear HO129 HB; revert n0_ n1_ n2_; intro HO129 HO133 HB; (try clear hb); (try clear hb2); (try clear hk); (try clear hi); (try clear ho0); obtain ⟨Ao30, co30, eo30⟩ := Kd.R_slice HO133.out; subst eo30; have p134 : 0 ≤ (0 : Int) := (by omega); have q134 : 0 < (t130.length : Int) := od_; obtain ⟨ad134, e134, hx134_0⟩ := Kd.at_int (Kd.R_reads' HO133.out).2.2 0 p134 q134; cases e134; have qi134 : (0 < t130.length) = True := eq_true (by omega); (try rw [show ((0 : Int)).toNat = 0 from rfl] at hx134_0); (try rw [Addr.add_zero'] at hx134_0); replace p134 := eq_true p134; replace q134 := eq_true q134; have p135 : 0 ≤ (1 : Int) := (by omega); have q135 : 1 < (t130.length : Int) := od_; obtain ⟨ad135, e135, hx135_0⟩ := Kd.at_int (Kd.R_reads' HO133.out).2.2 1 p135 q135; obtain rfl : ad134 = ad135 := (by injection e135); (try simp only [show (1 : Int).toNat = 1 from rfl, Nat.reduceMul, Nat.reduceEqDiff, Go.Addr.add, ↓reduceIte] at hx135_0); have qi135 : (1 < t130.length) = True := eq_true (by omega); (try rw [show ((1 : Int)).toNat = 1 from rfl] at hx135_0); replace p135 := eq_true p135; replace q135 := eq_true q135) | ((with_reducible refine gate_dst (N := 27) rfl ?_); (try (refine gate_guard (by rfl) ?_; dsimp only)); refine Kd.R_lit (Kd.int .u8) _ 5 ?hg (N := 27) ?hd (xs := ([1, 6] : List Int)) (inner := [.int .u8 1, .int .u8 6]) (ok := fun _ => True) (okp := fun _ => True) ?hr ?hp (fun _ hk => hk) trivial (Below.refl _ _) (Nat.le_refl _) (by simp) ?_; (case hd => rfl); (case hg => rfl); (case hr => first | (go_simp; done) | (go_simp; rfl)); (case hp => exact (Reps.one (show Kd.M (Kd.int .u8) _ _ _ 1 [.int .u8 1] from rfl) (Reps.one (show Kd.M (Kd.int .u8) _ _ _ 6 [.int .u8 6] from rfl) (Reps.none _ _)))); intro v137 w31 ho32 hb hg_ hnew_; clear hg_ hnew_; (first | rw [← Ny136.out] at ho32 | (simp only [Int.reduceToNat] at ho32; rw [← Ny136.out] at ho32)); have n0_ := Aside0.mk (Kd.R_elder' (kR_ HO129.out) (Kd.R_base ho32) hb); have n1_ := Aside0.mk (Kd.R_below (kR_ HO133.out) hb); have n2_ := Aside0.mk (Kd.R_lower (Kd.R_new' ho32 (Kd.R_lt (kR_ HO129.out))) (below_size (hb0_ HB.out))); have n3_ := Aside0.mk (below_step (hb0_ HB.out) hb); clear HO129 HO133 HB; revert n0_ n1_ n2_ n3_; intro HO129 HO133 HO138 HB; clear hb ho32; obtain ⟨Ao33, co33, eo33⟩ := Kd.R_slice HO138.out; subst eo33) | (go_at_call 45; (with_reducible refine (mask_Count.calls k _ _ y136 t139 _ ?side1 ?side2 A8.out).mono ?_); (case side1 => exact kD_ (Kd.R_reads' HO138.out).2.2); (case side2 => exact (Kd.R_reads' HO138.out).2.1); rintro e w' ⟨rfl, ⟨nd, rfl⟩⟩))
      go_ret
      exact ⟨by first | rfl | (simp [errW_none, errW_some] <;> rfl) | (simp [*, errW_none, errW_some] <;> rfl), (hb0_ HB.out)⟩
    ·
     rw [if_neg c7] at H; have c7b0 : ((rd t130 1) == 9) = false := beq_eq_false_iff_ne.mpr c7; have c7b1 : ((rd t130 1) != 9) = true := bne_iff_ne.mpr c7; obtain rfl := Option.some.inj H; go_enter Try.func43, Try.ntmps43
     go_wp2_with (first | ((with_reducible refine gate_dst (N := 4) rfl ?_); (try (refine gate_guard (by rfl) ?_; dsimp only)); refine Kd.R_lit (Kd.int .u8) _ 5 ?hg (N := 4) ?hd (xs := ([1, 6] : List Int)) (inner := [.int .u8 1, .int .u8 6]) (ok := fun _ => True) (okp := fun _ => True) ?hr ?hp (fun _ hk => hk) trivial (Below.refl _ _) (Nat.le_refl _) (by simp) ?_; (case hd => rfl); (case hg => rfl); (case hr => first | (go_simp; done) | (go_simp; rfl)); (case hp => exact (Reps.one (show Kd.M (Kd.int .u8) _ _ _ 1 [.int .u8 1] from rfl) (Reps.one (show Kd.M (Kd.int .u8) _ _ _ 6 [.int .u8 6] from rfl) (Reps.none _ _)))); intro v128 w34 ho35 hb hg_ hnew_; clear hg_ hnew_; (first | rw [← Ny127.out] at ho35 | (simp only [Int.reduceToNat] at ho35; rw [← Ny127.out] at ho35)); have n0_ := Aside0.mk (Kd.R_lower ho35 (below_size (hb0_ HB.out))); have n1_ := Aside0.mk (below_step (hb0_ HB.out) hb); clear HB; revert n0_ n1_; intro HO129 HB; clear hb ho35; obtain ⟨Ao36, co36, eo36⟩ := Kd.R_slice HO129.out; subst eo36) | ((with_reducible refine gate_callee (f := 44) rfl ?_); refine goesL_ (some 5) rfl rfl Try.func44 (by kernel_rfl) rfl #[.slice Ao36 y127.length co36, .int .i64 2] rfl lm_ ?_; (with_reducible refine (mask_Bits.calls k _ _ y127 2 t130 true _ ?side1 ?side2 A1.out).mono ?_); (case side1 => exact kD_ (Kd.R_reads' HO129.out).2.2); (case side2 => exact (Kd.R_reads' HO129.out).2.1); rintro e w37 ⟨v132, rfl, ho0, hb⟩; refine ⟨_, rfl, ?_⟩; have n0_ := Aside0.mk (Kd.R_below (kR_ HO129.out) hb); have n1_ := Aside0.mk (Kd.R_lower ho0 (below_size (hb0_ HB.out))); have n2_ := Aside0.mk (below_step (hb0_ HB.out) hb); clear HO129 HB; revert n0_ n1_ n2_; intro HO129 HO133 HB; (try clear hb); (try clear hb2); (try clear hk); (try clear hi); (try clear ho0); obtain ⟨Ao38, co38, eo38⟩ := Kd.R_slice HO133.out; subst eo38; have p134 : 0 ≤ (0 : Int) := (by omega); have q134 : 0 < (t130.length : Int) := od_; obtain ⟨ad134, e134, hx134_0⟩ := Kd.at_int (Kd.R_reads' HO133.out).2.2 0 p134 q134; cases e134; have qi134 : (0 < t130.length) = True := eq_true (by omega); (try rw [show ((0 : Int)).toNat = 0 from rfl] at hx134_0); (try rw [Addr.add_zero'] at hx134_0); replace p134 := eq_true p134; replace q134 := eq_true q134; have p135 : 0 ≤ (1 : Int) := (by omega); have q135 : 1 < (t130.length : Int) := od_; obtain ⟨ad135, e135, hx135_0⟩ := Kd.at_int (Kd.R_reads' HO133.out).2.2 1 p135 q135; obtain rfl : ad134 = ad135 := (by injection e135); (try simp only [show (1 : Int).toNat = 1 from rfl, Nat.reduceMul, Nat.reduceEqDiff, Go.Addr.add, ↓reduceIte] at hx135_0); have qi135 : (1 < t130.length) = True := eq_true (by omega); (try rw [show ((1 : Int)).toNat = 1 from rfl] at hx135_0); replace p135 := eq_true p135; replace q135 := eq_true q135))
     go_ret
     exact ⟨by first | rfl | (simp [errW_none, errW_some] <;> rfl) | (simp [*, errW_none, errW_some] <;> rfl), (hb0_ HB.out)⟩
   ·
    rw [if_neg c5] at H; have c5b0 : ((rd t130 0) == 0) = false := beq_eq_false_iff_ne.mpr c5; have c5b1 : ((rd t130 0) != 0) = true := bne_iff_ne.mpr c5; obtain rfl := Option.some.inj H; go_enter Try.func43, Try.ntmps43
    go_wp2_with (first | ((with_reducible refine gate_dst (N := 4) rfl ?_); (try (refine gate_guard (by rfl) ?_; dsimp only)); refine Kd.R_lit (Kd.int .u8) _ 5 ?hg (N := 4) ?hd (xs := ([1, 6] : List Int)) (inner := [.int .u8 1, .int .u8 6]) (ok := fun _ => True) (okp := fun _ => True) ?hr ?hp (fun _ hk => hk) trivial (Below.refl _ _) (Nat.le_refl _) (by simp) ?_; (case hd => rfl); (case hg => rfl); (case hr => first | (go_simp; done) | (go_simp; rfl)); (case hp => exact (Reps.one (show Kd.M (Kd.int .u8) _ _ _ 1 [.int .u8 1] from rfl) (Reps.one (show Kd.M (Kd.int .u8) _ _ _ 6 [.int .u8 6] from rfl) (Reps.none _ _)))); intro v128 w39 ho40 hb hg_ hnew_; clear hg_ hnew_; (first | rw [← Ny127.out] at ho40 | (simp only [Int.reduceToNat] at ho40; rw [← Ny127.out] at ho40)); have n0_ := Aside0.mk (Kd.R_lower ho40 (below_size (hb0_ HB.out))); have n1_ := Aside0.mk (below_step (hb0_ HB.out) hb); clear HB; revert n0_ n1_; intro HO129 HB; clear hb ho40; obtain ⟨Ao41, co41, eo41⟩ := Kd.R_slice HO129.out; subst eo41) | ((with_reducible refine gate_callee (f := 44) rfl ?_); refine goesL_ (some 5) rfl rfl Try.func44 (by kernel_rfl) rfl #[.slice Ao41 y127.length co41, .int .i64 2] rfl lm_ ?_; (with_reducible refine (mask_Bits.calls k _ _ y127 2 t130 true _ ?side1 ?side2 A1.out).mono ?_); (case side1 => exact kD_ (Kd.R_reads' HO129.out).2.2); (case side2 => exact (Kd.R_reads' HO129.out).2.1); rintro e w42 ⟨v132, rfl, ho0, hb⟩; refine ⟨_, rfl, ?_⟩; have n0_ := Aside0.mk (Kd.R_below (kR_ HO129.out) hb); have n1_ := Aside0.mk (Kd.R_lower ho0 (below_size (hb0_ HB.out))); have n2_ := Aside0.mk (below_step (hb0_ HB.out) hb); clear HO129 HB; revert n0_ n1_ n2_; intro HO129 HO133 HB; (try clear hb); (try clear hb2); (try clear hk); (try clear hi); (try clear ho0); obtain ⟨Ao43, co43, eo43⟩ := Kd.R_slice HO133.out; subst eo43; have p134 : 0 ≤ (0 : Int) := (by omega); have q134 : 0 < (t130.length : Int) := od_; obtain ⟨ad134, e134, hx134_0⟩ := Kd.at_int (Kd.R_reads' HO133.out).2.2 0 p134 q134; cases e134; have qi134 : (0 < t130.length) = True := eq_true (by omega); (try rw [show ((0 : Int)).toNat = 0 from rfl] at hx134_0); (try rw [Addr.add_zero'] at hx134_0); replace p134 := eq_true p134; replace q134 := eq_true q134))
    go_ret
    exact ⟨by first | rfl | (simp [errW_none, errW_some] <;> rfl) | (simp [*, errW_none, errW_some] <;> rfl), (hb0_ HB.out)⟩
  ·
   rw [if_neg c3] at H; have c3b0 : ((t130.length : Int) == 2) = false := beq_eq_false_iff_ne.mpr c3; have c3b1 : ((t130.length : Int) != 2) = true := bne_iff_ne.mpr c3; obtain rfl := Option.some.inj H; go_enter Try.func43, Try.ntmps43
   go_wp2_with (first | ((with_reducible refine gate_dst (N := 4) rfl ?_); (try (refine gate_guard (by rfl) ?_; dsimp only)); refine Kd.R_lit (Kd.int .u8) _ 5 ?hg (N := 4) ?hd (xs := ([1, 6] : List Int)) (inner := [.int .u8 1, .int .u8 6]) (ok := fun _ => True) (okp := fun _ => True) ?hr ?hp (fun _ hk => hk) trivial (Below.refl _ _) (Nat.le_refl _) (by simp) ?_; (case hd => rfl); (case hg => rfl); (case hr => first | (go_simp; done) | (go_simp; rfl)); (case hp => exact (Reps.one (show Kd.M (Kd.int .u8) _ _ _ 1 [.int .u8 1] from rfl) (Reps.one (show Kd.M (Kd.int .u8) _ _ _ 6 [.int .u8 6] from rfl) (Reps.none _ _)))); intro v128 w44 ho45 hb hg_ hnew_; clear hg_ hnew_; (first | rw [← Ny127.out] at ho45 | (simp only [Int.reduceToNat] at ho45; rw [← Ny127.out] at ho45)); have n0_ := Aside0.mk (Kd.R_lower ho45 (below_size (hb0_ HB.out))); have n1_ := Aside0.mk (below_step (hb0_ HB.out) hb); clear HB; revert n0_ n1_; intro HO129 HB; clear hb ho45; obtain ⟨Ao46, co46, eo46⟩ := Kd.R_slice HO129.out; subst eo46) | ((with_reducible refine gate_callee (f := 44) rfl ?_); refine goesL_ (some 5) rfl rfl Try.func44 (by kernel_rfl) rfl #[.slice Ao46 y127.length co46, .int .i64 2] rfl lm_ ?_; (with_reducible refine (mask_Bits.calls k _ _ y127 2 t130 true _ ?side1 ?side2 A1.out).mono ?_); (case side1 => exact kD_ (Kd.R_reads' HO129.out).2.2); (case side2 => exact (Kd.R_reads' HO129.out).2.1); rintro e w47 ⟨v132, rfl, ho0, hb⟩; refine ⟨_, rfl, ?_⟩; have n0_ := Aside0.mk (Kd.R_below (kR_ HO129.out) hb); have n1_ := Aside0.mk (Kd.R_lower ho0 (below_size (hb0_ HB.out))); have n2_ := Aside0.mk (below_step (hb0_ HB.out) hb); clear HO129 HB; revert n0_ n1_ n2_; intro HO129 HO133 HB; (try clear hb); (try clear hb2); (try clear hk); (try clear hi); (try clear ho0); obtain ⟨Ao48, co48, eo48⟩ := Kd.R_slice HO133.out; subst eo48))
   go_ret
   exact ⟨by first | rfl | (simp [errW_none, errW_some] <;> rfl) | (simp [*, errW_none, errW_some] <;> rfl), (hb0_ HB.out)⟩
 ·
  replace c2 := Bool.eq_false_iff.mpr c2; subst c2; have H1 : (some false) = some r := by rw [if_neg (show ¬ (false = true) by decide)] at H; exact H
  clear H; have H := H1; clear H1; obtain rfl := Option.some.inj H; go_enter Try.func43, Try.ntmps43
  go_wp2_with (first | ((with_reducible refine gate_dst (N := 4) rfl ?_); (try (refine gate_guard (by rfl) ?_; dsimp only)); refine Kd.R_lit (Kd.int .u8) _ 5 ?hg (N := 4) ?hd (xs := ([1, 6] : List Int)) (inner := [.int .u8 1, .int .u8 6]) (ok := fun _ => True) (okp := fun _ => True) ?hr ?hp (fun _ hk => hk) trivial (Below.refl _ _) (Nat.le_refl _) (by simp) ?_; (case hd => rfl); (case hg => rfl); (case hr => first | (go_simp; done) | (go_simp; rfl)); (case hp => exact (Reps.one (show Kd.M (Kd.int .u8) _ _ _ 1 [.int .u8 1] from rfl) (Reps.one (show Kd.M (Kd.int .u8) _ _ _ 6 [.int .u8 6] from rfl) (Reps.none _ _)))); intro v128 w49 ho50 hb hg_ hnew_; clear hg_ hnew_; (first | rw [← Ny127.out] at ho50 | (simp only [Int.reduceToNat] at ho50; rw [← Ny127.out] at ho50)); have n0_ := Aside0.mk (Kd.R_lower ho50 (below_size (hb0_ HB.out))); have n1_ := Aside0.mk (below_step (hb0_ HB.out) hb); clear HB; revert n0_ n1_; intro HO129 HB; clear hb ho50; obtain ⟨Ao51, co51, eo51⟩ := Kd.R_slice HO129.out; subst eo51) | ((with_reducible refine gate_callee (f := 44) rfl ?_); refine goesL_ (some 5) rfl rfl Try.func44 (by kernel_rfl) rfl #[.slice Ao51 y127.length co51, .int .i64 2] rfl lm_ ?_; (with_reducible refine (mask_Bits.calls k _ _ y127 2 t130 false _ ?side1 ?side2 A1.out).mono ?_); (case side1 => exact kD_ (Kd.R_reads' HO129.out).2.2); (case side2 => exact (Kd.R_reads' HO129.out).2.1); rintro e w52 ⟨v132, rfl, ho0, hb⟩; refine ⟨_, rfl, ?_⟩; have n0_ := Aside0.mk (Kd.R_below (kR_ HO129.out) hb); have n1_ := Aside0.mk (Kd.R_lower ho0 (below_size (hb0_ HB.out))); have n2_ := Aside0.mk (below_step (hb0_ HB.out) hb); clear HO129 HB; revert n0_ n1_ n2_; intro HO129 HO133 HB; (try clear hb); (try clear hb2); (try clear hk); (try clear hi); (try clear ho0)))
  go_ret
  exact ⟨by first | rfl | (simp [errW_none, errW_some] <;> rfl) | (simp [*, errW_none, errW_some] <;> rfl), (hb0_ HB.out)⟩

/-! ### bits_Mul32: function 97 -/
def bits_Mul32.f (a0 : Int) (a1 : Int) : Option (Int × Int) := some (((IntKind.u64.wrap ((IntKind.u64.wrap (a0)) * (IntKind.u64.wrap (a1)))) / 4294967296) % 4294967296, (IntKind.u64.wrap ((IntKind.u64.wrap (a0)) * (IntKind.u64.wrap (a1)))) % 4294967296)
set_option maxHeartbeats 8000000 in
set_option maxRecDepth 100000 in
theorem bits_Mul32.calls (a0 : Int) (a1 : Int) (r1 : Int) (r2 : Int) (w : World) (h : bits_Mul32.f a0 a1 = some (r1, r2)) :
  Calls Try.prog 97 #[.int .u32 a0, .int .u32 a1] w fun e w' => e = .returned (.tuple #[.int .u32 r1, .int .u32 r2]) ∧ Drawn0 w w' := by
 have H : (some (((IntKind.u64.wrap ((IntKind.u64.wrap (a0)) * (IntKind.u64.wrap (a1)))) / 4294967296) % 4294967296, (IntKind.u64.wrap ((IntKind.u64.wrap (a0)) * (IntKind.u64.wrap (a1)))) % 4294967296)) = some (r1, r2) := h; clear h; simp only [Option.some.injEq, Prod.mk.injEq] at H; obtain ⟨rfl, rfl⟩ := H; go_enter Try.func97, Try.ntmps97
 go_wp2
 go_ret2
 exact ⟨rf_, by repeat (first | exact Drawn0.refl _ | apply Drawn0.step)⟩

/-! ### bits_Mul64: function 98 -/
def bits_Mul64.f (a0 : Int) (a1 : Int) : Option (Int × Int) := some (IntKind.u64.wrap ((IntKind.u64.wrap ((IntKind.u64.wrap ((a0 / 4294967296) * (a1 / 4294967296))) + ((IntKind.u64.wrap ((IntKind.u64.wrap ((a0 / 4294967296) * (Go.bits .and .u64 a1 4294967295))) + ((IntKind.u64.wrap ((Go.bits .and .u64 a0 4294967295) * (Go.bits .and .u64 a1 4294967295))) / 4294967296))) / 4294967296))) + ((IntKind.u64.wrap ((Go.bits .and .u64 (IntKind.u64.wrap ((IntKind.u64.wrap ((a0 / 4294967296) * (Go.bits .and .u64 a1 4294967295))) + ((IntKind.u64.wrap ((Go.bits .and .u64 a0 4294967295) * (Go.bits .and .u64 a1 4294967295))) / 4294967296))) 4294967295) + (IntKind.u64.wrap ((Go.bits .and .u64 a0 4294967295) * (a1 / 4294967296))))) / 4294967296)), IntKind.u64.wrap (a0 * a1))
set_option maxHeartbeats 8000000 in
set_option maxRecDepth 100000 in
theorem bits_Mul64.calls (a0 : Int) (a1 : Int) (r1 : Int) (r2 : Int) (w : World) (h : bits_Mul64.f a0 a1 = some (r1, r2)) :
  Calls Try.prog 98 #[.int .u64 a0, .int .u64 a1] w fun e w' => e = .returned (.tuple #[.int .u64 r1, .int .u64 r2]) ∧ Drawn0 w w' := by
 have H : (some (IntKind.u64.wrap ((IntKind.u64.wrap ((IntKind.u64.wrap ((a0 / 4294967296) * (a1 / 4294967296))) + ((IntKind.u64.wrap ((IntKind.u64.wrap ((a0 / 4294967296) * (Go.bits .and .u64 a1 4294967295))) + ((IntKind.u64.wrap ((Go.bits .and .u64 a0 4294967295) * (Go.bits .and .u64 a1 4294967295))) / 4294967296))) / 4294967296))) + ((IntKind.u64.wrap ((Go.bits .and .u64 (IntKind.u64.wrap ((IntKind.u64.wrap ((a0 / 4294967296) * (Go.bits .and .u64 a1 4294967295))) + ((IntKind.u64.wrap ((Go.bits .and .u64 a0 4294967295) * (Go.bits .and .u64 a1 4294967295))) / 4294967296))) 4294967295) + (IntKind.u64.wrap ((Go.bits .and .u64 a0 4294967295) * (a1 / 4294967296))))) / 4294967296)), IntKind.u64.wrap (a0 * a1))) = some (r1, r2) := h; clear h; simp only [Option.some.injEq, Prod.mk.injEq] at H; obtain ⟨rfl, rfl⟩ := H; go_enter Try.func98, Try.ntmps98
 go_wp2
 go_ret2
 exact ⟨rf_, by repeat (first | exact Drawn0.refl _ | apply Drawn0.step)⟩

/-! ### bits_Mul: function 94 -/
def bits_Mul.f (a0 : Int) (a1 : Int) : Option (Int × Int) := (bits_Mul64.f a0 a1).bind fun bt147 => (some (bt147.1, bt147.2))
set_option maxHeartbeats 8000000 in
set_option maxRecDepth 100000 in
theorem bits_Mul.calls (a0 : Int) (a1 : Int) (r1 : Int) (r2 : Int) (w : World) (h : bits_Mul.f a0 a1 = some (r1, r2)) :
  Calls Try.prog 94 #[.int .u64 a0, .int .u64 a1] w fun e w' => e = .returned (.tuple #[.int .u64 r1, .int .u64 r2]) ∧ Drawn0 w w' := by
 have H : ((bits_Mul64.f a0 a1).bind fun bt147 => (some (bt147.1, bt147.2))) = some (r1, r2) := h; clear h; replace H := Option.bind_eq_some_iff.mp H; obtain ⟨⟨t147, t148⟩, A30, H⟩ := H; (try dsimp only at H); have A3 := Aside0.mk A30; clear A30; simp only [Option.some.injEq, Prod.mk.injEq] at H; obtain ⟨rfl, rfl⟩ := H; go_enter Try.func94, Try.ntmps94
 go_wp2_with (first | ((with_reducible refine gate_callee (f := 98) rfl ?_); refine goesL_ (some 25) rfl rfl Try.func98 (by kernel_rfl) rfl #[.int .u64 a0, .int .u64 a1] rfl lm_ ?_; (with_reducible refine (bits_Mul64.calls a0 a1 t147 t148 _ A3.out).mono ?_); rintro e w' ⟨rfl, ⟨nd, rfl⟩⟩; refine ⟨_, rfl, ?_⟩))
 go_ret2
 exact ⟨rf_, by repeat (first | exact Drawn0.refl _ | apply Drawn0.step)⟩

/-! ### Extend: function 46 (by hand) -/
/-- A row of bytes of the call's own whose block may be longer than its capacity. -/
def ExtRow (w : World) (base : Nat) (v : Value) (xs : List Int) : Prop :=
  ∃ g cap cur, v = .slice (some ⟨g, 0, none⟩) xs.length cap ∧ base ≤ g ∧ w.heap[g]? = some (.cells cur 5 (0, 0)) ∧ xs.length ≤ cap ∧ cap ≤ cur.size ∧ xs.length ≤ 1024 ∧ cur.toList.take xs.length = nums .u8 xs
theorem bits_Mul_one : ∀ n : Fin 1025, bits_Mul.f 1 (n.val : Int) = some (0, (n.val : Int)) := by decide +kernel
theorem splice_take (L : List Value) (b m : Nat) (x : Value) (hL : ∀ j, j < b → L[j]? = some x) (hm : m ≤ b) (hb : b + m ≤ L.length) :
    ∀ j, j < b + m → (splice L b (L.take m))[j]? = some x := by
  intro j hj; unfold splice; rw [List.getElem?_append]; simp only [List.length_take]; split
  · rename_i h
    rw [List.getElem?_take, if_pos (by omega)]; exact hL j (by omega)
  · rename_i h
    rw [List.getElem?_append]; simp only [List.length_take]; rw [if_pos (by omega), List.getElem?_take, if_pos (by omega)]; exact hL _ (by omega)
theorem callNoZero (n : Nat) (hn : n ≤ 1024) (w : World) (nd : Nat) : ∃ cs : Array Value, (callFunc 95 #[.int .i64 (n : Int)]).run Try.prog (w.drewN nd) = .ok (.value (.slice (some ⟨w.heap.size, 0, none⟩) n cs.size)) ((w.alloc (.cells cs 5)).drewN (nd + 2)) ∧ n ≤ cs.size := by
  obtain ⟨cs, hrunM, hle, _⟩ := Lib.run_makeNoZero (P := Try.prog) (w.drewN nd) #[3] 27 5 Try.underlying27 n (by omega); refine ⟨cs, ?_, hle⟩; rw [run_callFunc_extern Try.func95 (by kernel_rfl) (by kernel_rfl) (by kernel_rfl) (e := Extern.BytealgMakeNoZero.makeNoZero #[3] #[27]) (by kernel_rfl), hrunM]; rfl
theorem one_src {W : World} {b o : Nat} {x : Value} (h : W.cell? ⟨b, o, none⟩ = some x) : ∀ j v, [x][j]? = some v → W.cell? ((⟨b, o, none⟩ : Addr).add j) = some v := by
  intro j v hj; rcases j with _ | j
  · simp only [List.getElem?_cons_zero, Option.some.injEq] at hj
    subst hj; simpa [Go.Addr.add] using h
  · simp at hj
theorem cells_one {L : List Value} {k m : Nat} (h : ∀ j, j < k → L[j]? = some (Value.int .u8 255)) (hm : m ≤ k) {v : Value} (hv : v ∈ L.take m) : v.oneCell' = true := by
  obtain ⟨j, hj⟩ := List.mem_iff_getElem?.1 hv; rw [List.getElem?_take] at hj; split at hj
  · rw [h j (by omega)] at hj
    obtain rfl := Option.some.inj hj; rfl
  · cases hj
theorem self_src {W : World} {g : Nat} {L : List Value} (h : W.heap[g]? = some (.cells L.toArray 5 (0, 0))) (m : Nat) : ∀ j v, (L.take m)[j]? = some v → W.cell? ((⟨g, 0, none⟩ : Addr).add j) = some v := by
  intro j v hj; rw [List.getElem?_take] at hj; split at hj
  · rw [add_plain, cell_of_row W g j L.toArray 5 (0, 0) h]
    simpa using hj
  · cases hj
theorem cut1 (g n k : Nat) (h : k < n) (W : World) : (Instr.slice 27 (.slice (some ⟨g, 0, none⟩) n n) (some (.int .i64 (k : Int))) none none).run Try.prog W = .ok (.slice (some ⟨g, k, none⟩) (n - k) (n - k)) W := by
  have hu := Try.underlying27; have h1 : ¬ (n < k) := by omega
  have h2 : ¬ (n = k) := by omega
  have h3 : (k : Int) ≤ (n : Int) := by omega
  have h0 : (0 : Int) ≤ (k : Int) := by omega
  go_simp
theorem cut2 (g n k : Nat) (h : k < n) (hn : n ≤ 1024) (W : World) : (Instr.slice 27 (.slice (some ⟨g, 0, none⟩) n n) none (some (.int .i64 (k : Int))) none).run Try.prog W = .ok (.slice (some ⟨g, 0, none⟩) k n) W := by
  have hu := Try.underlying27; have h3 : (k : Int) ≤ (n : Int) := by omega
  have h0 : (0 : Int) ≤ (k : Int) := by omega
  go_simp
theorem info5s : (Try.prog.info? 5).map (·.size) = some 1 := by kernel_rfl
set_option maxHeartbeats 4000000 in
set_option maxRecDepth 100000 in
theorem Repeat.pos (b o c n : Nat) (hn : n ≤ 1024) (h0 : 0 < n) (w : World) (hc : w.cell? ⟨b, o, none⟩ = some (.int .u8 255)) :
    Calls Try.prog 87 #[.slice (some ⟨b, o, none⟩) 1 c, .int .i64 (n : Int)] w fun e w' => ∃ v, e = .returned v ∧ ExtRow w' w.heap.size v (List.replicate n 255) ∧ Below w.heap.size w w' := by
  have HM := Aside0.mk (bits_Mul_one ⟨n, by omega⟩); have e0 : ((n : Int) == 0) = false := by simp; omega
  have i0 : (0 : Int) ≤ (n : Int) := by omega
  have i2 : (n : Int) ≤ 1024 := by omega
  have hlt0 : decide ((n : Int) < 0) = false := by simp
  go_enter Try.func87, Try.ntmps87
  go_wp2_with (first | (go_at_call 94; (with_reducible refine (bits_Mul.calls 1 (n : Int) 0 (n : Int) _ HM.out).mono ?_); rintro e w' ⟨rfl, ⟨nd, rfl⟩⟩; obtain ⟨cs, hcall, hle⟩ := callNoZero n hn w nd; have i1 : (n : Int) ≤ (cs.size : Int) := (by omega)) | ((with_reducible refine gate_builtin (b := .copy) (xs := #[.tmp 58, .tmp 59]) rfl ?_); refine wpList_copy_splice (by rfl) (.tmp 58) (.tmp 59) 27 27 (by rfl) 5 Try.underlying27 info5s (some ⟨w.heap.size, 0, none⟩) (some ⟨b, o, none⟩) n n 1 c (by rfl) (by rfl) w.heap.size 0 cs.toList 5 ?hg [.int .u8 255] ?hn ?hpos ?hfit ?h1 w.heap.size w ?hb ?hBg ?_; (case hg => exact heap_alloc_new w _); (case hn => show (1 : Nat) = min 1 n; omega); (case hpos => exact fun _ => ⟨rfl, ⟨b, o, none⟩, rfl, one_src ((World.cell?_alloc_lt w (.cells cs 5) ⟨b, o, none⟩ (World.block_lt_of_cell? w _ hc)).trans hc)⟩); (case hfit => simp; omega); (case h1 => simp [Value.oneCell']); (case hb => exact pw_below_drewN ((Below.refl _ _).alloc (Nat.le_refl _) _) _); (case hBg => exact Nat.le_refl _); intro w3 hg3 hb3; have HG3 := Aside0.mk hg3.out; have HB3 := Aside0.mk hb3; clear hg3 hb3))
  have H3 : ∀ j, j < 1 → (splice cs.toList 0 [Value.int .u8 255])[j]? = some (.int .u8 255) := by
    intro j hj; obtain rfl : j = 0 := by omega
    simp [splice]
  have L3 : (splice cs.toList 0 [Value.int .u8 255]).length = cs.size := by
    rw [length_splice _ _ _ (by simp; omega)]; simp
  obtain ⟨LL, hLL⟩ : ∃ LL, splice cs.toList 0 [Value.int .u8 255] = LL := ⟨_, rfl⟩; rw [hLL] at HG3 H3 L3; clear hLL; have HH3 := Aside0.mk H3; have HL3 := Aside0.mk L3; clear H3 L3; go_loopg [10] (n - 1) (fun kq v10 wr => ∃ (k : Nat) (L : List Value), v10 = .int .i64 k ∧ Aside0 (1 ≤ k ∧ k ≤ n ∧ kq = n - k) ∧ Aside0 (L.length = cs.size) ∧ Aside0 (∀ j, j < k → L[j]? = some (.int .u8 255)) ∧ Aside0 (wr.heap[w.heap.size]? = some (.cells L.toArray 5 (0, 0))) ∧ Aside0 (Below w.heap.size w wr))
  case atStart => exact ⟨1, LL, rfl, ⟨by omega, by omega, by omega⟩, HL3, HH3, HG3, HB3⟩
  case round =>
    clear HL3 HH3 HG3 HB3; obtain ⟨k, L, rfl, HK, HL, HH, HG, HB⟩ := hrel; by_cases hkn : k < n
    · have hk1 := HK.out.1
      go_wp2
      have s0 : (0 : Int) ≤ (k : Int) := by omega
      have s1 : (k : Int) ≤ (n : Int) := by omega
      have HC := Aside0.mk hle; obtain ⟨m, hm⟩ : ∃ m, m = min k (n - k) := ⟨_, rfl⟩; have HMM := Aside0.mk hm; have HM1 := Aside0.mk (show m ≤ k by omega); have HM2 := Aside0.mk (show k + m ≤ n by omega); have HM3 := Aside0.mk (show 1 ≤ m by omega); have m0 : (0 : Int) ≤ (m : Int) := by omega
      have m1 : (k : Int) + (m : Int) ≤ 1024 := by omega
      have HLM := Aside0.mk (show (L.take m).length = m by rw [List.length_take]; have := HL.out; omega); have HW := Aside0.mk (show wrap64 ((k : Int) + (m : Int)) = ((k + m : Nat) : Int) by unfold wrap64; omega); clear hm; have hcut1 : ∀ W, (Instr.slice 27 (.slice (some ⟨w.heap.size, 0, none⟩) n n) (some (.int .i64 (k : Int))) none none).run Try.prog W = .ok (.slice (some ⟨w.heap.size, k, none⟩) (n - k) (n - k)) W := cut1 w.heap.size n k hkn; have hcut2 : ∀ W, (Instr.slice 27 (.slice (some ⟨w.heap.size, 0, none⟩) n n) none (some (.int .i64 (k : Int))) none).run Try.prog W = .ok (.slice (some ⟨w.heap.size, 0, none⟩) k n) W := cut2 w.heap.size n k hkn hn; replace HG : Aside0 (wr.drew.heap[w.heap.size]? = some (.cells L.toArray 5 (0, 0))) := ⟨HG.out⟩; replace HB : Aside0 (Below w.heap.size w wr.drew) := ⟨below_drew HB.out⟩; refine start_ (n := 10) (S := fun w' => True) (ds := []) (mk_ 0 10) (by kernel_rfl) rfl rfl trivial (fun hHeld => ?_); generalize wr.drew = w4 at HG HB hHeld ⊢; refine pure_ (i := 0) (N := some 67) (v := ?_) (a' := ?_) (mk_ 1 10) rfl rfl (by kernel_rfl) (fun _ _ _ h => h) (Or.inl ⟨by rfl, ?_⟩) ?_ ?_; rotate_left
      · intro w'
        go_simp
        with_reducible rfl
      rotate_left
      · simp only [Act.put, List.setIfInBounds_toArray, List.set_cons_zero, List.set_cons_succ, i64_w, i32_w]
        rfl
      refine pure_ (i := 1) (N := some 68) (v := ?_) (a' := ?_) (mk_ 2 10) rfl rfl (by kernel_rfl) (fun _ _ _ h => h) (Or.inl ⟨by rfl, ?_⟩) ?_ ?_; rotate_left
      · intro w'
        go_simp
        with_reducible rfl
      rotate_left
      · simp only [Act.put, List.setIfInBounds_toArray, List.set_cons_zero, List.set_cons_succ, i64_w, i32_w]
        rfl
      refine pure_ (i := 2) (N := some 69) (v := ?_) (a' := ?_) (mk_ 3 10) rfl rfl (by kernel_rfl) (fun _ _ _ h => h) (Or.inl ⟨by rfl, ?_⟩) ?_ ?_; rotate_left
      · intro w'
        go_simp
        with_reducible rfl
      rotate_left
      · simp only [Act.put, List.setIfInBounds_toArray, List.set_cons_zero, List.set_cons_succ, i64_w, i32_w]
        rfl
      refine pure_ (i := 3) (N := some 70) (v := ?_) (a' := ?_) (mk_ 4 10) rfl rfl (by kernel_rfl) (fun _ _ _ h => h) (Or.inl ⟨by rfl, ?_⟩) ?_ ?_; rotate_left
      · intro w'
        go_simp
        with_reducible rfl
      rotate_left
      · simp only [Act.put, List.setIfInBounds_toArray, List.set_cons_zero, List.set_cons_succ, i64_w, i32_w]
        rfl
      refine pure_ (i := 4) (N := some 71) (v := ?_) (a' := ?_) (mk_ 5 10) rfl rfl (by kernel_rfl) (fun _ _ _ h => h) (Or.inl ⟨by rfl, ?_⟩) ?_ ?_; rotate_left
      · intro w'
        go_simp
        with_reducible rfl
      rotate_left
      · simp only [Act.put, List.setIfInBounds_toArray, List.set_cons_zero, List.set_cons_succ, i64_w, i32_w]
        rfl
      refine pure_ (i := 5) (N := some 72) (v := ?_) (a' := ?_) (mk_ 6 10) rfl rfl (by kernel_rfl) (fun _ _ _ h => h) (Or.inl ⟨by rfl, ?_⟩) ?_ ?_; rotate_left
      · intro w'
        go_simp
        with_reducible rfl
      rotate_left
      · simp only [Act.put, List.setIfInBounds_toArray, List.set_cons_zero, List.set_cons_succ, i64_w, i32_w]
        rfl
      refine pure_ (i := 6) (N := some 73) (v := ?_) (a' := ?_) (mk_ 7 10) rfl rfl (by kernel_rfl) (fun _ _ _ h => h) (Or.inl ⟨by rfl, ?_⟩) ?_ ?_; rotate_left
      · intro w'
        go_simp
        with_reducible rfl
      rotate_left
      · simp only [Act.put, List.setIfInBounds_toArray, List.set_cons_zero, List.set_cons_succ, i64_w, i32_w]
        rfl
      refine one_ (i := 7) (N := some 74) (mk_ 8 10) rfl rfl (by kernel_rfl) (by decide) (fun K hK => ?_); refine step_copy_splice (by rfl) (.tmp 70) (.tmp 73) 27 27 (by rfl) 5 Try.underlying27 info5s (some ⟨w.heap.size, k, none⟩) (some ⟨w.heap.size, 0, none⟩) (n - k) (n - k) k n (by rfl) (by rfl) w.heap.size k L 5 ?hg (L.take m) ?hn ?hpos ?hfit ?h1 w.heap.size w ?hb ?hBg ?_; (case hg => exact HG.out)
      (case hn => show _ = min k (n - k); rw [HLM.out]; exact HMM.out)
      (case hpos => exact fun _ => ⟨rfl, _, rfl, self_src HG.out _⟩)
      (case hfit => rw [HLM.out]; have := HL.out; have := HC.out; have := HM2.out; omega)
      (case h1 => exact fun v hv => cells_one HH.out HM1.out hv)
      (case hb => exact HB.out)
      (case hBg => exact Nat.le_refl _)
      intro w5 hg5 hb5; have HG5 := Aside0.mk hg5.out; have HB5 := Aside0.mk hb5; clear hg5 hb5; rw [HLM.out]; refine hK.out _ _ trivial (fun hHeld => ?_); clear hK K; refine norm_ (a' := ?_) ?_ ?_; rotate_left
      · show Act.put _ (some 74) _ = _
        simp only [Act.put, List.setIfInBounds_toArray, List.set_cons_zero, List.set_cons_succ, i64_w, i32_w]; rfl
      refine pure_ (i := 8) (N := some 75) (v := ?_) (a' := ?_) (mk_ 9 10) rfl rfl (by kernel_rfl) (fun _ _ _ h => h) (Or.inl ⟨by rfl, ?_⟩) ?_ ?_; rotate_left
      · intro w'
        go_simp
        with_reducible rfl
      rotate_left
      · simp only [Act.put, List.setIfInBounds_toArray, List.set_cons_zero, List.set_cons_succ, i64_w, i32_w]
        rfl
      refine pure_ (i := 9) (N := some 10) (v := ?_) (a' := ?_) (mk_ 10 10) rfl rfl (by kernel_rfl) (fun _ _ _ h => h) (Or.inl ⟨by rfl, ?_⟩) ?_ ?_; rotate_left
      · intro w'
        go_simp
        with_reducible rfl
      rotate_left
      · simp only [Act.put, List.setIfInBounds_toArray, List.set_cons_zero, List.set_cons_succ, i64_w, i32_w]
        rfl
      refine done_ (by kernel_rfl) ?_

      go_wp2
      go_roundg (n - (k + m))
      case measure => have := HK.out; have := HM3.out; have := HM2.out; omega
      case rel => exact ⟨k + m, splice L k (L.take m), by rw [HW.out], ⟨by omega, HM2.out, rfl⟩, ⟨by rw [length_splice _ _ _ (by rw [HLM.out]; have := HL.out; have := HC.out; have := HM2.out; omega)]; exact HL.out⟩, ⟨splice_take L k m _ HH.out HM1.out (by have := HL.out; have := HC.out; have := HM2.out; omega)⟩, HG5, HB5⟩
    · obtain rfl : k = n := by have := HK.out; omega
      clear hkn; have hl : decide (k < k) = false := by simp
      go_wp2
      go_ret
      refine ⟨_, rfl, ⟨w.heap.size, k, L.toArray, by simp, Nat.le_refl _, HG.out, by simp, by simp [HL.out]; omega, by simp; omega, ?_⟩, HB.out⟩; apply List.ext_getElem?
      intro j; have hL := HL.out; by_cases hj : j < k
      · rw [List.getElem?_take, if_pos (by simpa using hj)]
        rw [show L.toArray.toList[j]? = L[j]? from rfl, HH.out j hj]; simp [nums, hj]
      · rw [List.getElem?_eq_none (by simp; omega), List.getElem?_eq_none (by simp [nums]; omega)]
theorem ExtRow_nil (w : World) (g : Nat) (base : Nat) (hb : base ≤ g) (cur : Array Value) (h : w.heap[g]? = some (.cells cur 5 (0, 0))) : ExtRow w base (.slice (some ⟨g, 0, none⟩) 0 0) [] :=
  ⟨g, 0, cur, rfl, hb, h, Nat.le_refl _, Nat.zero_le _, by simp, by simp [nums]⟩
theorem Repeat.zero (b o c : Nat) (w : World) :
    Calls Try.prog 87 #[.slice (some ⟨b, o, none⟩) 1 c, .int .i64 (0 : Int)] w fun e w' => ∃ v, e = .returned v ∧ ExtRow w' w.heap.size v [] ∧ Below w.heap.size w w' := by
  go_enter Try.func87, Try.ntmps87
  go_wp2
  go_ret
  exact ⟨_, rfl, ExtRow_nil _ w.heap.size _ (Nat.le_refl _) _ (heap_alloc_new w _), (Below.refl _ _).alloc (Nat.le_refl _) _⟩
theorem Repeat.all (b o c n : Nat) (hn : n ≤ 1024) (w : World) (hc : w.cell? ⟨b, o, none⟩ = some (.int .u8 255)) :
    Calls Try.prog 87 #[.slice (some ⟨b, o, none⟩) 1 c, .int .i64 (n : Int)] w fun e w' => ∃ v, e = .returned v ∧ ExtRow w' w.heap.size v (List.replicate n 255) ∧ Below w.heap.size w w' := by
  rcases Nat.eq_zero_or_pos n with h | h
  · subst h
    exact Repeat.zero b o c w
  · exact Repeat.pos b o c n hn h w hc
theorem src_of_C {w : World} {A : Option Addr} {n : Nat} {xs : List Int} (h : Kd.C (Kd.int .u8) w A n xs) (hp : 0 < n) : ∃ ad, A = some ad ∧ ∀ j v, (nums .u8 xs)[j]? = some v → w.cell? (ad.add j) = some v := by
  have hl : xs.length = n := h.1; obtain ⟨ad, e, _⟩ := Kd.at_int h 0 (by omega) (by omega); refine ⟨ad, e, fun j v hj => ?_⟩; have hlt : j < xs.length := by
    rcases Nat.lt_or_ge j xs.length with h1 | h1
    · exact h1
    · rw [List.getElem?_eq_none (by simpa [nums] using h1)] at hj
      cases hj
  obtain ⟨ad2, e2, hc⟩ := Kd.at_int h (j : Int) (by omega) (by omega); rw [e] at e2; obtain rfl := Option.some.inj e2; rw [Int.toNat_natCast] at hc; rw [hc, ← hj]; simp [nums, rd, List.getElem?_eq_getElem hlt, List.getD_eq_getElem?_getD]
theorem take_splice0 (cur : List Value) (cs : List Value) (n : Nat) (h : cs.length ≤ n) : (splice cur 0 cs).take n = cs ++ (cur.take n).drop cs.length := by
  unfold splice; simp only [List.take_zero, List.nil_append, Nat.zero_add]; rw [List.take_append, List.take_of_length_le h, List.drop_take]
theorem nums_take_some {k : IntKind} {xs : List Int} {n j : Nat} {v : Value} (h : (nums k (xs.take n))[j]? = some v) : (nums k xs)[j]? = some v := by
  unfold nums at h ⊢; rw [List.map_take, List.getElem?_take] at h; split at h
  · exact h
  · cases h
theorem nums_one {k : IntKind} {xs : List Int} {v : Value} (h : v ∈ nums k xs) : v.oneCell' = true := by
  unfold nums at h; obtain ⟨x, _, rfl⟩ := List.mem_map.1 h; rfl
def ext (l0 : List Int) (a1 : Int) : List Int := l0.take (min (max a1 0) 1024).toNat ++ List.replicate ((min (max a1 0) 1024).toNat - l0.length) 255
theorem ext_n (l0 : List Int) (a1 : Int) (n : Nat) (h : (n : Int) = min (max a1 0) 1024) : ext l0 a1 = l0.take n ++ List.replicate (n - l0.length) 255 := by
  unfold ext; rw [← h]; rfl
theorem ext_row {w : World} {base g cap n : Nat} {cur : Array Value} (l0 : List Int) (hb : base ≤ g) (hn : n ≤ 1024) (hcap : n ≤ cap) (hcur : cap ≤ cur.size) (ht : cur.toList.take n = nums .u8 (List.replicate n 255))
    (h : w.heap[g]? = some (.cells (splice cur.toList 0 (nums .u8 (l0.take n))).toArray 5 (0, 0))) : ExtRow w base (.slice (some ⟨g, 0, none⟩) n cap) (l0.take n ++ List.replicate (n - l0.length) 255) := by
  have hl : (l0.take n ++ List.replicate (n - l0.length) 255).length = n := by simp; omega
  have hcl : (nums .u8 (l0.take n)).length = min n l0.length := by simp [nums]
  refine ⟨g, cap, _, by rw [hl], hb, h, by rw [hl]; exact hcap, ?_, by rw [hl]; exact hn, ?_⟩
  · rw [List.size_toArray, length_splice _ _ _ (by rw [hcl]; simp only [Array.length_toList]; omega), Array.length_toList]
    exact hcur
  · rw [hl]
    show (splice cur.toList 0 (nums .u8 (l0.take n))).take n = _
    rw [take_splice0 _ _ _ (by rw [hcl]; omega), ht, nums_append, hcl]; congr 1
    simp [nums]
    omega
set_option maxHeartbeats 2000000 in
set_option maxRecDepth 100000 in
theorem ExtendS.calls (A0 : Option Addr) (c0 : Nat) (l0 : List Int) (a1 : Int) (w : World) (hr0 : Kd.C (Kd.int .u8) w A0 l0.length l0) :
    Calls Try.prog 46 #[.slice A0 l0.length c0, .int .i64 a1] w fun e w' => ∃ v, e = .returned v ∧ ExtRow w' w.heap.size v (ext l0 a1) ∧ Below w.heap.size w w' := by
  obtain ⟨n, hn⟩ : ∃ n : Nat, (n : Int) = min (max a1 0) 1024 := ⟨(min (max a1 0) 1024).toNat, by omega⟩; rw [ext_n l0 a1 n hn]; have hn1 : n ≤ 1024 := by omega
  obtain ⟨j1, hj1⟩ : ∃ j : Int, (if 1024 < a1 then 1024 else a1) = j := ⟨_, rfl⟩; have hj2 : (if 0 < j1 then j1 else 0) = (n : Int) := by
    split at hj1 <;> split <;> omega
  have HR := Aside0.mk hr0; have HN := Aside0.mk hn1; clear hn hr0 hn1; go_enter Try.func46, Try.ntmps46
  go_wp2_with (first | (go_at_call 87; (with_reducible refine (Repeat.all w.heap.size 0 1 n HN.out _ (by simp)).mono ?_); rintro e w2 ⟨v2, rfl, hx, hb⟩; obtain ⟨g, cap, cur, hv, hg, hh, h1, h2, h3, h4⟩ := hx; rw [List.length_replicate] at hv h1 h3 h4; subst hv; have HB := Aside0.mk hb; have HG := Aside0.mk hg; have HH := Aside0.mk hh; have H1 := Aside0.mk h1; have H2 := Aside0.mk h2; have H4 := Aside0.mk h4; clear hb hg hh h1 h2 h3 h4) | ((with_reducible refine gate_builtin (b := .copy) (xs := #[.tmp 12, .tmp 13]) rfl ?_); refine wpList_copy_splice (by rfl) (.tmp 12) (.tmp 13) 27 27 (by rfl) 5 Try.underlying27 info5s (some ⟨g, 0, none⟩) A0 n cap l0.length c0 (by rfl) (by rfl) g 0 cur.toList 5 ?hg (nums .u8 (l0.take n)) ?hn ?hpos ?hfit ?h1 w.heap.size w ?hb ?hBg ?_; (case hg => exact HH.out); (case hn => show _ = min l0.length n; simp [nums]; omega); (case hpos => intro hp_; have hlp_ : 0 < l0.length := (by rw [nums_length, List.length_take] at hp_; omega); obtain ⟨ad_, ea_, hs_⟩ := src_of_C (Kd.C_below (Kd.C_below HR.out (below_alloc (Below.refl _ _) _)) HB.out) hlp_; exact ⟨rfl, ad_, ea_, fun j v hj => hs_ j v (nums_take_some hj)⟩); (case hfit => rw [nums_length, List.length_take]; have := H1.out; have := H2.out; simp only [Array.length_toList]; omega); (case h1 => exact fun v hv => nums_one hv); (case hb => exact below_step (below_alloc (Below.refl _ _) _) HB.out); (case hBg => have h_ := HG.out; simp only [World.size_alloc] at h_; omega); intro w3 hg3 hb3; have HG3 := Aside0.mk hg3.out; have HB3 := Aside0.mk hb3; clear hg3 hb3))
  go_ret
  exact ⟨_, rfl, ext_row l0 (by have h_ := HG.out; simp only [World.size_alloc] at h_; omega) HN.out H1.out H2.out H4.out HG3.out, HB3.out⟩
theorem ExtRow.toV {w : World} {base : Nat} {v : Value} {xs : List Int} (h : ExtRow w base v xs) : Kd.V (Kd.int .u8) 5 w base (fun k_ => base ≤ k_) v xs := by
  obtain ⟨g, cap, cur, rfl, hb, hh, h1, h2, h3, h4⟩ := h; refine Kd.V_mk h1 ?_; intro W' hW; have hlt : g < w.heap.size := (Array.getElem?_eq_some_iff.1 hh).1; have hg : W'.heap[g]? = some (.cells cur 5 (0, 0)) := (hW g hb hlt).trans hh; refine Kd.C_of_reads (d := (0 : Int)) (h1 := fun _ => rfl) ⟨rfl, by omega, fun hp => ⟨⟨g, 0, none⟩, rfl, fun j hj => ?_⟩⟩; rw [add_plain, cell_of_row W' g j cur 5 (0, 0) hg]; have e : cur.toList[j]? = (nums .u8 xs)[j]? := by
    rw [← h4, List.getElem?_take, if_pos hj]
  rw [← Array.getElem?_toList, e]; simp [nums, List.getElem?_eq_getElem hj, List.getD_eq_getElem?_getD]
def Extend.f (l0 : List Int) (a1 : Int) : Option (List Int) := some (ext l0 a1)
theorem Extend.calls (A0 : Option Addr) (c0 : Nat) (l0 : List Int) (a1 : Int) (r : List Int) (w : World) (hr0 : Kd.C (Kd.int .u8) w A0 l0.length l0) (hc0 : l0.length ≤ c0) (h : Extend.f l0 a1 = some r) :
    Calls Try.prog 46 #[.slice A0 l0.length c0, .int .i64 a1] w fun e w' => ∃ v0_ : Value, e = .returned (v0_) ∧ Kd.V (Kd.int .u8) 5 w' w.heap.size (fun k_ => (w.heap.size ≤ k_)) v0_ r ∧ Below w.heap.size w w' := by
  unfold Extend.f at h; obtain rfl := Option.some.inj h; refine (ExtendS.calls A0 c0 l0 a1 w hr0).mono ?_; rintro e w' ⟨v, rfl, hx, hb⟩; exact ⟨v, rfl, hx.toV, hb⟩

/-! ### mask_Clear: function 49 -/
def mask_Clear.l0 : Nat → List Int → List Int → Int → Int → Option (List Int)
 | 0, _, _, _, _ => none
 | k + 1, x5, x10, x11, x12 => if x12 < x11 then (if 0 ≤ x12 then (if x12 < (x10.length : Int) then ((mask_set.f k x5 (rd x10 x12) false).bind fun t153 => (mask_Clear.l0 k t153 x10 x11 (wrap64 (x12 + 1)))) else (none)) else (none)) else (some x5)
def mask_Clear.f (k : Nat) (l0 : List Int) (l1 : List Int) : Option (List Int) := (CloneB.f l0).bind fun t149 => (mask_Clear.l0 k t149 l1 (l1.length : Int) 0)
theorem mask_Clear.mono_l : ∀ k, (∀ y0 y1 y2 y3, LeO (mask_Clear.l0 k y0 y1 y2 y3) (mask_Clear.l0 (k + 1) y0 y1 y2 y3))
 | 0 => fun _ _ _ _ r h => by simp [mask_Clear.l0] at h
 | k + 1 => by
  have ih0 := mask_Clear.mono_l k
  ·
   intro y0 y1 y2 y3; unfold mask_Clear.l0
   repeat' first
   | (with_reducible exact ih0 _ _ _ _)
   | (with_reducible exact mask_set.mono _ _ _ _)
   | (with_reducible exact LeO.refl _)
   | (with_reducible exact LeO.none _)
   | (with_reducible refine LeO.ite ?_ ?_)
   | (with_reducible refine LeO.bind ?_ (fun _ => ?_))
   | exact ih0 _ _ _ _
   | exact mask_set.mono _ _ _ _
   | exact LeO.none _
   | refine LeO.ite ?_ ?_
   | refine LeO.bind ?_ (fun _ => ?_)
theorem mask_Clear.mono : ∀ a0 a1 k, LeO (mask_Clear.f k a0 a1) (mask_Clear.f (k + 1) a0 a1) := by
 intro a0 a1 k; have ih0 := mask_Clear.mono_l k; unfold mask_Clear.f
 repeat' first
   | (with_reducible exact ih0 _ _ _ _)
   | (with_reducible exact mask_set.mono _ _ _ _)
   | (with_reducible exact LeO.refl _)
   | (with_reducible exact LeO.none _)
   | (with_reducible refine LeO.ite ?_ ?_)
   | (with_reducible refine LeO.bind ?_ (fun _ => ?_))
   | exact ih0 _ _ _ _
   | exact mask_set.mono _ _ _ _
   | exact LeO.none _
   | refine LeO.ite ?_ ?_
   | refine LeO.bind ?_ (fun _ => ?_)
set_option maxHeartbeats 8000000 in
set_option maxRecDepth 100000 in
theorem mask_Clear.calls (k : Nat) (A0 : Option Addr) (c0 : Nat) (l0 : List Int) (A1 : Option Addr) (c1 : Nat) (l1 : List Int) (r : List Int) (w : World) (hr0 : Kd.C (Kd.int .u8) w A0 l0.length l0) (hc0 : l0.length ≤ c0) (hr1 : Kd.C (Kd.int .i64) w A1 l1.length l1) (hc1 : l1.length ≤ c1) (h : mask_Clear.f k l0 l1 = some r) :
  Calls Try.prog 49 #[.slice A0 l0.length c0, .slice A1 l1.length c1] w fun e w' => ∃ v0_ : Value, e = .returned (v0_) ∧ Kd.R (Kd.int .u8) 5 w' w.heap.size (fun _ => True) v0_ r ∧ Below w.heap.size w w' := by
 have HR0 := Aside0.mk hr0; have HC0 := Aside0.mk hc0; clear hr0 hc0; have HR1 := Aside0.mk hr1; have HC1 := Aside0.mk hc1; clear hr1 hc1; have HB := Aside0.mk (Below.refl w.heap.size w); have H : ((CloneB.f l0).bind fun t149 => (mask_Clear.l0 k t149 l1 (l1.length : Int) 0)) = some r := h; clear h; replace H := Option.bind_eq_some_iff.mp H; obtain ⟨t149, A30, H⟩ := H; (try dsimp only at H); have A3 := Aside0.mk A30; clear A30; have H' := Aside0.mk H; clear H; go_enter Try.func49, Try.ntmps49
 go_wp2_with (first | ((with_reducible refine gate_callee (f := 81) rfl ?_); refine goesL_ (some 9) rfl rfl Try.func81 (by kernel_rfl) rfl #[.slice A0 l0.length c0] rfl lm_ ?_; (with_reducible refine (CloneB.calls _ _ l0 t149 _ ?side1 ?side2 A3.out).mono ?_); (case side1 => exact kD_ HR0.out); (case side2 => exact HC0.out); rintro e w4 ⟨v150, rfl, ho0, hb⟩; refine ⟨_, rfl, ?_⟩; have n0_ := Aside0.mk (Kd.R_lower ho0 (below_size (hb0_ HB.out))); have n1_ := Aside0.mk (below_step (hb0_ HB.out) hb); clear HB; revert n0_ n1_; intro HO151 HB; (try clear hb); (try clear hb2); (try clear hk); (try clear hi); (try clear ho0)))
 go_loopg [12] k (fun kq v12 w' => ∃ (x5_1 : List Int) (x12_1 : Int), v12 = .int .i64 x12_1 ∧ Aside0 (mask_Clear.l0 kq x5_1 l1 (l1.length : Int) x12_1 = some r) ∧ Aside0 (kq ≤ k) ∧ Aside0 (Kd.R (Kd.int .u8) 5 w' w.heap.size (fun _ => True) v150 x5_1) ∧ Aside0 (Below w.heap.size w w'))
 case atStart => exact ⟨(t149), (0), rf_, H', ⟨Nat.le_refl _⟩, ⟨by (with_reducible repeat (first | apply Kd.R_alloc | apply Kd.R_drewN | apply Kd.R_drew)); exact HO151.out⟩, ⟨(hb0_ HB.out)⟩⟩
 case round =>
  clear H'; try clear c1
  try clear p2
  try clear c4
  obtain ⟨x5_1, x12_1, rfl, HA, HK1, HO_5, HB⟩ := hrel; cases gk with
  | zero => exact absurd HA.out (by simp [mask_Clear.l0])
  | succ k1 =>
   have H := HA.out; clear HA; simp only [mask_Clear.l0] at H; by_cases c5 : x12_1 < (l1.length : Int)
   ·
    rw [if_pos c5] at H; have c5b0 : decide (x12_1 < (l1.length : Int)) = true := decide_eq_true c5; clear c5; by_cases c6 : 0 ≤ x12_1
    rotate_left
    ·
     rw [if_neg c6] at H; exact absurd H (by simp)
    rw [if_pos c6] at H; have c6b0 : decide (0 ≤ x12_1) = true := decide_eq_true c6; clear c6; by_cases c7 : x12_1 < (l1.length : Int)
    rotate_left
    ·
     rw [if_neg c7] at H; exact absurd H (by simp)
    rw [if_pos c7] at H; have c7b0 : decide (x12_1 < (l1.length : Int)) = true := decide_eq_true c7; clear c7; replace H := Option.bind_eq_some_iff.mp H; obtain ⟨t153, A80, H⟩ := H; (try dsimp only at H); have A8 := Aside0.mk A80; clear A80; have H' := Aside0.mk H; clear H; have p152 : 0 ≤ (x12_1 : Int) := od_; have q152 : x12_1 < (l1.length : Int) := od_; obtain ⟨ad152, e152, hx152_0⟩ := Kd.at_int HR1.out x12_1 p152 q152; cases e152; replace hx152_0 := (HB.out.cell (World.block_lt_of_cell? w _ hx152_0)).trans hx152_0; replace p152 := eq_true p152; replace q152 := eq_true q152; obtain ⟨Ao9, co9, eo9⟩ := Kd.R_slice HO_5.out; subst eo9; go_wp2_with (first | ((with_reducible refine gate_callee (f := 88) rfl ?_); refine goesL_ (some 18) rfl rfl Try.func88 (by kernel_rfl) rfl #[.slice Ao9 x5_1.length co9, .int .i64 (rd l1 x12_1), .bool false] rfl lm_ ?_; (with_reducible refine (mask_set.calls k1 (fun k_ => some k_ = (.slice Ao9 x5_1.length co9 : Value).ownBlock) (.slice Ao9 x5_1.length co9) x5_1 (rd l1 x12_1) false t153 w _ ?side1 ?side2 A8.out).mono ?_); (case side1 => exact (hb0_ HB.out)); (case side2 => exact Kd.R_tight rfl HO_5.out); rintro e w10 ⟨rfl, hy0, hb, hkp⟩; refine ⟨_, rfl, ?_⟩; have n0_ := Aside0.mk (Kd.R_reok rfl hy0 (fun k_ e_ => HO_5.out.1 k_ e_)); have n1_ := Aside0.mk (hb); clear HO_5 HB; revert n0_ n1_; intro HO_5 HB; (try clear hb); (try clear hkp); (try clear hy0)))
    go_roundg k1
    case measure => have := HK1.out; omega
    case rel => exact ⟨(t153), (wrap64 (x12_1 + 1)), rf_, H', ⟨by have := HK1.out; omega⟩, ⟨by (with_reducible repeat (first | apply Kd.R_alloc | apply Kd.R_drewN | apply Kd.R_drew)); exact HO_5.out⟩, ⟨(hb0_ HB.out)⟩⟩
   ·
    rw [if_neg c5] at H; have c5b0 : decide (x12_1 < (l1.length : Int)) = false := decide_eq_false c5; clear c5; obtain rfl := Option.some.inj H; go_wp2
    go_ret
    exact ⟨_, by first | rfl | (simp [errW_none, errW_some] <;> rfl) | (simp [*, errW_none, errW_some] <;> rfl), by (with_reducible repeat (first | apply Kd.R_alloc | apply Kd.R_drewN | apply Kd.R_drew)); exact HO_5.out, (hb0_ HB.out)⟩

open List (setIfInBounds_toArray set_cons_zero set_cons_succ)
/-! ### mask_And: function 50 -/
def mask_And.l0 : Nat → List Int → List Int → Int → Int → Option (List Int)
 | 0, _, _, _, _ => none
 | k + 1, x1, x5, x16, x17 => if x17 < x16 then (if 0 ≤ x17 then (if x17 < (x5.length : Int) then (if x17 < (x1.length : Int) then (mask_And.l0 k x1 (x5.set (x17 : Int).toNat (Go.bits .and .u8 (rd x5 x17) (rd x1 x17))) x16 (wrap64 (x17 + 1))) else (none)) else (none)) else (none)) else (some x5)
def mask_And.f (k : Nat) (l0 : List Int) (l1 : List Int) : Option (List Int) := if 0 ≤ (mn (l0.length : Int) (l1.length : Int)) then (if (mn (l0.length : Int) (l1.length : Int)) ≤ (l0.length : Int) then ((CloneB.f (l0.take ((mn (l0.length : Int) (l1.length : Int)) : Int).toNat)).bind fun t155 => (mask_And.l0 k l1 t155 (t155.length : Int) 0)) else (none)) else (none)
theorem mask_And.mono_l : ∀ k, (∀ y0 y1 y2 y3, LeO (mask_And.l0 k y0 y1 y2 y3) (mask_And.l0 (k + 1) y0 y1 y2 y3))
 | 0 => fun _ _ _ _ r h => by simp [mask_And.l0] at h
 | k + 1 => by
  have ih0 := mask_And.mono_l k
  ·
   intro y0 y1 y2 y3; unfold mask_And.l0
   repeat' first
   | (with_reducible exact ih0 _ _ _ _)
   | (with_reducible exact LeO.refl _)
   | (with_reducible exact LeO.none _)
   | (with_reducible refine LeO.ite ?_ ?_)
   | (with_reducible refine LeO.bind ?_ (fun _ => ?_))
   | exact ih0 _ _ _ _
   | exact LeO.none _
   | refine LeO.ite ?_ ?_
   | refine LeO.bind ?_ (fun _ => ?_)
theorem mask_And.mono : ∀ a0 a1 k, LeO (mask_And.f k a0 a1) (mask_And.f (k + 1) a0 a1) := by
 intro a0 a1 k; have ih0 := mask_And.mono_l k; unfold mask_And.f
 repeat' first
   | (with_reducible exact ih0 _ _ _ _)
   | (with_reducible exact LeO.refl _)
   | (with_reducible exact LeO.none _)
   | (with_reducible refine LeO.ite ?_ ?_)
   | (with_reducible refine LeO.bind ?_ (fun _ => ?_))
   | exact ih0 _ _ _ _
   | exact LeO.none _
   | refine LeO.ite ?_ ?_
   | refine LeO.bind ?_ (fun _ => ?_)
def mask_And.T5 : Bool × List (List Nat × List Nat) := (true, [([], []), ([], []), ([0, 1], [0, 1]), ([2], [2]), ([], []), ([], []), ([4, 5], [4, 5]), ([6], [6]), ([3, 7], [3, 7]), ([0, 1, 0, 1, 2, 3, 4, 5, 6, 7, 8], [0, 1]), ([9, 8, 0, 1, 2, 3, 4, 5, 6, 7, 8], [8, 9])])
def mask_And.B5 : List Nat := [0, 0, 3, 7, 0, 0, 48, 112, 255, 511, 1023]
theorem mask_And.tab5 : rtab .any (opsOf Try.f50 5) = mask_And.T5 := by kernel_rfl
theorem mask_And.bits5 : waitsOk mask_And.T5.2 mask_And.B5 = true := by kernel_rfl
set_option maxHeartbeats 8000000 in
set_option maxRecDepth 100000 in
theorem mask_And.calls (k : Nat) (A0 : Option Addr) (c0 : Nat) (l0 : List Int) (A1 : Option Addr) (c1 : Nat) (l1 : List Int) (r : List Int) (w : World) (hr0 : Kd.C (Kd.int .u8) w A0 l0.length l0) (hc0 : l0.length ≤ c0) (hr1 : Kd.C (Kd.int .u8) w A1 l1.length l1) (hc1 : l1.length ≤ c1) (h : mask_And.f k l0 l1 = some r) :
  Calls Try.prog 50 #[.slice A0 l0.length c0, .slice A1 l1.length c1] w fun e w' => ∃ v0_ : Value, e = .returned (v0_) ∧ Kd.R (Kd.int .u8) 5 w' w.heap.size (fun _ => True) v0_ r ∧ Below w.heap.size w w' := by
 have HR0 := Aside0.mk hr0; have HC0 := Aside0.mk hc0; clear hr0 hc0; have HR1 := Aside0.mk hr1; have HC1 := Aside0.mk hc1; clear hr1 hc1; have HB := Aside0.mk (Below.refl w.heap.size w); have H : (if 0 ≤ (mn (l0.length : Int) (l1.length : Int)) then (if (mn (l0.length : Int) (l1.length : Int)) ≤ (l0.length : Int) then ((CloneB.f (l0.take ((mn (l0.length : Int) (l1.length : Int)) : Int).toNat)).bind fun t155 => (mask_And.l0 k l1 t155 (t155.length : Int) 0)) else (none)) else (none)) = some r := h; clear h; obtain ⟨ji3, hji3⟩ : ∃ j_ : Int, (mn (l0.length : Int) (l1.length : Int)) = j_ := ⟨_, rfl⟩; replace H : (if 0 ≤ (ji3) then (if (ji3) ≤ (l0.length : Int) then ((CloneB.f (l0.take ((ji3) : Int).toNat)).bind fun t155 => (mask_And.l0 k l1 t155 (t155.length : Int) 0)) else (none)) else (none)) = some r := by first | (rw [hji3] at H; exact H) | (simp only [hji3] at H ⊢; exact H)
 (try (have hji3l : 0 ≤ ji3 := by (rw [← hji3]; unfold mn; (repeat' split) <;> omega)))
 (try (have hji3m : 0 ≤ ji3 := by omega))
 have hji3_ : (if (l1.length : Int) < (l0.length : Int) then (l1.length : Int) else (l0.length : Int)) = ji3 := hji3; have hji3N : (if l1.length < l0.length then (l1.length : Int) else (l0.length : Int)) = ji3 := by simpa only [Int.ofNat_lt] using hji3_
 by_cases c4 : 0 ≤ (ji3)
 ·
  rw [if_pos c4] at H; have c4b0 := eq_true c4; have c4b1 : decide (0 ≤ (ji3)) = true := decide_eq_true c4; clear c4; by_cases c5 : (ji3) ≤ (l0.length : Int)
  rotate_left
  ·
   rw [if_neg c5] at H; exact absurd H (by simp)
  rw [if_pos c5] at H; have c5b0 := eq_true c5; have c5b1 : decide ((ji3) ≤ (l0.length : Int)) = true := decide_eq_true c5; clear c5; replace H := Option.bind_eq_some_iff.mp H; obtain ⟨t155, A60, H⟩ := H; (try dsimp only at H); have A6 := Aside0.mk A60; clear A60; have H' := Aside0.mk H; clear H; obtain ⟨i07, hi07, _, hsz7, _⟩ := info_parts info5; obtain ⟨hcut7, hA7, hC7⟩ := print_take_of (P := Try.prog) (Value.int .u8) 0 27 5 .i64 Try.underlying27 hi07 hsz7 A0 c0 l0 (ji3) od_ od_ HC0.out; have HR154 := Aside0.mk (Kd.C_of_reads (h1 := fun _ => rfl) (hA7 _ (Kd.reads_of_C HR0.out))); have HC154 := Aside0.mk hC7; clear hA7 hC7 hi07 hsz7; go_enter Try.func50, Try.ntmps50
  go_wp2_with (first | ((with_reducible refine gate_callee (f := 81) rfl ?_); refine goesL_ (some 14) rfl rfl Try.func81 (by kernel_rfl) rfl #[.slice A0 (l0.take ((ji3) : Int).toNat).length c0] rfl (by (try simp only [List.map_toArray, List.map_cons, List.map_nil]); first | done | (rw [show (l0.take ((ji3) : Int).toNat).length = (ji3).toNat from (by rw [List.length_take]; have h_ : ((ji3) : Int) ≤ (l0.length : Int) := od_; omega)] <;> rfl) | (simp only [hji3]; rfl) | rfl | (simp only [List.length_drop, List.length_take]; rfl)) ?_; (with_reducible refine (CloneB.calls _ _ (l0.take ((ji3) : Int).toNat) t155 _ ?side1 ?side2 A6.out).mono ?_); (case side1 => exact kD_ HR154.out); (case side2 => exact HC154.out); rintro e w8 ⟨v156, rfl, ho0, hb⟩; refine ⟨_, rfl, ?_⟩; have n0_ := Aside0.mk (Kd.R_lower ho0 (below_size (hb0_ HB.out))); have n1_ := Aside0.mk (below_step (hb0_ HB.out) hb); clear HB; revert n0_ n1_; intro HO157 HB; (try clear hb); (try clear hb2); (try clear hk); (try clear hi); (try clear ho0); obtain ⟨Ao9, co9, eo9⟩ := Kd.R_slice HO157.out; subst eo9))
  go_loopg [17] k (fun kq v17 w' => ∃ (x5_1 : List Int) (x17_1 : Int), v17 = .int .i64 x17_1 ∧ Aside0 (mask_And.l0 kq l1 x5_1 (t155.length : Int) x17_1 = some r) ∧ Aside0 (kq ≤ k) ∧ Aside0 (Kd.R (Kd.int .u8) 5 w' w.heap.size (fun _ => True) (.slice Ao9 t155.length co9) x5_1) ∧ Aside0 (Below w.heap.size w w'))
  case atStart => exact ⟨(t155), (0), rf_, H', ⟨Nat.le_refl _⟩, ⟨by (with_reducible repeat (first | apply Kd.R_alloc | apply Kd.R_drewN | apply Kd.R_drew)); exact HO157.out⟩, ⟨(hb0_ HB.out)⟩⟩
  case round =>
   clear H'; try clear c1
   try clear p2
   try clear c4
   try clear c4b0
   try clear c4b1
   try clear c5
   try clear c5b0
   try clear c5b1
   try clear c8
   obtain ⟨x5_1, x17_1, rfl, HA, HK1, HO_5, HB⟩ := hrel; have hl5_1 := (Kd.R_reads' HO_5.out).1; rw [hl5_1] at HO_5; (try simp only [hl5_1])
   cases gk with
   | zero => exact absurd HA.out (by simp [mask_And.l0])
   | succ k1 =>
    have H := HA.out; clear HA; simp only [mask_And.l0] at H; by_cases c10 : x17_1 < (t155.length : Int)
    ·
     rw [if_pos c10] at H; have c10b0 : decide (x17_1 < (t155.length : Int)) = true := decide_eq_true c10; (try (have c10r0 := c10b0; simp only [hl5_1] at c10r0))
     clear c10; by_cases c11 : 0 ≤ x17_1
     rotate_left
     ·
      rw [if_neg c11] at H; exact absurd H (by simp)
     rw [if_pos c11] at H; have c11b0 : decide (0 ≤ x17_1) = true := decide_eq_true c11; clear c11; by_cases c12 : x17_1 < (x5_1.length : Int)
     rotate_left
     ·
      rw [if_neg c12] at H; exact absurd H (by simp)
     rw [if_pos c12] at H; have c12b0 : decide (x17_1 < (x5_1.length : Int)) = true := decide_eq_true c12; (try (have c12r0 := c12b0; simp only [hl5_1] at c12r0))
     clear c12; by_cases c13 : x17_1 < (l1.length : Int)
     rotate_left
     ·
      rw [if_neg c13] at H; exact absurd H (by simp)
     rw [if_pos c13] at H; have c13b0 : decide (x17_1 < (l1.length : Int)) = true := decide_eq_true c13; (try (have c13r0 := c13b0; simp only [hl5_1] at c13r0))
     clear c13; obtain ⟨y160, hy160⟩ : ∃ y_ : List Int, y_ = (x5_1.set (x17_1 : Int).toNat (Go.bits .and .u8 (rd x5_1 x17_1) (rd l1 x17_1))) := ⟨_, rfl⟩; replace H : (mask_And.l0 k1 l1 y160 (t155.length : Int) (wrap64 (x17_1 + 1))) = some r := by first | (rw [hy160]; with_reducible exact H) | (have H2_ := (Option.bind_some _ _).symm.trans H; rw [hy160]; with_reducible exact H2_) | (have H2_ := (Option.bind_some _ _).symm.trans H; with_reducible exact H2_) | with_reducible exact H | (rw [hy160]; exact H) | exact H
     have Ny160 := Aside0.mk hy160; clear hy160; have H' := Aside0.mk H; clear H; try go_wp2
     have n0_ := Aside0.mk (Kd.R_drew HO_5.out); have n1_ := Aside0.mk (below_drew1 HB.out); clear HO_5; clear HB; revert n0_ n1_; intro HO_5 HB; have p158 : 0 ≤ (x17_1 : Int) := od_; have q158 : x17_1 < (x5_1.length : Int) := od_; obtain ⟨ad158, e158, hx158_0⟩ := Kd.at_int (Kd.R_reads' HO_5.out).2.2 x17_1 p158 q158; cases e158; replace p158 := eq_true p158; replace q158 := eq_true q158; have p159 : 0 ≤ (x17_1 : Int) := od_; have q159 : x17_1 < (l1.length : Int) := od_; obtain ⟨ad159, e159, hx159_0⟩ := Kd.at_int HR1.out x17_1 p159 q159; have hw159_0 := hx159_0; cases e159; replace hx159_0 := (HB.out.cell (World.block_lt_of_cell? w _ hx159_0)).trans hx159_0; replace p159 := eq_true p159; replace q159 := eq_true q159; have p14 : 0 ≤ (x17_1 : Int) := od_; have q14 : (x17_1 : Int) < ((x5_1.length : Int) : Int) := od_; obtain ⟨go14, co14, eo14, gb14, gl14, cl14, HG14⟩ := Kd.R_form HO_5.out (by omega); (first | cases eo14 | (injection eo14 with ea_ en_ ec_; (first | subst ea_ | (injection ea_ with ea_; subst ea_)); subst ec_; clear en_))
     have GB14 := Aside0.mk gb14; have GG14 := Aside0.mk HG14; clear gb14 gl14 HG14; (first | simp only [add_plain] at hx158_0 | skip)
     obtain ⟨hx14_0, hf14_0⟩ := Kd.R_celln 0 HO_5.out (x17_1 : Int) p14 q14; replace p14 := eq_true p14; replace q14 := eq_true q14; have HP16 := Kd.R_putn HO_5.out (x17_1 : Int) (Go.bits .and .u8 (rd x5_1 x17_1) (rd l1 x17_1)); rw [← Ny160.out] at HP16; have HQ16 := Aside0.mk HP16; clear HP16; refine start_ (n := 11) (S := fun w' => w'.cell? ⟨go14, (x17_1).toNat, none⟩ = some (.int .u8 (rd x5_1 x17_1)) ∧ w'.cell? (ad159.add (x17_1).toNat) = some (.int .u8 (rd l1 x17_1))) (ds := [10]) (mk_ 0 11) (by kernel_rfl) rfl rfl ⟨hx158_0, ((HB.out.cell (World.block_lt_of_cell? w _ hw159_0)).trans hw159_0)⟩ (fun hHeld => ?_); refine with_tabW mask_And.tab5 mask_And.bits5 (fun HT_ HW_ => ?_); generalize wr.drew = w15 at HO_5 HB GG14 HQ16 hf14_0 hx14_0 hx158_0 hx159_0 hHeld ⊢; refine pu_ 0 (some 20) (mk_ 1 11) HT_ ?_; refine pu_ 1 (some 21) (mk_ 2 11) HT_ ?_; refine pu_ 2 (some 22) (mk_ 3 11) HT_ ?_; refine pu_ 4 (some 24) (bm_ 11 23) HT_ ?_; refine pu_ 5 (some 25) (bm_ 11 55) HT_ ?_; refine pu_ 6 (some 26) (bm_ 11 119) HT_ ?_; refine take_ (i := 3) (N := some 23) (v := ?_) (a' := ?_) (mk_ 7 11) rfl rfl (take_ofW HT_.out HW_.out (by kernel_rfl)) (fun _ _ _ h => h) (Or.inl ⟨by rfl, ?_⟩) hHeld ?_ ?_; rotate_left
     ·
      rintro w' ⟨s0, s1⟩; go_simp
      with_reducible rfl
     rotate_left
     ·
      simp only [Act.put, setIfInBounds_toArray, set_cons_zero, set_cons_succ, i64_w, i32_w]; rfl
     refine take_ (i := 7) (N := some 27) (v := ?_) (a' := ?_) (mk_ 8 11) rfl rfl (take_ofW HT_.out HW_.out (by kernel_rfl)) (fun _ _ _ h => h) (Or.inl ⟨by rfl, ?_⟩) hHeld ?_ ?_; rotate_left
     ·
      rintro w' ⟨s0, s1⟩; go_simp
      with_reducible rfl
     rotate_left
     ·
      simp only [Act.put, setIfInBounds_toArray, set_cons_zero, set_cons_succ, i64_w, i32_w]; rfl
     refine pu_ 8 (some 28) (mk_ 9 11) HT_ ?_; refine pu_ 9 (some 29) (mk_ 10 11) HT_ ?_; refine last_ (i := 10) (N := none) (mk_ 11 11) rfl rfl (one_of HT_.out (by kernel_rfl)) (by decide) (fun K hK => ?_); refine skip_ (w1 := ?_) (by rfl) rfl ?_ ?_; rotate_left
     ·
      go_simp
      rfl
     refine hK.out _ _ ?_; clear hK K; refine done_ (done_of HT_.out (by kernel_rfl)) ?_; try go_wp2
     (try simp only [← hl5_1])
     go_roundg k1
     case measure => have := HK1.out; omega
     case rel => exact ⟨(y160), (wrap64 (x17_1 + 1)), rf_, H', ⟨by have := HK1.out; omega⟩, ⟨by (try simp only [hl5_1]); (with_reducible repeat (first | apply Kd.R_alloc | apply Kd.R_drewN | apply Kd.R_drew)); exact HQ16.out⟩, ⟨(hb1_ HB.out GB14.out)⟩⟩
    ·
     rw [if_neg c10] at H; have c10b0 : decide (x17_1 < (t155.length : Int)) = false := decide_eq_false c10; (try (have c10r0 := c10b0; simp only [hl5_1] at c10r0))
     clear c10; obtain rfl := Option.some.inj H; go_wp2
     go_ret
     exact ⟨_, by first | rfl | (simp [errW_none, errW_some] <;> rfl) | (simp only [← hji3]; first | rfl | (simp [errW_none, errW_some] <;> rfl)) | (simp [*, errW_none, errW_some] <;> rfl), by (with_reducible repeat (first | apply Kd.R_alloc | apply Kd.R_drewN | apply Kd.R_drew)); exact HO_5.out, (hb0_ HB.out)⟩
 ·
  rw [if_neg c4] at H; exact absurd H (by simp)

/-! ### mask_Fits: function 51 -/
def mask_Fits.f (k : Nat) (l0 : List Int) (l1 : List Int) : Option (Bool) := if (l0.length : Int) = (l1.length : Int) then ((mask_And.f k l0 l1).bind fun t161 => ((mask_Count.f k t161).bind fun t164 => (some (t164 == 0)))) else (some false)
theorem mask_Fits.mono : ∀ a0 a1 k, LeO (mask_Fits.f k a0 a1) (mask_Fits.f (k + 1) a0 a1) := by
 intro a0 a1 k; unfold mask_Fits.f
 repeat' first
   | (with_reducible exact mask_And.mono _ _ _)
   | (with_reducible exact mask_Count.mono _ _)
   | (with_reducible exact LeO.refl _)
   | (with_reducible exact LeO.none _)
   | (with_reducible refine LeO.ite ?_ ?_)
   | (with_reducible refine LeO.bind ?_ (fun _ => ?_))
   | exact mask_And.mono _ _ _
   | exact mask_Count.mono _ _
   | exact LeO.none _
   | refine LeO.ite ?_ ?_
   | refine LeO.bind ?_ (fun _ => ?_)
set_option maxHeartbeats 8000000 in
set_option maxRecDepth 100000 in
theorem mask_Fits.calls (k : Nat) (A0 : Option Addr) (c0 : Nat) (l0 : List Int) (A1 : Option Addr) (c1 : Nat) (l1 : List Int) (r : Bool) (w : World) (hr0 : Kd.C (Kd.int .u8) w A0 l0.length l0) (hc0 : l0.length ≤ c0) (hr1 : Kd.C (Kd.int .u8) w A1 l1.length l1) (hc1 : l1.length ≤ c1) (h : mask_Fits.f k l0 l1 = some r) :
  Calls Try.prog 51 #[.slice A0 l0.length c0, .slice A1 l1.length c1] w fun e w' => e = .returned (.bool r) ∧ Below w.heap.size w w' := by
 have HR0 := Aside0.mk hr0; have HC0 := Aside0.mk hc0; clear hr0 hc0; have HR1 := Aside0.mk hr1; have HC1 := Aside0.mk hc1; clear hr1 hc1; have HB := Aside0.mk (Below.refl w.heap.size w); have H : (if (l0.length : Int) = (l1.length : Int) then ((mask_And.f k l0 l1).bind fun t161 => ((mask_Count.f k t161).bind fun t164 => (some (t164 == 0)))) else (some false)) = some r := h; clear h; by_cases c3 : (l0.length : Int) = (l1.length : Int)
 ·
  rw [if_pos c3] at H; have c3b0 : ((l0.length : Int) == (l1.length : Int)) = true := beq_iff_eq.mpr c3; have c3b1 : ((l0.length : Int) != (l1.length : Int)) = false := bne_eq_false_iff_eq.mpr c3; have c3b2 : (l0.length == l1.length) = true := by first | simpa using c3 | (simp at c3 ⊢; omega)
  clear c3; replace H := Option.bind_eq_some_iff.mp H; obtain ⟨t161, A40, H⟩ := H; (try dsimp only at H); have A4 := Aside0.mk A40; clear A40; replace H := Option.bind_eq_some_iff.mp H; obtain ⟨t164, A50, H⟩ := H; (try dsimp only at H); have A5 := Aside0.mk A50; clear A50; obtain rfl := Option.some.inj H; go_enter Try.func51, Try.ntmps51
  go_wp2_with (first | (go_at_call 50; (with_reducible refine (mask_And.calls k _ _ l0 _ _ l1 t161 _ ?side1 ?side2 ?side3 ?side4 A4.out).mono ?_); (case side1 => exact kD_ HR0.out); (case side2 => exact HC0.out); (case side3 => exact kD_ HR1.out); (case side4 => exact HC1.out); rintro e w6 ⟨v162, rfl, ho0, hb⟩; have n0_ := Aside0.mk (Kd.R_lower ho0 (below_size (hb0_ HB.out))); have n1_ := Aside0.mk (below_step (hb0_ HB.out) hb); clear HB; revert n0_ n1_; intro HO163 HB; (try clear hb); (try clear hb2); (try clear hk); (try clear hi); (try clear ho0); obtain ⟨Ao7, co7, eo7⟩ := Kd.R_slice HO163.out; subst eo7) | (go_at_call 45; (with_reducible refine (mask_Count.calls k _ _ t161 t164 _ ?side1 ?side2 A5.out).mono ?_); (case side1 => exact kD_ (Kd.R_reads' HO163.out).2.2); (case side2 => exact (Kd.R_reads' HO163.out).2.1); rintro e w' ⟨rfl, ⟨nd, rfl⟩⟩))
  go_ret
  exact ⟨by first | rfl | (simp [errW_none, errW_some] <;> rfl) | (simp [*, errW_none, errW_some] <;> rfl), (hb0_ HB.out)⟩
 ·
  rw [if_neg c3] at H; have c3b0 : ((l0.length : Int) == (l1.length : Int)) = false := beq_eq_false_iff_ne.mpr c3; have c3b1 : ((l0.length : Int) != (l1.length : Int)) = true := bne_iff_ne.mpr c3; have c3b2 : (l0.length == l1.length) = false := by first | simpa using c3 | (simp at c3 ⊢; omega)
  obtain rfl := Option.some.inj H; go_enter Try.func51, Try.ntmps51
  go_wp2
  go_ret
  exact ⟨by first | rfl | (simp [errW_none, errW_some] <;> rfl) | (simp [*, errW_none, errW_some] <;> rfl), (hb0_ HB.out)⟩

/-! ### ref15_Bits: function 52 -/
mutual
def ref15_Bits.j0 : Nat → List Int → Int → Bool → Option (List Int × Bool)
 | 0, _, _, _ => none
 | k + 1, x0, x1, x15 => if x15 = true then (some (([] : List Int), false)) else (ref15_Bits.l0 k x0 x1 ([] : List Int) 0)
def ref15_Bits.l0 : Nat → List Int → Int → List Int → Int → Option (List Int × Bool)
 | 0, _, _, _, _ => none
 | k + 1, x0, x1, x6, x7 => if (x6.length : Int) < x1 then ((ref15_set.f x0 x7).bind fun t166 => (if t166 = true then (if x6.length < 17592186044416 then (ref15_Bits.l0 k x0 x1 (x6 ++ [x7]) (wrap64 (x7 + 1))) else (none)) else (ref15_Bits.l0 k x0 x1 x6 (wrap64 (x7 + 1))))) else (some (x6, true))
end
def ref15_Bits.f (k : Nat) (l0 : List Int) (a1 : Int) : Option (List Int × Bool) := if a1 < 0 then (ref15_Bits.j0 k l0 a1 true) else ((ref15_Count.f k l0).bind fun t165 => (ref15_Bits.j0 k l0 a1 (decide (t165 < a1))))
theorem ref15_Bits.mono_l : ∀ k, (∀ y0 y1 y2, LeO (ref15_Bits.j0 k y0 y1 y2) (ref15_Bits.j0 (k + 1) y0 y1 y2)) ∧ (∀ y0 y1 y2 y3, LeO (ref15_Bits.l0 k y0 y1 y2 y3) (ref15_Bits.l0 (k + 1) y0 y1 y2 y3))
 | 0 => ⟨fun _ _ _ r h => by simp [ref15_Bits.j0] at h, fun _ _ _ _ r h => by simp [ref15_Bits.l0] at h⟩
 | k + 1 => by
  obtain ⟨ih0, ih1⟩ := ref15_Bits.mono_l k; refine ⟨?_, ?_⟩
  ·
   intro y0 y1 y2; unfold ref15_Bits.j0
   repeat' first
   | (with_reducible exact ih0 _ _ _)
   | (with_reducible exact ih1 _ _ _ _)
   | (with_reducible exact ref15_Count.mono _ _)
   | (with_reducible exact LeO.refl _)
   | (with_reducible exact LeO.none _)
   | (with_reducible refine LeO.ite ?_ ?_)
   | (with_reducible refine LeO.bind ?_ (fun _ => ?_))
   | exact ih0 _ _ _
   | exact ih1 _ _ _ _
   | exact ref15_Count.mono _ _
   | exact LeO.none _
   | refine LeO.ite ?_ ?_
   | refine LeO.bind ?_ (fun _ => ?_)
  ·
   intro y0 y1 y2 y3; unfold ref15_Bits.l0
   repeat' first
   | (with_reducible exact ih0 _ _ _)
   | (with_reducible exact ih1 _ _ _ _)
   | (with_reducible exact ref15_Count.mono _ _)
   | (with_reducible exact LeO.refl _)
   | (with_reducible exact LeO.none _)
   | (with_reducible refine LeO.ite ?_ ?_)
   | (with_reducible refine LeO.bind ?_ (fun _ => ?_))
   | exact ih0 _ _ _
   | exact ih1 _ _ _ _
   | exact ref15_Count.mono _ _
   | exact LeO.none _
   | refine LeO.ite ?_ ?_
   | refine LeO.bind ?_ (fun _ => ?_)
theorem ref15_Bits.mono : ∀ a0 a1 k, LeO (ref15_Bits.f k a0 a1) (ref15_Bits.f (k + 1) a0 a1) := by
 intro a0 a1 k; obtain ⟨ih0, ih1⟩ := ref15_Bits.mono_l k; unfold ref15_Bits.f
 repeat' first
   | (with_reducible exact ih0 _ _ _)
   | (with_reducible exact ih1 _ _ _ _)
   | (with_reducible exact ref15_Count.mono _ _)
   | (with_reducible exact LeO.refl _)
   | (with_reducible exact LeO.none _)
   | (with_reducible refine LeO.ite ?_ ?_)
   | (with_reducible refine LeO.bind ?_ (fun _ => ?_))
   | exact ih0 _ _ _
   | exact ih1 _ _ _ _
   | exact ref15_Count.mono _ _
   | exact LeO.none _
   | refine LeO.ite ?_ ?_
   | refine LeO.bind ?_ (fun _ => ?_)
set_option maxHeartbeats 8000000 in
set_option maxRecDepth 100000 in
theorem ref15_Bits.calls (k : Nat) (A0 : Option Addr) (c0 : Nat) (l0 : List Int) (a1 : Int) (r1 : List Int) (r2 : Bool) (w : World) (hr0 : Kd.C (Kd.int .u8) w A0 l0.length l0) (hc0 : l0.length ≤ c0) (h : ref15_Bits.f k l0 a1 = some (r1, r2)) :
  Calls Try.prog 52 #[.slice A0 l0.length c0, .int .i64 a1] w fun e w' => ∃ v0_ : Value, e = .returned (.tuple #[v0_, .bool r2]) ∧ Kd.R (Kd.int .i64) 3 w' w.heap.size (fun _ => True) v0_ r1 ∧ Below w.heap.size w w' := by
 have HR0 := Aside0.mk hr0; have HC0 := Aside0.mk hc0; clear hr0 hc0; have HB := Aside0.mk (Below.refl w.heap.size w); have H : (if a1 < 0 then (ref15_Bits.j0 k l0 a1 true) else ((ref15_Count.f k l0).bind fun t165 => (ref15_Bits.j0 k l0 a1 (decide (t165 < a1))))) = some (r1, r2) := h; clear h; have HC3 := Aside0.mk H; clear H; go_enter Try.func52, Try.ntmps52
 go_upto_region 1 with (fail)
 go_cut [15] (fun v15 wc => ∃ (kq : Nat) (x15_2 : Bool), v15 = .bool x15_2 ∧ Aside0 (ref15_Bits.j0 kq l0 a1 x15_2 = some (r1, r2)) ∧ Aside0 (kq ≤ k) ∧ Aside0 (Below w.heap.size w wc))
 case first =>
  have H := HC3.out; clear HC3; by_cases c4 : a1 < 0
  ·
   rw [if_pos c4] at H; have c4b0 : decide (a1 < 0) = true := decide_eq_true c4; clear c4; (first | rw [c4b0] | (simp only [i64_w, i32_w]; rw [c4b0]) | skip)
   have H' := Aside0.mk H; clear H; go_wp2
   go_meet
   case rel => exact ⟨_, (true), rf_, H', ⟨om_⟩, ⟨(hb0_ HB.out)⟩⟩
  ·
   rw [if_neg c4] at H; have c4b0 : decide (a1 < 0) = false := decide_eq_false c4; clear c4; (first | rw [c4b0] | (simp only [i64_w, i32_w]; rw [c4b0]) | skip)
   replace H := Option.bind_eq_some_iff.mp H; obtain ⟨t165, A50, H⟩ := H; (try dsimp only at H); have A5 := Aside0.mk A50; clear A50; have H' := Aside0.mk H; clear H; go_wp2_with (first | (go_at_call 32; (with_reducible refine (ref15_Count.calls k _ _ l0 t165 _ ?side1 ?side2 A5.out).mono ?_); (case side1 => exact kD_ (Kd.C_below HR0.out HB.out)); (case side2 => exact HC0.out); rintro e w' ⟨rfl, ⟨nd, rfl⟩⟩))
   go_meet
   case rel => exact ⟨_, (decide (t165 < a1)), rf_, H', ⟨om_⟩, ⟨(hb0_ HB.out)⟩⟩
 case rest =>
  clear HC3; try clear p2
  try clear c4
  try clear c4b0
  try clear c5
  obtain ⟨kq, x15_2, rfl, HA, HJ2, HB⟩ := hcut; cases kq with
  | zero => exact absurd HA.out (by simp [ref15_Bits.j0])
  | succ kj2 =>
   have H := HA.out; clear HA; simp only [ref15_Bits.j0] at H; by_cases c6 : x15_2 = true
   ·
    subst c6; have H1 : (some (([] : List Int), false)) = some (r1, r2) := by rw [if_pos rfl] at H; exact H
    clear H; have H := H1; clear H1; simp only [Option.some.injEq, Prod.mk.injEq] at H; obtain ⟨rfl, rfl⟩ := H; go_wp2
    go_ret2
    exact ⟨_, by first | rfl | (simp [errW_none, errW_some] <;> rfl) | (simp [*, errW_none, errW_some] <;> rfl), by first | exact Kd.R_nil _ _ _ _ _ | exact Kd.N_nil _ _ _ _ _ | exact Kd.V_nil _ _ _ _ _ | exact Kd.Q_nil _ _ _ _ _ | exact Kd.S_nil _ _ _ _ _, (hb0_ HB.out)⟩
   ·
    replace c6 := Bool.eq_false_iff.mpr c6; subst c6; have H1 : (ref15_Bits.l0 kj2 l0 a1 ([] : List Int) 0) = some (r1, r2) := by rw [if_neg (show ¬ (false = true) by decide)] at H; exact H
    clear H; have H := H1; clear H1; have H' := Aside0.mk H; clear H; go_wp2
    go_loopg [6, 7] kj2 (fun kq v6 v7 w' => ∃ (x6_2 : List Int) (x7_2 : Int), v7 = .int .i64 x7_2 ∧ Aside0 (ref15_Bits.l0 kq l0 a1 x6_2 x7_2 = some (r1, r2)) ∧ Aside0 (kq ≤ kj2) ∧ Aside0 (Kd.R (Kd.int .i64) 3 w' w.heap.size (fun _ => True) v6 x6_2) ∧ Aside0 (Below w.heap.size w w'))
    case atStart => exact ⟨(([] : List Int)), (0), rf_, H', ⟨Nat.le_refl _⟩, ⟨by first | exact Kd.R_nil _ _ _ _ _ | exact Kd.N_nil _ _ _ _ _ | exact Kd.V_nil _ _ _ _ _ | exact Kd.Q_nil _ _ _ _ _ | exact Kd.S_nil _ _ _ _ _⟩, ⟨(hb0_ HB.out)⟩⟩
    case round =>
     clear H'; try clear p2
     try clear c4
     try clear c4b0
     try clear c5
     try clear c6
     try clear p2
     obtain ⟨x6_2, x7_2, rfl, HA, HK2, HO_6, HB⟩ := hrel; cases gk with
     | zero => exact absurd HA.out (by simp [ref15_Bits.l0])
     | succ k2 =>
      have H := HA.out; clear HA; simp only [ref15_Bits.l0] at H; by_cases c7 : (x6_2.length : Int) < a1
      ·
       rw [if_pos c7] at H; have c7b0 : decide ((x6_2.length : Int) < a1) = true := decide_eq_true c7; clear c7; replace H := Option.bind_eq_some_iff.mp H; obtain ⟨t166, A80, H⟩ := H; (try dsimp only at H); have A8 := Aside0.mk A80; clear A80; by_cases c9 : t166 = true
       ·
        subst c9; have H1 : (if x6_2.length < 17592186044416 then (ref15_Bits.l0 k2 l0 a1 (x6_2 ++ [x7_2]) (wrap64 (x7_2 + 1))) else (none)) = some (r1, r2) := by rw [if_pos rfl] at H; exact H
        clear H; have H := H1; clear H1; by_cases c10 : x6_2.length < 17592186044416
        rotate_left
        ·
         rw [if_neg c10] at H; exact absurd H (by simp)
        rw [if_pos c10] at H; have LMc10 := Aside0.mk c10; clear c10; obtain ⟨y167, hy167⟩ : ∃ y_ : List Int, y_ = (x6_2 ++ [x7_2]) := ⟨_, rfl⟩; replace H : (ref15_Bits.l0 k2 l0 a1 y167 (wrap64 (x7_2 + 1))) = some (r1, r2) := by first | (rw [hy167]; with_reducible exact H) | (have H2_ := (Option.bind_some _ _).symm.trans H; rw [hy167]; with_reducible exact H2_) | (have H2_ := (Option.bind_some _ _).symm.trans H; with_reducible exact H2_) | with_reducible exact H | (rw [hy167]; exact H) | exact H
        have Ny167 := Aside0.mk hy167; clear hy167; have H' := Aside0.mk H; clear H; obtain ⟨Ao11, co11, eo11⟩ := Kd.R_slice HO_6.out; subst eo11; go_wp2_with (first | ((with_reducible refine gate_callee (f := 76) rfl ?_); refine goesL_ (some 24) rfl rfl Try.func76 (by kernel_rfl) rfl #[.slice A0 l0.length c0, .int .i64 x7_2] rfl lm_ ?_; (with_reducible refine (ref15_set.calls _ _ l0 x7_2 true _ ?side1 ?side2 A8.out).mono ?_); (case side1 => exact kD_ (Kd.C_below HR0.out HB.out)); (case side2 => exact HC0.out); rintro e w' ⟨rfl, ⟨nd, rfl⟩⟩; refine ⟨_, rfl, ?_⟩) | ((with_reducible refine gate_builtin (b := .append) (xs := #[.tmp 25, .tmp 27]) rfl ?_); at_builtin; refine Kd.R_append (Kd.int .i64) (w0 := w) w.heap.size rfl (.tmp 25) (.tmp 27) 23 3 (.int .i64 0) 8 rfl Try.underlying23 info3 rfl (by decide) (by omega) (.slice Ao11 x6_2.length co11) x6_2 x7_2 [.int .i64 x7_2] (fun _ => True) (fun _ => False) rfl rfl ?aP (fun _ hk => hk.elim) ?aF ?aO ?aB ?aS ?aL ?_; (case aP => exact rfl); (case aB => exact (hb0_ HB.out)); (case aF => exact (fun _ _ => trivial)); (case aO => exact (kR_ HO_6.out)); (case aS => exact (below_size (hb0_ HB.out))); (case aL => have := LMc10.out; omega); intro v168 w12 ho hb hg hat; rw [← Ny167.out] at ho; have n0_ := Aside0.mk (hb); have n1_ := Aside0.mk (ho); clear HB HO_6; revert n0_ n1_; intro HB HO169; clear ho hb hg hat))
        go_roundg k2
        case measure => have := HJ2.out; have := HK2.out; omega
        case rel => exact ⟨(y167), (wrap64 (x7_2 + 1)), rf_, H', ⟨by have := HJ2.out; have := HK2.out; omega⟩, ⟨by (with_reducible repeat (first | apply Kd.R_alloc | apply Kd.R_drewN | apply Kd.R_drew)); exact HO169.out⟩, ⟨(hb0_ HB.out)⟩⟩
       ·
        replace c9 := Bool.eq_false_iff.mpr c9; subst c9; have H1 : (ref15_Bits.l0 k2 l0 a1 x6_2 (wrap64 (x7_2 + 1))) = some (r1, r2) := by rw [if_neg (show ¬ (false = true) by decide)] at H; exact H
        clear H; have H := H1; clear H1; have H' := Aside0.mk H; clear H; obtain ⟨Ao13, co13, eo13⟩ := Kd.R_slice HO_6.out; subst eo13; go_wp2_with (first | ((with_reducible refine gate_callee (f := 76) rfl ?_); refine goesL_ (some 24) rfl rfl Try.func76 (by kernel_rfl) rfl #[.slice A0 l0.length c0, .int .i64 x7_2] rfl lm_ ?_; (with_reducible refine (ref15_set.calls _ _ l0 x7_2 false _ ?side1 ?side2 A8.out).mono ?_); (case side1 => exact kD_ (Kd.C_below HR0.out HB.out)); (case side2 => exact HC0.out); rintro e w' ⟨rfl, ⟨nd, rfl⟩⟩; refine ⟨_, rfl, ?_⟩))
        go_roundg k2
        case measure => have := HJ2.out; have := HK2.out; omega
        case rel => exact ⟨(x6_2), (wrap64 (x7_2 + 1)), rf_, H', ⟨by have := HJ2.out; have := HK2.out; omega⟩, ⟨by (with_reducible repeat (first | apply Kd.R_alloc | apply Kd.R_drewN | apply Kd.R_drew)); exact HO_6.out⟩, ⟨(hb0_ HB.out)⟩⟩
      ·
       rw [if_neg c7] at H; have c7b0 : decide ((x6_2.length : Int) < a1) = false := decide_eq_false c7; clear c7; simp only [Option.some.injEq, Prod.mk.injEq] at H; obtain ⟨rfl, rfl⟩ := H; obtain ⟨Ao14, co14, eo14⟩ := Kd.R_slice HO_6.out; subst eo14; go_wp2
       go_ret2
       exact ⟨_, by first | rfl | (simp [errW_none, errW_some] <;> rfl) | (simp [*, errW_none, errW_some] <;> rfl), by (with_reducible repeat (first | apply Kd.R_alloc | apply Kd.R_drewN | apply Kd.R_drew)); exact HO_6.out, (hb0_ HB.out)⟩

/-! ### ref15_change: function 89 -/
def ref15_change.j0 : Nat → List Int → Int → Bool → Bool → Option (List Int)
 | 0, _, _, _, _ => none
 | k + 1, x0, x1, x2, x15 => if x15 = true then (if 0 ≤ (wrap64 (Int.tdiv x1 8)) then (if (wrap64 (Int.tdiv x1 8)) < (x0.length : Int) then (if 0 ≤ (IntKind.u64.wrap (Int.tmod x1 8)) then ((some (x0.set ((wrap64 (Int.tdiv x1 8)) : Int).toNat (Go.bits .andNot .u8 (rd x0 (wrap64 (Int.tdiv x1 8))) (shl .u8 1 (IntKind.u64.wrap (Int.tmod x1 8)))) : List Int)).bind fun y171 => (if x2 = true then (some (y171.set ((wrap64 (Int.tdiv x1 8)) : Int).toNat (Go.bits .or .u8 (rd y171 (wrap64 (Int.tdiv x1 8))) (shl .u8 1 (IntKind.u64.wrap (Int.tmod x1 8)))))) else (some y171))) else (none)) else (none)) else (none)) else (some x0)
def ref15_change.f (k : Nat) (l0 : List Int) (a1 : Int) (a2 : Bool) : Option (List Int) := if a1 ≥ 0 then (ref15_change.j0 k l0 a1 a2 (decide ((wrap64 (Int.tdiv a1 8)) < (l0.length : Int)))) else (ref15_change.j0 k l0 a1 a2 false)
theorem ref15_change.mono_l : ∀ k, (∀ y0 y1 y2 y3, LeO (ref15_change.j0 k y0 y1 y2 y3) (ref15_change.j0 (k + 1) y0 y1 y2 y3))
 | 0 => fun _ _ _ _ r h => by simp [ref15_change.j0] at h
 | k + 1 => by
  have ih0 := ref15_change.mono_l k
  ·
   intro y0 y1 y2 y3; unfold ref15_change.j0
   repeat' first
   | (with_reducible exact ih0 _ _ _ _)
   | (with_reducible exact LeO.refl _)
   | (with_reducible exact LeO.none _)
   | (with_reducible refine LeO.ite ?_ ?_)
   | (with_reducible refine LeO.bind ?_ (fun _ => ?_))
   | exact ih0 _ _ _ _
   | exact LeO.none _
   | refine LeO.ite ?_ ?_
   | refine LeO.bind ?_ (fun _ => ?_)
theorem ref15_change.mono : ∀ a0 a1 a2 k, LeO (ref15_change.f k a0 a1 a2) (ref15_change.f (k + 1) a0 a1 a2) := by
 intro a0 a1 a2 k; have ih0 := ref15_change.mono_l k; unfold ref15_change.f
 repeat' first
   | (with_reducible exact ih0 _ _ _ _)
   | (with_reducible exact LeO.refl _)
   | (with_reducible exact LeO.none _)
   | (with_reducible refine LeO.ite ?_ ?_)
   | (with_reducible refine LeO.bind ?_ (fun _ => ?_))
   | exact ih0 _ _ _ _
   | exact LeO.none _
   | refine LeO.ite ?_ ?_
   | refine LeO.bind ?_ (fun _ => ?_)
set_option maxHeartbeats 8000000 in
set_option maxRecDepth 100000 in
theorem ref15_change.calls (k : Nat) (P0_ : Nat → Prop) (u9000_ : Value) (l0 : List Int) (a1 : Int) (a2 : Bool) (r : List Int) (w0 w : World) (hB : Below w0.heap.size w0 w) (ho0 : Kd.R (Kd.int .u8) 5 w w0.heap.size P0_ u9000_ l0) (h : ref15_change.f k l0 a1 a2 = some r) :
  Calls Try.prog 89 #[u9000_, .int .i64 a1, .bool a2] w fun e w' => ∃ v0_ : Value, e = .returned (v0_) ∧ Kd.R (Kd.int .u8) 5 w' w0.heap.size (fun k_ => (P0_ k_ ∨ w.heap.size ≤ k_)) v0_ r ∧ Below w0.heap.size w0 w' ∧ Kept w w' (fun k_ => P0_ k_) := by
 have HO0 := Aside0.mk (show Kd.R (Kd.int .u8) 5 w w0.heap.size (fun k_ => (P0_ k_ ∨ w.heap.size ≤ k_)) u9000_ l0 from Kd.R_mono ho0 (fun k_ hk => (.inl hk))); have HK := Aside0.mk (Kept.refl w (fun k_ => P0_ k_)); have HW0 := Aside0.mk hB.size; have HB := Aside0.mk hB; clear hB; have H : (if a1 ≥ 0 then (ref15_change.j0 k l0 a1 a2 (decide ((wrap64 (Int.tdiv a1 8)) < (l0.length : Int)))) else (ref15_change.j0 k l0 a1 a2 false)) = some r := h; clear h; have HC4 := Aside0.mk H; clear H; go_enter Try.func89, Try.ntmps89
 go_upto_region 1 with (fail)
 go_cut [15] (fun v15 wc => ∃ (kq : Nat) (x15_3 : Bool), v15 = .bool x15_3 ∧ Aside0 (ref15_change.j0 kq l0 a1 a2 x15_3 = some r) ∧ Aside0 (kq ≤ k) ∧ Aside0 (Kd.R (Kd.int .u8) 5 wc w0.heap.size (fun k_ => (P0_ k_ ∨ w.heap.size ≤ k_)) u9000_ l0) ∧ Aside0 (Kept w wc (fun k_ => P0_ k_)) ∧ Aside0 (Below w0.heap.size w0 wc))
 case first =>
  have H := HC4.out; clear HC4; by_cases c5 : a1 ≥ 0
  ·
   rw [if_pos c5] at H; have c5b0 : decide (0 ≤ a1) = true := decide_eq_true c5; clear c5; (first | rw [c5b0] | (simp only [i64_w, i32_w]; rw [c5b0]) | skip)
   have H' := Aside0.mk H; clear H; obtain ⟨Ao6, co6, eo6⟩ := Kd.R_slice HO0.out; subst eo6; go_wp2
   go_meet
   case rel => exact ⟨_, (decide ((wrap64 (Int.tdiv a1 8)) < (l0.length : Int))), rf_, H', ⟨om_⟩, ⟨by (with_reducible repeat (first | apply Kd.R_alloc | apply Kd.R_drewN | apply Kd.R_drew)); exact HO0.out⟩, ⟨by repeat (first | (with_reducible first | exact HK.out | apply Kept.alloc | apply Kept.drewN | apply Kept.drew) | exact HK.out)⟩, ⟨(hb0_ HB.out)⟩⟩
  ·
   rw [if_neg c5] at H; have c5b0 : decide (0 ≤ a1) = false := decide_eq_false c5; clear c5; (first | rw [c5b0] | (simp only [i64_w, i32_w]; rw [c5b0]) | skip)
   have H' := Aside0.mk H; clear H; go_wp2
   go_meet
   case rel => exact ⟨_, (false), rf_, H', ⟨om_⟩, ⟨by (with_reducible repeat (first | apply Kd.R_alloc | apply Kd.R_drewN | apply Kd.R_drew)); exact HO0.out⟩, ⟨by repeat (first | (with_reducible first | exact HK.out | apply Kept.alloc | apply Kept.drewN | apply Kept.drew) | exact HK.out)⟩, ⟨(hb0_ HB.out)⟩⟩
 case rest =>
  clear HC4; try clear p2
  try clear c5
  try clear c5b0
  try clear p6
  obtain ⟨kq, x15_3, rfl, HA, HJ3, HO_0, HK, HB⟩ := hcut; cases kq with
  | zero => exact absurd HA.out (by simp [ref15_change.j0])
  | succ kj3 =>
   have H := HA.out; clear HA; simp only [ref15_change.j0] at H; by_cases c7 : x15_3 = true
   ·
    subst c7; have H1 : (if 0 ≤ (wrap64 (Int.tdiv a1 8)) then (if (wrap64 (Int.tdiv a1 8)) < (l0.length : Int) then (if 0 ≤ (IntKind.u64.wrap (Int.tmod a1 8)) then ((some (l0.set ((wrap64 (Int.tdiv a1 8)) : Int).toNat (Go.bits .andNot .u8 (rd l0 (wrap64 (Int.tdiv a1 8))) (shl .u8 1 (IntKind.u64.wrap (Int.tmod a1 8)))) : List Int)).bind fun y171 => (if a2 = true then (some (y171.set ((wrap64 (Int.tdiv a1 8)) : Int).toNat (Go.bits .or .u8 (rd y171 (wrap64 (Int.tdiv a1 8))) (shl .u8 1 (IntKind.u64.wrap (Int.tmod a1 8)))))) else (some y171))) else (none)) else (none)) else (none)) = some r := by rw [if_pos rfl] at H; exact H
    clear H; have H := H1; clear H1; obtain ⟨ji8, hji8⟩ : ∃ j_ : Int, (wrap64 (Int.tdiv a1 8)) = j_ := ⟨_, rfl⟩; replace H : (if 0 ≤ (ji8) then (if (ji8) < (l0.length : Int) then (if 0 ≤ (IntKind.u64.wrap (Int.tmod a1 8)) then ((some (l0.set ((ji8) : Int).toNat (Go.bits .andNot .u8 (rd l0 (ji8)) (shl .u8 1 (IntKind.u64.wrap (Int.tmod a1 8)))) : List Int)).bind fun y171 => (if a2 = true then (some (y171.set ((ji8) : Int).toNat (Go.bits .or .u8 (rd y171 (ji8)) (shl .u8 1 (IntKind.u64.wrap (Int.tmod a1 8)))))) else (some y171))) else (none)) else (none)) else (none)) = some r := by first | (rw [hji8] at H; exact H) | (simp only [hji8] at H ⊢; exact H)
    have hji8w : (IntKind.i64.wrap (Int.tdiv a1 8)) = ji8 := (i64_w _).trans hji8; by_cases c9 : 0 ≤ (ji8)
    rotate_left
    ·
     rw [if_neg c9] at H; exact absurd H (by simp)
    rw [if_pos c9] at H; have c9b0 : decide (0 ≤ (ji8)) = true := decide_eq_true c9; clear c9; by_cases c10 : (ji8) < (l0.length : Int)
    rotate_left
    ·
     rw [if_neg c10] at H; exact absurd H (by simp)
    rw [if_pos c10] at H; have c10b0 : decide ((ji8) < (l0.length : Int)) = true := decide_eq_true c10; clear c10; obtain ⟨ji11, hji11⟩ : ∃ j_ : Int, (IntKind.u64.wrap (Int.tmod a1 8)) = j_ := ⟨_, rfl⟩; replace H : (if 0 ≤ (ji11) then ((some (l0.set ((ji8) : Int).toNat (Go.bits .andNot .u8 (rd l0 (ji8)) (shl .u8 1 (ji11))) : List Int)).bind fun y171 => (if a2 = true then (some (y171.set ((ji8) : Int).toNat (Go.bits .or .u8 (rd y171 (ji8)) (shl .u8 1 (ji11))))) else (some y171))) else (none)) = some r := by first | (rw [hji11] at H; exact H) | (simp only [hji11] at H ⊢; exact H)
    by_cases c12 : 0 ≤ (ji11)
    rotate_left
    ·
     rw [if_neg c12] at H; exact absurd H (by simp)
    rw [if_pos c12] at H; have c12b0 := eq_true c12; have c12b1 : decide (0 ≤ (ji11)) = true := decide_eq_true c12; clear c12; obtain ⟨ji13, hji13⟩ : ∃ j_ : Int, (shl .u8 1 (ji11)) = j_ := ⟨_, rfl⟩; replace H : ((some (l0.set ((ji8) : Int).toNat (Go.bits .andNot .u8 (rd l0 (ji8)) (ji13)) : List Int)).bind fun y171 => (if a2 = true then (some (y171.set ((ji8) : Int).toNat (Go.bits .or .u8 (rd y171 (ji8)) (ji13)))) else (some y171))) = some r := by first | (rw [hji13] at H; exact H) | (simp only [hji13] at H ⊢; exact H)
    have hji13_ : (IntKind.u8.wrap (1 * 2 ^ min (ji11).toNat 8)) = ji13 := hji13; have hji13z : (ji11) ≤ 8 → (IntKind.u8.wrap (1 * 2 ^ (ji11).toNat)) = ji13 := shl_small hji13; have hji13u : (IntKind.u8.wrap (2 ^ min (ji11).toNat 8)) = ji13 := by have h_ := hji13_; rw [Int.one_mul] at h_; exact h_
    have hji13v : (ji11) ≤ 8 → (IntKind.u8.wrap (2 ^ (ji11).toNat)) = ji13 := fun hle_ => by have h_ := hji13z hle_; rw [Int.one_mul] at h_; exact h_
    obtain ⟨y171, hy171⟩ : ∃ y_ : List Int, y_ = (l0.set ((ji8) : Int).toNat (Go.bits .andNot .u8 (rd l0 (ji8)) (ji13))) := ⟨_, rfl⟩; replace H : (if a2 = true then (some (y171.set ((ji8) : Int).toNat (Go.bits .or .u8 (rd y171 (ji8)) (ji13)))) else (some y171)) = some r := by first | (rw [hy171]; with_reducible exact H) | (have H2_ := (Option.bind_some _ _).symm.trans H; rw [hy171]; with_reducible exact H2_) | (have H2_ := (Option.bind_some _ _).symm.trans H; with_reducible exact H2_) | with_reducible exact H | (rw [hy171]; exact H) | exact H
    have Ny171 := Aside0.mk hy171; clear hy171; by_cases c15 : a2 = true
    ·
     subst c15; have H1 : (some (y171.set ((ji8) : Int).toNat (Go.bits .or .u8 (rd y171 (ji8)) (ji13)))) = some r := by rw [if_pos rfl] at H; exact H
     clear H; have H := H1; clear H1; have c16b0 := eq_true (od_ : 0 ≤ (ji11)); obtain ⟨y173, hy173⟩ : ∃ y_ : List Int, y_ = (y171.set ((ji8) : Int).toNat (Go.bits .or .u8 (rd y171 (ji8)) (ji13))) := ⟨_, rfl⟩; replace H : (some y173) = some r := by first | (rw [hy173]; with_reducible exact H) | (have H2_ := (Option.bind_some _ _).symm.trans H; rw [hy173]; with_reducible exact H2_) | (have H2_ := (Option.bind_some _ _).symm.trans H; with_reducible exact H2_) | with_reducible exact H | (rw [hy173]; exact H) | exact H
     have Ny173 := Aside0.mk hy173; clear hy173; obtain rfl := Option.some.inj H; obtain ⟨Ao18, co18, eo18⟩ := Kd.R_slice HO_0.out; subst eo18; have p170 : 0 ≤ ((ji8) : Int) := od_; have q170 : (ji8) < (l0.length : Int) := od_; obtain ⟨ad170, e170, hx170_0⟩ := Kd.at_int (Kd.R_reads' HO_0.out).2.2 (ji8) p170 q170; cases e170; replace p170 := eq_true p170; replace q170 := eq_true q170; have p14 : 0 ≤ ((ji8) : Int) := od_; have q14 : ((ji8) : Int) < ((l0.length : Int) : Int) := od_; obtain ⟨go14, co14, eo14, gb14, gl14, cl14, HG14⟩ := Kd.R_form HO_0.out (by omega); (first | cases eo14 | (injection eo14 with ea_ en_ ec_; (first | subst ea_ | (injection ea_ with ea_; subst ea_)); subst ec_; clear en_))
     have GB14 := Aside0.mk gb14; have GG14 := Aside0.mk HG14; clear gb14 gl14 HG14; have HMgo14 := Aside0.mk (show (P0_ go14 ∨ w.heap.size ≤ go14) from (HO_0.out.1 _ rfl)); (first | simp only [add_plain] at hx170_0 | skip)
     obtain ⟨hx14_0, hf14_0⟩ := Kd.R_celln 0 HO_0.out ((ji8) : Int) p14 q14; replace p14 := eq_true p14; replace q14 := eq_true q14; have HP19 := Kd.R_putg HO_0.out ((ji8) : Int) (Go.bits .andNot .u8 (rd l0 (ji8)) (ji13)); go_wp2_with (first | ((with_reducible refine gate_store (t := 5) (p := 26) rfl ?_); refine store_event (t := 5) (p := 26) (v := ?vo_w20) (w1 := (wc.setCell ⟨go14, ((ji8) : Int).toNat, none⟩ (.int .u8 (Go.bits .andNot .u8 (rd l0 (ji8)) (ji13))))) ?hg ?ho ?hn ?hr ?_; (case ho => rfl); (case hg => rfl); (case hn => rfl); (case hr => first | (go_simp; done) | (go_simp; rfl)); intro w20 hw; have hg : wc.grownBy w20 (some go14) := (by rw [hw]; exact HP19.2); have hp_ : Kd.R (Kd.int .u8) 5 w20 w0.heap.size (fun k_ => (P0_ k_ ∨ w.heap.size ≤ k_)) (.slice (some ⟨go14, 0, none⟩) l0.length co18) y171 := (by rw [hw, Ny171.out]; exact HP19.1); clear HP19; have n0_ := Aside0.mk (hp_); have n1_ := Aside0.mk ((by rw [hw]; exact below_set (HB.out) GB14.out : Below w0.heap.size w0 w20)); have n2_ := Aside0.mk (Kept.of_grown (S := (fun k_ => P0_ k_)) hg (by repeat (first | (with_reducible first | exact HK.out | apply Kept.alloc | apply Kept.drewN | apply Kept.drew) | exact HK.out)) (fun k_ e_ => (HO_0.out.1 k_ e_))); clear HO_0 HB HK; revert n0_ n1_ n2_; intro HO_0 HB HK; clear hg hw hp_; have p172 : 0 ≤ ((ji8) : Int) := od_; have q172 : (ji8) < (y171.length : Int) := (by have h_ : ((ji8) : Int) < ((l0.length : Int) : Int) := od_; first | (have e_ := (Kd.R_reads' HO_0.out).1; omega) | simpa only [Ny171.out, List.length_set] using h_); have ql172 : (((ji8) : Int) < ((l0.length : Int) : Int)) = True := eq_true od_; obtain ⟨ad172, e172, hx172_0⟩ := Kd.at_int (Kd.R_reads' HO_0.out).2.2 (ji8) p172 q172; obtain rfl : (⟨go14, 0, none⟩ : Addr) = ad172 := (by injection e172); (first | simp only [add_plain] at hx172_0 | simp only [add_at] at hx172_0 | simp only [Addr.add, Nat.zero_add] at hx172_0 | skip); replace p172 := eq_true p172; replace q172 := eq_true q172; have p17 : 0 ≤ ((ji8) : Int) := od_; have q17 : ((ji8) : Int) < ((l0.length : Int) : Int) := od_; obtain ⟨hx17_0, hf17_0⟩ := Kd.R_celln 0 HO_0.out ((ji8) : Int) p17 q17; replace p17 := eq_true p17; replace q17 := eq_true q17; obtain ⟨hy21_, hz21_⟩ := Kd.R_celln 0 HO_0.out ((ji8) : Int) od_ od_; have HP21 := Kd.R_putg HO_0.out ((ji8) : Int) (Go.bits .or .u8 (rd y171 (ji8)) (ji13))) | ((with_reducible refine gate_store (t := 5) (p := 38) rfl ?_); refine store_event (t := 5) (p := 38) (v := ?vo_w22) (w1 := (w20.setCell ⟨go14, ((ji8) : Int).toNat, none⟩ (.int .u8 (Go.bits .or .u8 (rd y171 (ji8)) (ji13))))) ?hg ?ho ?hn ?hr ?_; (case ho => rfl); (case hg => rfl); (case hn => rfl); (case hr => first | (go_simp; done) | (go_simp; rfl)); intro w22 hw; have hg : w20.grownBy w22 (some go14) := (by rw [hw]; exact HP21.2); have hp_ : Kd.R (Kd.int .u8) 5 w22 w0.heap.size (fun k_ => (P0_ k_ ∨ w.heap.size ≤ k_)) (.slice (some ⟨go14, 0, none⟩) l0.length co18) y173 := (by rw [hw, Ny173.out]; exact HP21.1); clear HP21; have n0_ := Aside0.mk (hp_); have n1_ := Aside0.mk ((by rw [hw]; exact below_set (HB.out) GB14.out : Below w0.heap.size w0 w22)); have n2_ := Aside0.mk (Kept.of_grown (S := (fun k_ => P0_ k_)) hg (by repeat (first | (with_reducible first | exact HK.out | apply Kept.alloc | apply Kept.drewN | apply Kept.drew) | exact HK.out)) (fun k_ e_ => (HO_0.out.1 k_ e_))); clear HO_0 HB HK; revert n0_ n1_ n2_; intro HO_0 HB HK; clear hg hw hp_))
     go_ret
     exact ⟨_, by first | rfl | (simp [errW_none, errW_some] <;> rfl) | (simp only [← hji8, ← hji11, ← hji13]; first | rfl | (simp [errW_none, errW_some] <;> rfl)) | (simp [*, errW_none, errW_some] <;> rfl), by (with_reducible repeat (first | apply Kd.R_alloc | apply Kd.R_drewN | apply Kd.R_drew)); exact HO_0.out, (hb0_ HB.out), by repeat (first | (with_reducible first | exact HK.out | apply Kept.alloc | apply Kept.drewN | apply Kept.drew) | exact HK.out)⟩
    ·
     replace c15 := Bool.eq_false_iff.mpr c15; subst c15; have H1 : (some y171) = some r := by rw [if_neg (show ¬ (false = true) by decide)] at H; exact H
     clear H; have H := H1; clear H1; obtain rfl := Option.some.inj H; obtain ⟨Ao23, co23, eo23⟩ := Kd.R_slice HO_0.out; subst eo23; have p170 : 0 ≤ ((ji8) : Int) := od_; have q170 : (ji8) < (l0.length : Int) := od_; obtain ⟨ad170, e170, hx170_0⟩ := Kd.at_int (Kd.R_reads' HO_0.out).2.2 (ji8) p170 q170; cases e170; replace p170 := eq_true p170; replace q170 := eq_true q170; have p14 : 0 ≤ ((ji8) : Int) := od_; have q14 : ((ji8) : Int) < ((l0.length : Int) : Int) := od_; obtain ⟨go14, co14, eo14, gb14, gl14, cl14, HG14⟩ := Kd.R_form HO_0.out (by omega); (first | cases eo14 | (injection eo14 with ea_ en_ ec_; (first | subst ea_ | (injection ea_ with ea_; subst ea_)); subst ec_; clear en_))
     have GB14 := Aside0.mk gb14; have GG14 := Aside0.mk HG14; clear gb14 gl14 HG14; have HMgo14 := Aside0.mk (show (P0_ go14 ∨ w.heap.size ≤ go14) from (HO_0.out.1 _ rfl)); (first | simp only [add_plain] at hx170_0 | skip)
     obtain ⟨hx14_0, hf14_0⟩ := Kd.R_celln 0 HO_0.out ((ji8) : Int) p14 q14; replace p14 := eq_true p14; replace q14 := eq_true q14; have HP24 := Kd.R_putg HO_0.out ((ji8) : Int) (Go.bits .andNot .u8 (rd l0 (ji8)) (ji13)); go_wp2_with (first | ((with_reducible refine gate_store (t := 5) (p := 26) rfl ?_); refine store_event (t := 5) (p := 26) (v := ?vo_w25) (w1 := (wc.setCell ⟨go14, ((ji8) : Int).toNat, none⟩ (.int .u8 (Go.bits .andNot .u8 (rd l0 (ji8)) (ji13))))) ?hg ?ho ?hn ?hr ?_; (case ho => rfl); (case hg => rfl); (case hn => rfl); (case hr => first | (go_simp; done) | (go_simp; rfl)); intro w25 hw; have hg : wc.grownBy w25 (some go14) := (by rw [hw]; exact HP24.2); have hp_ : Kd.R (Kd.int .u8) 5 w25 w0.heap.size (fun k_ => (P0_ k_ ∨ w.heap.size ≤ k_)) (.slice (some ⟨go14, 0, none⟩) l0.length co23) y171 := (by rw [hw, Ny171.out]; exact HP24.1); clear HP24; have n0_ := Aside0.mk (hp_); have n1_ := Aside0.mk ((by rw [hw]; exact below_set (HB.out) GB14.out : Below w0.heap.size w0 w25)); have n2_ := Aside0.mk (Kept.of_grown (S := (fun k_ => P0_ k_)) hg (by repeat (first | (with_reducible first | exact HK.out | apply Kept.alloc | apply Kept.drewN | apply Kept.drew) | exact HK.out)) (fun k_ e_ => (HO_0.out.1 k_ e_))); clear HO_0 HB HK; revert n0_ n1_ n2_; intro HO_0 HB HK; clear hg hw hp_))
     go_ret
     exact ⟨_, by first | rfl | (simp [errW_none, errW_some] <;> rfl) | (simp only [← hji8, ← hji11, ← hji13]; first | rfl | (simp [errW_none, errW_some] <;> rfl)) | (simp [*, errW_none, errW_some] <;> rfl), by (with_reducible repeat (first | apply Kd.R_alloc | apply Kd.R_drewN | apply Kd.R_drew)); exact HO_0.out, (hb0_ HB.out), by repeat (first | (with_reducible first | exact HK.out | apply Kept.alloc | apply Kept.drewN | apply Kept.drew) | exact HK.out)⟩
   ·
    replace c7 := Bool.eq_false_iff.mpr c7; subst c7; have H1 : (some l0) = some r := by rw [if_neg (show ¬ (false = true) by decide)] at H; exact H
    clear H; have H := H1; clear H1; obtain rfl := Option.some.inj H; go_wp2
    go_ret
    exact ⟨_, by first | rfl | (simp [errW_none, errW_some] <;> rfl) | (simp [*, errW_none, errW_some] <;> rfl), by (with_reducible repeat (first | apply Kd.R_alloc | apply Kd.R_drewN | apply Kd.R_drew)); exact HO_0.out, (hb0_ HB.out), by repeat (first | (with_reducible first | exact HK.out | apply Kept.alloc | apply Kept.drewN | apply Kept.drew) | exact HK.out)⟩

/-! ### ref15_Clear: function 53 -/
def ref15_Clear.l0 : Nat → List Int → List Int → Int → Int → Option (List Int)
 | 0, _, _, _, _ => none
 | k + 1, x5, x10, x11, x12 => if x12 < x11 then (if 0 ≤ x12 then (if x12 < (x10.length : Int) then ((ref15_change.f k x5 (rd x10 x12) false).bind fun t178 => (ref15_Clear.l0 k t178 x10 x11 (wrap64 (x12 + 1)))) else (none)) else (none)) else (some x5)
def ref15_Clear.f (k : Nat) (l0 : List Int) (l1 : List Int) : Option (List Int) := if ([] : List Int).length + l0.length < 140737488355328 then (ref15_Clear.l0 k (([] : List Int) ++ l0) l1 (l1.length : Int) 0) else (none)
theorem ref15_Clear.mono_l : ∀ k, (∀ y0 y1 y2 y3, LeO (ref15_Clear.l0 k y0 y1 y2 y3) (ref15_Clear.l0 (k + 1) y0 y1 y2 y3))
 | 0 => fun _ _ _ _ r h => by simp [ref15_Clear.l0] at h
 | k + 1 => by
  have ih0 := ref15_Clear.mono_l k
  ·
   intro y0 y1 y2 y3; unfold ref15_Clear.l0
   repeat' first
   | (with_reducible exact ih0 _ _ _ _)
   | (with_reducible exact ref15_change.mono _ _ _ _)
   | (with_reducible exact LeO.refl _)
   | (with_reducible exact LeO.none _)
   | (with_reducible refine LeO.ite ?_ ?_)
   | (with_reducible refine LeO.bind ?_ (fun _ => ?_))
   | exact ih0 _ _ _ _
   | exact ref15_change.mono _ _ _ _
   | exact LeO.none _
   | refine LeO.ite ?_ ?_
   | refine LeO.bind ?_ (fun _ => ?_)
theorem ref15_Clear.mono : ∀ a0 a1 k, LeO (ref15_Clear.f k a0 a1) (ref15_Clear.f (k + 1) a0 a1) := by
 intro a0 a1 k; have ih0 := ref15_Clear.mono_l k; unfold ref15_Clear.f
 repeat' first
   | (with_reducible exact ih0 _ _ _ _)
   | (with_reducible exact ref15_change.mono _ _ _ _)
   | (with_reducible exact LeO.refl _)
   | (with_reducible exact LeO.none _)
   | (with_reducible refine LeO.ite ?_ ?_)
   | (with_reducible refine LeO.bind ?_ (fun _ => ?_))
   | exact ih0 _ _ _ _
   | exact ref15_change.mono _ _ _ _
   | exact LeO.none _
   | refine LeO.ite ?_ ?_
   | refine LeO.bind ?_ (fun _ => ?_)
set_option maxHeartbeats 8000000 in
set_option maxRecDepth 100000 in
theorem ref15_Clear.calls (k : Nat) (A0 : Option Addr) (c0 : Nat) (l0 : List Int) (A1 : Option Addr) (c1 : Nat) (l1 : List Int) (r : List Int) (w : World) (hr0 : Kd.C (Kd.int .u8) w A0 l0.length l0) (hc0 : l0.length ≤ c0) (hr1 : Kd.C (Kd.int .i64) w A1 l1.length l1) (hc1 : l1.length ≤ c1) (h : ref15_Clear.f k l0 l1 = some r) :
  Calls Try.prog 53 #[.slice A0 l0.length c0, .slice A1 l1.length c1] w fun e w' => ∃ v0_ : Value, e = .returned (v0_) ∧ Kd.R (Kd.int .u8) 5 w' w.heap.size (fun _ => True) v0_ r ∧ Below w.heap.size w w' := by
 have HR0 := Aside0.mk hr0; have HC0 := Aside0.mk hc0; clear hr0 hc0; have HR1 := Aside0.mk hr1; have HC1 := Aside0.mk hc1; clear hr1 hc1; have HB := Aside0.mk (Below.refl w.heap.size w); have H : (if ([] : List Int).length + l0.length < 140737488355328 then (ref15_Clear.l0 k (([] : List Int) ++ l0) l1 (l1.length : Int) 0) else (none)) = some r := h; clear h; by_cases c3 : ([] : List Int).length + l0.length < 140737488355328
 ·
  rw [if_pos c3] at H; have LMc3 := Aside0.mk c3; clear c3; obtain ⟨y174, hy174⟩ : ∃ y_ : List Int, y_ = (([] : List Int) ++ l0) := ⟨_, rfl⟩; replace H : (ref15_Clear.l0 k y174 l1 (l1.length : Int) 0) = some r := by first | (rw [hy174]; with_reducible exact H) | (have H2_ := (Option.bind_some _ _).symm.trans H; rw [hy174]; with_reducible exact H2_) | (have H2_ := (Option.bind_some _ _).symm.trans H; with_reducible exact H2_) | with_reducible exact H | (rw [hy174]; exact H) | exact H
  have Ny174 := Aside0.mk hy174; clear hy174; have H' := Aside0.mk H; clear H; go_enter Try.func53, Try.ntmps53
  go_wp2_with (first | ((with_reducible refine gate_builtin (b := .append) (xs := #[.const (.slice none 0 0), .tmp 8]) rfl ?_); at_builtin; refine Kd.R_append_rows (Kd.int .u8) (w0 := w) w.heap.size rfl (.const (.slice none 0 0)) (.tmp 8) 27 5 (.int .u8 0) 1 rfl Try.underlying27 info5 rfl (by decide) (by omega) (.slice none 0 0) ([] : List Int) l0 _ _ _ (fun _ => True) (fun _ => False) rfl rfl ?aO ?aR (fun _ _ h => h) (fun _ h => h.elim) ?aF ?aB ?aS ?aL ?_; (case aR => repeat (first | exact HR0.out | (with_reducible refine Kd.C_alloc ?_ _) | (with_reducible refine Kd.C_drewN ?_ _) | (with_reducible refine Kd.C_drew ?_))); (case aB => exact (hb0_ HB.out)); (case aF => exact (fun _ _ => trivial)); (case aO => exact ((Kd.R_nil _ _ _ _ (fun _ => True)))); (case aS => exact (below_size (hb0_ HB.out))); (case aL => have := LMc3.out; omega); intro v175 w4 ho hb hg hat; rw [← Ny174.out] at ho; have n0_ := Aside0.mk (hb); have n1_ := Aside0.mk (ho); clear HB; revert n0_ n1_; intro HB HO176; clear ho hb hg hat))
  go_loopg [5, 12] k (fun kq v5 v12 w' => ∃ (x5_1 : List Int) (x12_1 : Int), v12 = .int .i64 x12_1 ∧ Aside0 (ref15_Clear.l0 kq x5_1 l1 (l1.length : Int) x12_1 = some r) ∧ Aside0 (kq ≤ k) ∧ Aside0 (Kd.R (Kd.int .u8) 5 w' w.heap.size (fun _ => True) v5 x5_1) ∧ Aside0 (Below w.heap.size w w'))
  case atStart => exact ⟨(y174), (0), rf_, H', ⟨Nat.le_refl _⟩, ⟨by (with_reducible repeat (first | apply Kd.R_alloc | apply Kd.R_drewN | apply Kd.R_drew)); exact HO176.out⟩, ⟨(hb0_ HB.out)⟩⟩
  case round =>
   clear H'; try clear c1
   try clear p2
   try clear c3
   obtain ⟨x5_1, x12_1, rfl, HA, HK1, HO_5, HB⟩ := hrel; cases gk with
   | zero => exact absurd HA.out (by simp [ref15_Clear.l0])
   | succ k1 =>
    have H := HA.out; clear HA; simp only [ref15_Clear.l0] at H; by_cases c5 : x12_1 < (l1.length : Int)
    ·
     rw [if_pos c5] at H; have c5b0 : decide (x12_1 < (l1.length : Int)) = true := decide_eq_true c5; clear c5; by_cases c6 : 0 ≤ x12_1
     rotate_left
     ·
      rw [if_neg c6] at H; exact absurd H (by simp)
     rw [if_pos c6] at H; have c6b0 : decide (0 ≤ x12_1) = true := decide_eq_true c6; clear c6; by_cases c7 : x12_1 < (l1.length : Int)
     rotate_left
     ·
      rw [if_neg c7] at H; exact absurd H (by simp)
     rw [if_pos c7] at H; have c7b0 : decide (x12_1 < (l1.length : Int)) = true := decide_eq_true c7; clear c7; replace H := Option.bind_eq_some_iff.mp H; obtain ⟨t178, A80, H⟩ := H; (try dsimp only at H); have A8 := Aside0.mk A80; clear A80; have H' := Aside0.mk H; clear H; have p177 : 0 ≤ (x12_1 : Int) := od_; have q177 : x12_1 < (l1.length : Int) := od_; obtain ⟨ad177, e177, hx177_0⟩ := Kd.at_int HR1.out x12_1 p177 q177; cases e177; replace hx177_0 := (HB.out.cell (World.block_lt_of_cell? w _ hx177_0)).trans hx177_0; replace p177 := eq_true p177; replace q177 := eq_true q177; obtain ⟨Ao9, co9, eo9⟩ := Kd.R_slice HO_5.out; subst eo9; go_wp2_with (first | ((with_reducible refine gate_callee (f := 89) rfl ?_); refine goesL_ (some 18) rfl rfl Try.func89 (by kernel_rfl) rfl #[.slice Ao9 x5_1.length co9, .int .i64 (rd l1 x12_1), .bool false] rfl lm_ ?_; (with_reducible refine (ref15_change.calls k1 (fun k_ => some k_ = (.slice Ao9 x5_1.length co9 : Value).ownBlock) (.slice Ao9 x5_1.length co9) x5_1 (rd l1 x12_1) false t178 w _ ?side1 ?side2 A8.out).mono ?_); (case side1 => exact (hb0_ HB.out)); (case side2 => exact Kd.R_tight rfl HO_5.out); rintro e w10 ⟨v179, rfl, ho0, hb, hkp⟩; refine ⟨_, rfl, ?_⟩; have n0_ := Aside0.mk (Kd.R_mono (ok' := fun k_ => True) ho0 (fun k_ hk_ => trivial)); have n1_ := Aside0.mk (hb); clear HB HO_5; revert n0_ n1_; intro HO180 HB; (try clear hb); (try clear hkp); (try clear ho0)))
     go_roundg k1
     case measure => have := HK1.out; omega
     case rel => exact ⟨(t178), (wrap64 (x12_1 + 1)), rf_, H', ⟨by have := HK1.out; omega⟩, ⟨by (with_reducible repeat (first | apply Kd.R_alloc | apply Kd.R_drewN | apply Kd.R_drew)); exact HO180.out⟩, ⟨(hb0_ HB.out)⟩⟩
    ·
     rw [if_neg c5] at H; have c5b0 : decide (x12_1 < (l1.length : Int)) = false := decide_eq_false c5; clear c5; obtain rfl := Option.some.inj H; go_wp2
     go_ret
     exact ⟨_, by first | rfl | (simp [errW_none, errW_some] <;> rfl) | (simp [*, errW_none, errW_some] <;> rfl), by (with_reducible repeat (first | apply Kd.R_alloc | apply Kd.R_drewN | apply Kd.R_drew)); exact HO_5.out, (hb0_ HB.out)⟩
 ·
  rw [if_neg c3] at H; exact absurd H (by simp)

end Go.Proofs.Ytpcephbhnbfcmaa.M
