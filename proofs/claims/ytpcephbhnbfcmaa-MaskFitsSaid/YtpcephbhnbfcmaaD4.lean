-- Written by this session's program fork.py: a Lean function for each Go function and its walk. Not trusted: Lean checks it.
import Derived.Test.YtpcephbhnbfcmaaD0
import Derived.Test.YtpcephbhnbfcmaaD1
import Derived.Test.YtpcephbhnbfcmaaD3
namespace Go.Proofs.Ytpcephbhnbfcmaa.D
open Go.RowKit Go.Proofs.YtpcephbhnbfcmaaW.PrintWords Go.Proofs.YtpcephbhnbfcmaaW.PrintLast Go.Proofs.YtpcephbhnbfcmaaW.PrintMore
attribute [local go_sem] max2_int min2_int max_two min_two max_three min_three max_four min_four   -- for this text's walks alone
set_option linter.unusedVariables false
set_option linter.unusedSimpArgs false

/-! ### mask_And: function 50 -/
def mask_And.l0 : Nat → List Int → List Int → Int → Int → Option (List Int)
  | 0, _, _, _, _ => none
  | k + 1, x1, x5, x16, x17 => if x17 < x16 then (if 0 ≤ x17 then (if x17 < (x5.length : Int) then (if x17 < (x1.length : Int) then (mask_And.l0 k x1 (x5.set (x17 : Int).toNat (Go.bits .and .u8 (rd x5 x17) (rd x1 x17))) x16 (wrap64 (x17 + 1))) else (none)) else (none)) else (none)) else (some x5)
def mask_And.f (k : Nat) (l0 : List Int) (l1 : List Int) : Option (List Int) := if 0 ≤ (mn (l0.length : Int) (l1.length : Int)) then (if (mn (l0.length : Int) (l1.length : Int)) ≤ (l0.length : Int) then ((CloneB.f (l0.take ((mn (l0.length : Int) (l1.length : Int)) : Int).toNat)).bind fun t150 => (mask_And.l0 k l1 t150 (t150.length : Int) 0)) else (none)) else (none)
theorem mask_And.mono_l : ∀ k, (∀ y0 y1 y2 y3, LeO (mask_And.l0 k y0 y1 y2 y3) (mask_And.l0 (k + 1) y0 y1 y2 y3))
  | 0 => fun _ _ _ _ r h => by simp [mask_And.l0] at h
  | k + 1 => by
    have ih0 := mask_And.mono_l k
    · intro y0 y1 y2 y3
      unfold mask_And.l0
      repeat' first
      | (with_reducible exact ih0 _ _ _ _)
      | (with_reducible exact LeO.refl _)
      | (with_reducible exact LeO.none _)
      | (with_reducible refine LeO.ite ?_ ?_)
      | (with_reducible refine LeO.bind ?_ (fun _ => ?_))
      | exact ih0 _ _ _ _
      | exact LeO.none _
      | refine LeO.ite ?_ ?_
      | refine LeO.bind ?_ (fun _ => ?_)
theorem mask_And.mono : ∀ a0 a1 k, LeO (mask_And.f k a0 a1) (mask_And.f (k + 1) a0 a1) := by
  intro a0 a1 k
  have ih0 := mask_And.mono_l k
  unfold mask_And.f
  repeat' first
      | (with_reducible exact ih0 _ _ _ _)
      | (with_reducible exact LeO.refl _)
      | (with_reducible exact LeO.none _)
      | (with_reducible refine LeO.ite ?_ ?_)
      | (with_reducible refine LeO.bind ?_ (fun _ => ?_))
      | exact ih0 _ _ _ _
      | exact LeO.none _
      | refine LeO.ite ?_ ?_
      | refine LeO.bind ?_ (fun _ => ?_)
def mask_And.T5 : Bool × List (List Nat × List Nat) := (true, [([], []), ([], []), ([0, 1], [0, 1]), ([2], [2]), ([], []), ([], []), ([4, 5], [4, 5]), ([6], [6]), ([3, 7], [3, 7]), ([0, 1, 0, 1, 2, 3, 4, 5, 6, 7, 8], [0, 1]), ([9, 8, 0, 1, 2, 3, 4, 5, 6, 7, 8], [8, 9])])
def mask_And.B5 : List Nat := [0, 0, 3, 7, 0, 0, 48, 112, 255, 511, 1023]
theorem mask_And.tab5 : rtab .any (opsOf Try.f50 5) = mask_And.T5 := by kernel_rfl
theorem mask_And.bits5 : waitsOk mask_And.T5.2 mask_And.B5 = true := by kernel_rfl
set_option maxHeartbeats 8000000 in
set_option maxRecDepth 100000 in
theorem mask_And.calls (k : Nat) (A0 : Option Addr) (c0 : Nat) (l0 : List Int) (A1 : Option Addr) (c1 : Nat) (l1 : List Int) (r : List Int) (w : World) (hr0 : Kd.C (Kd.int .u8) w A0 l0.length l0) (hc0 : l0.length ≤ c0) (hr1 : Kd.C (Kd.int .u8) w A1 l1.length l1) (hc1 : l1.length ≤ c1) (h : mask_And.f k l0 l1 = some r) :
    Calls Try.prog 50 #[.slice A0 l0.length c0, .slice A1 l1.length c1] w fun e w' => ∃ v0_ : Value, e = .returned (v0_) ∧ Kd.R (Kd.int .u8) 5 w' w.heap.size (fun _ => True) v0_ r ∧ Below w.heap.size w w' := by
  have HR0 := Aside0.mk hr0
  have HC0 := Aside0.mk hc0
  clear hr0 hc0
  have HR1 := Aside0.mk hr1
  have HC1 := Aside0.mk hc1
  clear hr1 hc1
  have HB := Aside0.mk (Below.refl w.heap.size w)
  have H : (if 0 ≤ (mn (l0.length : Int) (l1.length : Int)) then (if (mn (l0.length : Int) (l1.length : Int)) ≤ (l0.length : Int) then ((CloneB.f (l0.take ((mn (l0.length : Int) (l1.length : Int)) : Int).toNat)).bind fun t150 => (mask_And.l0 k l1 t150 (t150.length : Int) 0)) else (none)) else (none)) = some r := h
  clear h
  obtain ⟨ji3, hji3⟩ : ∃ j_ : Int, (mn (l0.length : Int) (l1.length : Int)) = j_ := ⟨_, rfl⟩
  replace H : (if 0 ≤ (ji3) then (if (ji3) ≤ (l0.length : Int) then ((CloneB.f (l0.take ((ji3) : Int).toNat)).bind fun t150 => (mask_And.l0 k l1 t150 (t150.length : Int) 0)) else (none)) else (none)) = some r := by first | (rw [hji3] at H; exact H) | (simp only [hji3] at H ⊢; exact H)
  (try (have hji3l : 0 ≤ ji3 := by (rw [← hji3]; unfold mn; (repeat' split) <;> omega)))
  (try (have hji3m : 0 ≤ ji3 := by omega))
  have hji3_ : (if (l1.length : Int) < (l0.length : Int) then (l1.length : Int) else (l0.length : Int)) = ji3 := hji3
  have hji3N : (if l1.length < l0.length then (l1.length : Int) else (l0.length : Int)) = ji3 := by simpa only [Int.ofNat_lt] using hji3_
  by_cases c4 : 0 ≤ (ji3)
  · rw [if_pos c4] at H
    have c4b0 := eq_true c4
    have c4b1 : decide (0 ≤ (ji3)) = true := decide_eq_true c4
    clear c4
    by_cases c5 : (ji3) ≤ (l0.length : Int)
    · rw [if_pos c5] at H
      have c5b0 := eq_true c5
      have c5b1 : decide ((ji3) ≤ (l0.length : Int)) = true := decide_eq_true c5
      clear c5
      replace H := Option.bind_eq_some_iff.mp H
      obtain ⟨t150, A60, H⟩ := H
      replace H : (mask_And.l0 k l1 t150 (t150.length : Int) 0) = some r := H
      have A6 := Aside0.mk A60
      clear A60
      have H' := Aside0.mk H
      clear H
      obtain ⟨i07, hi07, _, hsz7, _⟩ := info_parts info5
      obtain ⟨hcut7, hA7, hC7⟩ := print_take_of (P := Try.prog) (Value.int .u8) 0 27 5 .i64 Try.underlying27 hi07 hsz7 A0 c0 l0 (ji3) od_ od_ HC0.out
      have HR149 := Aside0.mk (Kd.C_of_reads (h1 := fun _ => rfl) (hA7 _ (Kd.reads_of_C HR0.out)))
      have HC149 := Aside0.mk hC7
      clear hA7 hC7 hi07 hsz7
      go_enter Try.func50, Try.ntmps50
      go_wp2_with (first | ((with_reducible refine gate_callee (f := 81) rfl ?_); refine goesL_ (some 14) rfl rfl Try.func81 (by kernel_rfl) rfl #[.slice A0 (l0.take ((ji3) : Int).toNat).length c0] rfl (by (try simp only [List.map_toArray, List.map_cons, List.map_nil]); first | done | (rw [show (l0.take ((ji3) : Int).toNat).length = (ji3).toNat from (by rw [List.length_take]; have h_ : ((ji3) : Int) ≤ (l0.length : Int) := od_; omega)] <;> rfl) | (simp only [hji3]; rfl) | rfl | (simp only [List.length_drop, List.length_take]; rfl)) ?_; (with_reducible refine (CloneB.calls _ _ (l0.take ((ji3) : Int).toNat) t150 _ ?side1 ?side2 A6.out).mono ?_); (case side1 => repeat (first | exact HR149.out | (with_reducible refine Kd.C_alloc ?_ _) | (with_reducible refine Kd.C_drewN ?_ _) | (with_reducible refine Kd.C_drew ?_))); (case side2 => exact HC149.out); rintro e w8 ⟨v151, rfl, ho0, hb⟩; refine ⟨_, rfl, ?_⟩; have n0_ := Aside0.mk (Kd.R_lower ho0 (below_size (hb0_ HB.out))); have n1_ := Aside0.mk (below_step (hb0_ HB.out) hb); clear HB; have HO152 := n0_; have HB := n1_; clear n0_ n1_; (try clear hb); (try clear hb2); (try clear hk); (try clear hi); (try clear ho0); obtain ⟨Ao9, co9, eo9⟩ := Kd.R_slice HO152.out; subst eo9))
      go_loopg [17] k (fun kq v17 w' => ∃ (x5_1 : List Int) (x17_1 : Int), v17 = .int .i64 x17_1 ∧ Aside0 (mask_And.l0 kq l1 x5_1 (t150.length : Int) x17_1 = some r) ∧ Aside0 (kq ≤ k) ∧ Aside0 (Kd.R (Kd.int .u8) 5 w' w.heap.size (fun _ => True) (.slice Ao9 t150.length co9) x5_1) ∧ Aside0 (Below w.heap.size w w'))
      case atStart => exact ⟨(t150), (0), (by first | rfl | (simp; done) | (simp [*]; done)), H', ⟨Nat.le_refl _⟩, ⟨by (with_reducible repeat (first | apply Kd.R_alloc | apply Kd.R_drewN | apply Kd.R_drew)); exact HO152.out⟩, ⟨by repeat (first | (with_reducible first | exact HB.out | apply below_alloc | apply pw_below_drewN | apply below_drew1) | exact HB.out)⟩⟩
      case round =>
        clear H'
        try clear c1
        try clear p2
        try clear c4
        try clear c4b0
        try clear c4b1
        try clear c5
        try clear c5b0
        try clear c5b1
        try clear c8
        obtain ⟨x5_1, x17_1, rfl, HA, HK1, HO_5, HB⟩ := hrel
        have hl5_1 := (Kd.R_reads' HO_5.out).1
        rw [hl5_1] at HO_5
        (try simp only [hl5_1])
        cases gk with
        | zero => exact absurd HA.out (by simp [mask_And.l0])
        | succ k1 =>
          have H := HA.out
          clear HA
          simp only [mask_And.l0] at H
          by_cases c10 : x17_1 < (t150.length : Int)
          · rw [if_pos c10] at H
            have c10b0 : decide (x17_1 < (t150.length : Int)) = true := decide_eq_true c10
            (try (have c10r0 := c10b0; simp only [hl5_1] at c10r0))
            clear c10
            by_cases c11 : 0 ≤ x17_1
            · rw [if_pos c11] at H
              have c11b0 : decide (0 ≤ x17_1) = true := decide_eq_true c11
              clear c11
              by_cases c12 : x17_1 < (x5_1.length : Int)
              · rw [if_pos c12] at H
                have c12b0 : decide (x17_1 < (x5_1.length : Int)) = true := decide_eq_true c12
                (try (have c12r0 := c12b0; simp only [hl5_1] at c12r0))
                clear c12
                by_cases c13 : x17_1 < (l1.length : Int)
                · rw [if_pos c13] at H
                  have c13b0 : decide (x17_1 < (l1.length : Int)) = true := decide_eq_true c13
                  (try (have c13r0 := c13b0; simp only [hl5_1] at c13r0))
                  clear c13
                  obtain ⟨y155, hy155⟩ : ∃ y_ : List Int, y_ = (x5_1.set (x17_1 : Int).toNat (Go.bits .and .u8 (rd x5_1 x17_1) (rd l1 x17_1))) := ⟨_, rfl⟩
                  replace H : (mask_And.l0 k1 l1 y155 (t150.length : Int) (wrap64 (x17_1 + 1))) = some r := by first | (rw [hy155]; with_reducible exact H) | (have H2_ := (Option.bind_some _ _).symm.trans H; rw [hy155]; with_reducible exact H2_) | (have H2_ := (Option.bind_some _ _).symm.trans H; with_reducible exact H2_) | with_reducible exact H | (rw [hy155]; exact H) | exact H
                  have Ny155 := Aside0.mk hy155
                  clear hy155
                  have H' := Aside0.mk H
                  clear H
                  try go_wp2
                  have n0_ := Aside0.mk (Kd.R_drew HO_5.out)
                  have n1_ := Aside0.mk (below_drew1 HB.out)
                  clear HO_5
                  clear HB
                  have HO_5 := n0_
                  have HB := n1_
                  clear n0_ n1_
                  have p153 : 0 ≤ (x17_1 : Int) := od_
                  have q153 : x17_1 < (x5_1.length : Int) := od_
                  obtain ⟨ad153, e153, hx153_0⟩ := Kd.at_int (Kd.R_reads' HO_5.out).2.2 x17_1 p153 q153
                  cases e153
                  replace p153 := eq_true p153
                  replace q153 := eq_true q153
                  have p154 : 0 ≤ (x17_1 : Int) := od_
                  have q154 : x17_1 < (l1.length : Int) := od_
                  obtain ⟨ad154, e154, hx154_0⟩ := Kd.at_int HR1.out x17_1 p154 q154
                  have hw154_0 := hx154_0
                  cases e154
                  replace hx154_0 := (HB.out.cell (World.block_lt_of_cell? w _ hx154_0)).trans hx154_0
                  replace p154 := eq_true p154
                  replace q154 := eq_true q154
                  have p14 : 0 ≤ (x17_1 : Int) := od_
                  have q14 : (x17_1 : Int) < ((x5_1.length : Int) : Int) := od_
                  obtain ⟨go14, co14, eo14, gb14, gl14, cl14, HG14⟩ := Kd.R_form HO_5.out (by omega)
                  (first | cases eo14 | (injection eo14 with ea_ en_ ec_; (first | subst ea_ | (injection ea_ with ea_; subst ea_)); subst ec_; clear en_))
                  have GB14 := Aside0.mk gb14
                  have GG14 := Aside0.mk HG14
                  clear gb14 gl14 HG14
                  (first | simp only [add_plain] at hx153_0 | skip)
                  obtain ⟨hx14_0, hf14_0⟩ := Kd.R_celln 0 HO_5.out (x17_1 : Int) p14 q14
                  replace p14 := eq_true p14
                  replace q14 := eq_true q14
                  have HP16 := Kd.R_putn HO_5.out (x17_1 : Int) (Go.bits .and .u8 (rd x5_1 x17_1) (rd l1 x17_1))
                  rw [← Ny155.out] at HP16
                  have HQ16 := Aside0.mk HP16
                  clear HP16
                  refine start_ (n := 11) (S := fun w' => w'.cell? ⟨go14, (x17_1).toNat, none⟩ = some (.int .u8 (rd x5_1 x17_1)) ∧ w'.cell? (ad154.add (x17_1).toNat) = some (.int .u8 (rd l1 x17_1))) (ds := [10]) #[false, false, false, false, false, false, false, false, false, false, false] (by kernel_rfl) rfl rfl ⟨hx153_0, ((HB.out.cell (World.block_lt_of_cell? w _ hw154_0)).trans hw154_0)⟩ (fun hHeld => ?_); refine with_tabW mask_And.tab5 mask_And.bits5 (fun HT_ HW_ => ?_)
                  generalize wr.drew = w15 at HO_5 HB GG14 HQ16 hf14_0 hx14_0 hx153_0 hx154_0 hHeld ⊢
                  refine pure_ (i := 0) (N := some 20) (v := ?_) (a' := ?_) #[true, false, false, false, false, false, false, false, false, false, false] rfl rfl (any_of HT_.out (by kernel_rfl)) (fun _ _ _ h => h) (Or.inl ⟨by rfl, ?_⟩) ?_ ?_
                  rotate_left
                  · intro w'
                    go_simp
                    with_reducible rfl
                  rotate_left
                  · simp only [Act.put, List.setIfInBounds_toArray, List.set_cons_zero, List.set_cons_succ, i64_w, i32_w]
                    rfl
                  refine pure_ (i := 1) (N := some 21) (v := ?_) (a' := ?_) #[true, true, false, false, false, false, false, false, false, false, false] rfl rfl (any_of HT_.out (by kernel_rfl)) (fun _ _ _ h => h) (Or.inl ⟨by rfl, ?_⟩) ?_ ?_
                  rotate_left
                  · intro w'
                    go_simp
                    with_reducible rfl
                  rotate_left
                  · simp only [Act.put, List.setIfInBounds_toArray, List.set_cons_zero, List.set_cons_succ, i64_w, i32_w]
                    rfl
                  refine pure_ (i := 2) (N := some 22) (v := ?_) (a' := ?_) #[true, true, true, false, false, false, false, false, false, false, false] rfl rfl (any_of HT_.out (by kernel_rfl)) (fun _ _ _ h => h) (Or.inl ⟨by rfl, ?_⟩) ?_ ?_
                  rotate_left
                  · intro w'
                    go_simp
                    with_reducible rfl
                  rotate_left
                  · simp only [Act.put, List.setIfInBounds_toArray, List.set_cons_zero, List.set_cons_succ, i64_w, i32_w]
                    rfl
                  refine pure_ (i := 4) (N := some 24) (v := ?_) (a' := ?_) #[true, true, true, false, true, false, false, false, false, false, false] rfl rfl (any_of HT_.out (by kernel_rfl)) (fun _ _ _ h => h) (Or.inl ⟨by rfl, ?_⟩) ?_ ?_
                  rotate_left
                  · intro w'
                    go_simp
                    with_reducible rfl
                  rotate_left
                  · simp only [Act.put, List.setIfInBounds_toArray, List.set_cons_zero, List.set_cons_succ, i64_w, i32_w]
                    rfl
                  refine pure_ (i := 5) (N := some 25) (v := ?_) (a' := ?_) #[true, true, true, false, true, true, false, false, false, false, false] rfl rfl (any_of HT_.out (by kernel_rfl)) (fun _ _ _ h => h) (Or.inl ⟨by rfl, ?_⟩) ?_ ?_
                  rotate_left
                  · intro w'
                    go_simp
                    with_reducible rfl
                  rotate_left
                  · simp only [Act.put, List.setIfInBounds_toArray, List.set_cons_zero, List.set_cons_succ, i64_w, i32_w]
                    rfl
                  refine pure_ (i := 6) (N := some 26) (v := ?_) (a' := ?_) #[true, true, true, false, true, true, true, false, false, false, false] rfl rfl (any_of HT_.out (by kernel_rfl)) (fun _ _ _ h => h) (Or.inl ⟨by rfl, ?_⟩) ?_ ?_
                  rotate_left
                  · intro w'
                    go_simp
                    with_reducible rfl
                  rotate_left
                  · simp only [Act.put, List.setIfInBounds_toArray, List.set_cons_zero, List.set_cons_succ, i64_w, i32_w]
                    rfl
                  refine take_ (i := 3) (N := some 23) (v := ?_) (a' := ?_) #[true, true, true, true, true, true, true, false, false, false, false] rfl rfl (take_ofW HT_.out HW_.out (by kernel_rfl)) (fun _ _ _ h => h) (Or.inl ⟨by rfl, ?_⟩) hHeld ?_ ?_
                  rotate_left
                  · rintro w' ⟨s0, s1⟩
                    go_simp
                    with_reducible rfl
                  rotate_left
                  · simp only [Act.put, List.setIfInBounds_toArray, List.set_cons_zero, List.set_cons_succ, i64_w, i32_w]
                    rfl
                  refine take_ (i := 7) (N := some 27) (v := ?_) (a' := ?_) #[true, true, true, true, true, true, true, true, false, false, false] rfl rfl (take_ofW HT_.out HW_.out (by kernel_rfl)) (fun _ _ _ h => h) (Or.inl ⟨by rfl, ?_⟩) hHeld ?_ ?_
                  rotate_left
                  · rintro w' ⟨s0, s1⟩
                    go_simp
                    with_reducible rfl
                  rotate_left
                  · simp only [Act.put, List.setIfInBounds_toArray, List.set_cons_zero, List.set_cons_succ, i64_w, i32_w]
                    rfl
                  refine pure_ (i := 8) (N := some 28) (v := ?_) (a' := ?_) #[true, true, true, true, true, true, true, true, true, false, false] rfl rfl (any_of HT_.out (by kernel_rfl)) (fun _ _ _ h => h) (Or.inl ⟨by rfl, ?_⟩) ?_ ?_
                  rotate_left
                  · intro w'
                    go_simp
                    with_reducible rfl
                  rotate_left
                  · simp only [Act.put, List.setIfInBounds_toArray, List.set_cons_zero, List.set_cons_succ, i64_w, i32_w]
                    rfl
                  refine pure_ (i := 9) (N := some 29) (v := ?_) (a' := ?_) #[true, true, true, true, true, true, true, true, true, true, false] rfl rfl (any_of HT_.out (by kernel_rfl)) (fun _ _ _ h => h) (Or.inl ⟨by rfl, ?_⟩) ?_ ?_
                  rotate_left
                  · intro w'
                    go_simp
                    with_reducible rfl
                  rotate_left
                  · simp only [Act.put, List.setIfInBounds_toArray, List.set_cons_zero, List.set_cons_succ, i64_w, i32_w]
                    rfl
                  refine last_ (i := 10) (N := none) #[true, true, true, true, true, true, true, true, true, true, true] rfl rfl (one_of HT_.out (by kernel_rfl)) (by decide) (fun K hK => ?_)
                  refine skip_ (w1 := ?_) (by rfl) rfl ?_ ?_
                  rotate_left
                  · go_simp
                    rfl
                  refine hK.out _ _ ?_
                  clear hK K
                  refine done_ (done_of HT_.out (by kernel_rfl)) ?_
                  try go_wp2
                  (try simp only [← hl5_1])
                  go_roundg k1
                  case measure => have := HK1.out; omega
                  case rel => exact ⟨(y155), (wrap64 (x17_1 + 1)), (by first | rfl | (simp; done) | (simp [*]; done)), H', ⟨by have := HK1.out; omega⟩, ⟨by (try simp only [hl5_1]); (with_reducible repeat (first | apply Kd.R_alloc | apply Kd.R_drewN | apply Kd.R_drew)); exact HQ16.out⟩, ⟨by repeat (first | (with_reducible first | exact HB.out | apply below_alloc | apply pw_below_drewN | apply below_drew1 | refine below_set ?_ GB14.out) | exact HB.out)⟩⟩
                · rw [if_neg c13] at H
                  exact absurd H (by simp)
              · rw [if_neg c12] at H
                exact absurd H (by simp)
            · rw [if_neg c11] at H
              exact absurd H (by simp)
          · rw [if_neg c10] at H
            have c10b0 : decide (x17_1 < (t150.length : Int)) = false := decide_eq_false c10
            (try (have c10r0 := c10b0; simp only [hl5_1] at c10r0))
            clear c10
            obtain rfl := Option.some.inj H
            go_wp2
            go_ret
            exact ⟨_, by first | rfl | (simp [errW_none, errW_some] <;> rfl) | (simp only [← hji3]; first | rfl | (simp [errW_none, errW_some] <;> rfl)) | (simp [*, errW_none, errW_some] <;> rfl), by (with_reducible repeat (first | apply Kd.R_alloc | apply Kd.R_drewN | apply Kd.R_drew)); exact HO_5.out, by repeat (first | (with_reducible first | exact HB.out | apply below_alloc | apply pw_below_drewN | apply below_drew1) | exact HB.out)⟩
    · rw [if_neg c5] at H
      exact absurd H (by simp)
  · rw [if_neg c4] at H
    exact absurd H (by simp)

/-! ### mask_Fits: function 51 -/
def mask_Fits.f (k : Nat) (l0 : List Int) (l1 : List Int) : Option (Bool) := if (l0.length : Int) = (l1.length : Int) then ((mask_And.f k l0 l1).bind fun t156 => ((mask_Count.f k t156).bind fun t159 => (some (t159 == 0)))) else (some false)
theorem mask_Fits.mono : ∀ a0 a1 k, LeO (mask_Fits.f k a0 a1) (mask_Fits.f (k + 1) a0 a1) := by
  intro a0 a1 k
  unfold mask_Fits.f
  repeat' first
      | (with_reducible exact mask_And.mono _ _ _)
      | (with_reducible exact mask_Count.mono _ _)
      | (with_reducible exact LeO.refl _)
      | (with_reducible exact LeO.none _)
      | (with_reducible refine LeO.ite ?_ ?_)
      | (with_reducible refine LeO.bind ?_ (fun _ => ?_))
      | exact mask_And.mono _ _ _
      | exact mask_Count.mono _ _
      | exact LeO.none _
      | refine LeO.ite ?_ ?_
      | refine LeO.bind ?_ (fun _ => ?_)
set_option maxHeartbeats 8000000 in
set_option maxRecDepth 100000 in
theorem mask_Fits.calls (k : Nat) (A0 : Option Addr) (c0 : Nat) (l0 : List Int) (A1 : Option Addr) (c1 : Nat) (l1 : List Int) (r : Bool) (w : World) (hr0 : Kd.C (Kd.int .u8) w A0 l0.length l0) (hc0 : l0.length ≤ c0) (hr1 : Kd.C (Kd.int .u8) w A1 l1.length l1) (hc1 : l1.length ≤ c1) (h : mask_Fits.f k l0 l1 = some r) :
    Calls Try.prog 51 #[.slice A0 l0.length c0, .slice A1 l1.length c1] w fun e w' => e = .returned (.bool r) ∧ Below w.heap.size w w' := by
  have HR0 := Aside0.mk hr0
  have HC0 := Aside0.mk hc0
  clear hr0 hc0
  have HR1 := Aside0.mk hr1
  have HC1 := Aside0.mk hc1
  clear hr1 hc1
  have HB := Aside0.mk (Below.refl w.heap.size w)
  have H : (if (l0.length : Int) = (l1.length : Int) then ((mask_And.f k l0 l1).bind fun t156 => ((mask_Count.f k t156).bind fun t159 => (some (t159 == 0)))) else (some false)) = some r := h
  clear h
  by_cases c3 : (l0.length : Int) = (l1.length : Int)
  · rw [if_pos c3] at H
    have c3b0 : ((l0.length : Int) == (l1.length : Int)) = true := beq_iff_eq.mpr c3
    have c3b1 : ((l0.length : Int) != (l1.length : Int)) = false := bne_eq_false_iff_eq.mpr c3
    have c3b2 : (l0.length == l1.length) = true := by first | simpa using c3 | (simp at c3 ⊢; omega)
    clear c3
    replace H := Option.bind_eq_some_iff.mp H
    obtain ⟨t156, A40, H⟩ := H
    replace H : ((mask_Count.f k t156).bind fun t159 => (some (t159 == 0))) = some r := H
    have A4 := Aside0.mk A40
    clear A40
    replace H := Option.bind_eq_some_iff.mp H
    obtain ⟨t159, A50, H⟩ := H
    replace H : (some (t159 == 0)) = some r := H
    have A5 := Aside0.mk A50
    clear A50
    obtain rfl := Option.some.inj H
    go_enter Try.func51, Try.ntmps51
    go_wp2_with (first | (go_at_call 50; (with_reducible refine (mask_And.calls k _ _ l0 _ _ l1 t156 _ ?side1 ?side2 ?side3 ?side4 A4.out).mono ?_); (case side1 => repeat (first | exact HR0.out | (with_reducible refine Kd.C_alloc ?_ _) | (with_reducible refine Kd.C_drewN ?_ _) | (with_reducible refine Kd.C_drew ?_))); (case side2 => exact HC0.out); (case side3 => repeat (first | exact HR1.out | (with_reducible refine Kd.C_alloc ?_ _) | (with_reducible refine Kd.C_drewN ?_ _) | (with_reducible refine Kd.C_drew ?_))); (case side4 => exact HC1.out); rintro e w6 ⟨v157, rfl, ho0, hb⟩; have n0_ := Aside0.mk (Kd.R_lower ho0 (below_size (hb0_ HB.out))); have n1_ := Aside0.mk (below_step (hb0_ HB.out) hb); clear HB; have HO158 := n0_; have HB := n1_; clear n0_ n1_; (try clear hb); (try clear hb2); (try clear hk); (try clear hi); (try clear ho0); obtain ⟨Ao7, co7, eo7⟩ := Kd.R_slice HO158.out; subst eo7) | (go_at_call 45; (with_reducible refine (mask_Count.calls k _ _ t156 t159 _ ?side1 ?side2 A5.out).mono ?_); (case side1 => repeat (first | exact (Kd.R_reads' HO158.out).2.2 | (with_reducible refine Kd.C_alloc ?_ _) | (with_reducible refine Kd.C_drewN ?_ _) | (with_reducible refine Kd.C_drew ?_))); (case side2 => exact (Kd.R_reads' HO158.out).2.1); rintro e w' ⟨rfl, ⟨nd, rfl⟩⟩))
    go_ret
    exact ⟨by first | rfl | (simp [errW_none, errW_some] <;> rfl) | (simp [*, errW_none, errW_some] <;> rfl), by repeat (first | (with_reducible first | exact HB.out | apply below_alloc | apply pw_below_drewN | apply below_drew1) | exact HB.out)⟩
  · rw [if_neg c3] at H
    have c3b0 : ((l0.length : Int) == (l1.length : Int)) = false := beq_eq_false_iff_ne.mpr c3
    have c3b1 : ((l0.length : Int) != (l1.length : Int)) = true := bne_iff_ne.mpr c3
    have c3b2 : (l0.length == l1.length) = false := by first | simpa using c3 | (simp at c3 ⊢; omega)
    obtain rfl := Option.some.inj H
    go_enter Try.func51, Try.ntmps51
    go_wp2
    go_ret
    exact ⟨by first | rfl | (simp [errW_none, errW_some] <;> rfl) | (simp [*, errW_none, errW_some] <;> rfl), by repeat (first | (with_reducible first | exact HB.out | apply below_alloc | apply pw_below_drewN | apply below_drew1) | exact HB.out)⟩

/-! ### libevolutionlaw15_MaskFits: function 10 -/
mutual
def libevolutionlaw15_MaskFits.j0 : Nat → List Int → List Int → Bool → Option (Bool)
  | 0, _, _, _ => none
  | k + 1, x0, x1, x17 => if x17 = true then ((libevolutionlaw15_awake.f k).bind fun t160 => (some t160)) else ((Extend.f x1 (x0.length : Int)).bind fun t161 => ((mask_And.f k x0 t161).bind fun t164 => (if (t161.length : Int) = (x0.length : Int) then ((mask_Fits.f k x0 t161).bind fun t167 => ((mask_Count.f k t164).bind fun t168 => (if (t167 != (t168 == 0)) = true then (libevolutionlaw15_MaskFits.j1 k x0 t161 t164 true) else (if ([] : List Int).length + t161.length < 140737488355328 then ((some (([] : List Int) ++ t161 : List Int)).bind fun y169 => (if y169.length < 140737488355328 then ((mask_Fits.f k x0 (y169 ++ [0])).bind fun t175 => (libevolutionlaw15_MaskFits.j1 k x0 t161 t164 t175)) else (none))) else (none))))) else (libevolutionlaw15_MaskFits.j1 k x0 t161 t164 true))))
def libevolutionlaw15_MaskFits.j1 : Nat → List Int → List Int → List Int → Bool → Option (Bool)
  | 0, _, _, _, _ => none
  | k + 1, x0, x5, x6, x47 => if x47 = true then (some false) else ((mask_Count.f k x6).bind fun t176 => ((mask_Bits.f k x6 t176).bind fun bt177 => ((mask_Clear.f k x5 bt177.1).bind fun t181 => (if bt177.2 = true then ((mask_Fits.f k x0 t181).bind fun t184 => (if t184 = true then ((mask_Count.f k t181).bind fun t185 => ((mask_Count.f k x6).bind fun t186 => ((mask_Count.f k x5).bind fun t187 => (if (wrap64 (t185 + t186)) = t187 then ((Extend.f ([] : List Int) (x0.length : Int)).bind fun t188 => ((mask_Count.f k t188).bind fun t191 => (if t191 = (wrap64 (8 * (x0.length : Int))) then ((libevolutionlaw15_awake.f k).bind fun t192 => (some t192)) else (some false)))) else (some false))))) else (some false))) else (some false)))))
end
def libevolutionlaw15_MaskFits.f (k : Nat) (l0 : List Int) (l1 : List Int) : Option (Bool) := if (l0.length : Int) > 200 then (libevolutionlaw15_MaskFits.j0 k l0 l1 true) else (libevolutionlaw15_MaskFits.j0 k l0 l1 (decide ((l1.length : Int) > 200)))
theorem libevolutionlaw15_MaskFits.mono_l : ∀ k, (∀ y0 y1 y2, LeO (libevolutionlaw15_MaskFits.j0 k y0 y1 y2) (libevolutionlaw15_MaskFits.j0 (k + 1) y0 y1 y2)) ∧ (∀ y0 y1 y2 y3, LeO (libevolutionlaw15_MaskFits.j1 k y0 y1 y2 y3) (libevolutionlaw15_MaskFits.j1 (k + 1) y0 y1 y2 y3))
  | 0 => ⟨fun _ _ _ r h => by simp [libevolutionlaw15_MaskFits.j0] at h, fun _ _ _ _ r h => by simp [libevolutionlaw15_MaskFits.j1] at h⟩
  | k + 1 => by
    obtain ⟨ih0, ih1⟩ := libevolutionlaw15_MaskFits.mono_l k
    refine ⟨?_, ?_⟩
    · intro y0 y1 y2
      unfold libevolutionlaw15_MaskFits.j0
      repeat' first
      | (with_reducible exact ih0 _ _ _)
      | (with_reducible exact ih1 _ _ _ _)
      | (with_reducible exact libevolutionlaw15_awake.mono _)
      | (with_reducible exact mask_And.mono _ _ _)
      | (with_reducible exact mask_Bits.mono _ _ _)
      | (with_reducible exact mask_Clear.mono _ _ _)
      | (with_reducible exact mask_Count.mono _ _)
      | (with_reducible exact mask_Fits.mono _ _ _)
      | (with_reducible exact LeO.refl _)
      | (with_reducible exact LeO.none _)
      | (with_reducible refine LeO.ite ?_ ?_)
      | (with_reducible refine LeO.bind ?_ (fun _ => ?_))
      | exact ih0 _ _ _
      | exact ih1 _ _ _ _
      | exact libevolutionlaw15_awake.mono _
      | exact mask_And.mono _ _ _
      | exact mask_Bits.mono _ _ _
      | exact mask_Clear.mono _ _ _
      | exact mask_Count.mono _ _
      | exact mask_Fits.mono _ _ _
      | exact LeO.none _
      | refine LeO.ite ?_ ?_
      | refine LeO.bind ?_ (fun _ => ?_)
    · intro y0 y1 y2 y3
      unfold libevolutionlaw15_MaskFits.j1
      repeat' first
      | (with_reducible exact ih0 _ _ _)
      | (with_reducible exact ih1 _ _ _ _)
      | (with_reducible exact libevolutionlaw15_awake.mono _)
      | (with_reducible exact mask_And.mono _ _ _)
      | (with_reducible exact mask_Bits.mono _ _ _)
      | (with_reducible exact mask_Clear.mono _ _ _)
      | (with_reducible exact mask_Count.mono _ _)
      | (with_reducible exact mask_Fits.mono _ _ _)
      | (with_reducible exact LeO.refl _)
      | (with_reducible exact LeO.none _)
      | (with_reducible refine LeO.ite ?_ ?_)
      | (with_reducible refine LeO.bind ?_ (fun _ => ?_))
      | exact ih0 _ _ _
      | exact ih1 _ _ _ _
      | exact libevolutionlaw15_awake.mono _
      | exact mask_And.mono _ _ _
      | exact mask_Bits.mono _ _ _
      | exact mask_Clear.mono _ _ _
      | exact mask_Count.mono _ _
      | exact mask_Fits.mono _ _ _
      | exact LeO.none _
      | refine LeO.ite ?_ ?_
      | refine LeO.bind ?_ (fun _ => ?_)
theorem libevolutionlaw15_MaskFits.mono : ∀ a0 a1 k, LeO (libevolutionlaw15_MaskFits.f k a0 a1) (libevolutionlaw15_MaskFits.f (k + 1) a0 a1) := by
  intro a0 a1 k
  obtain ⟨ih0, ih1⟩ := libevolutionlaw15_MaskFits.mono_l k
  unfold libevolutionlaw15_MaskFits.f
  repeat' first
      | (with_reducible exact ih0 _ _ _)
      | (with_reducible exact ih1 _ _ _ _)
      | (with_reducible exact libevolutionlaw15_awake.mono _)
      | (with_reducible exact mask_And.mono _ _ _)
      | (with_reducible exact mask_Bits.mono _ _ _)
      | (with_reducible exact mask_Clear.mono _ _ _)
      | (with_reducible exact mask_Count.mono _ _)
      | (with_reducible exact mask_Fits.mono _ _ _)
      | (with_reducible exact LeO.refl _)
      | (with_reducible exact LeO.none _)
      | (with_reducible refine LeO.ite ?_ ?_)
      | (with_reducible refine LeO.bind ?_ (fun _ => ?_))
      | exact ih0 _ _ _
      | exact ih1 _ _ _ _
      | exact libevolutionlaw15_awake.mono _
      | exact mask_And.mono _ _ _
      | exact mask_Bits.mono _ _ _
      | exact mask_Clear.mono _ _ _
      | exact mask_Count.mono _ _
      | exact mask_Fits.mono _ _ _
      | exact LeO.none _
      | refine LeO.ite ?_ ?_
      | refine LeO.bind ?_ (fun _ => ?_)
set_option maxHeartbeats 8000000 in
set_option maxRecDepth 100000 in
theorem libevolutionlaw15_MaskFits.calls (k : Nat) (A0 : Option Addr) (c0 : Nat) (l0 : List Int) (A1 : Option Addr) (c1 : Nat) (l1 : List Int) (r : Bool) (w : World) (hr0 : Kd.C (Kd.int .u8) w A0 l0.length l0) (hc0 : l0.length ≤ c0) (hr1 : Kd.C (Kd.int .u8) w A1 l1.length l1) (hc1 : l1.length ≤ c1) (h : libevolutionlaw15_MaskFits.f k l0 l1 = some r) :
    Calls Try.prog 10 #[.slice A0 l0.length c0, .slice A1 l1.length c1] w fun e w' => e = .returned (.bool r) ∧ Below w.heap.size w w' := by
  have HR0 := Aside0.mk hr0
  have HC0 := Aside0.mk hc0
  clear hr0 hc0
  have HR1 := Aside0.mk hr1
  have HC1 := Aside0.mk hc1
  clear hr1 hc1
  have HB := Aside0.mk (Below.refl w.heap.size w)
  have H : (if (l0.length : Int) > 200 then (libevolutionlaw15_MaskFits.j0 k l0 l1 true) else (libevolutionlaw15_MaskFits.j0 k l0 l1 (decide ((l1.length : Int) > 200)))) = some r := h
  clear h
  have HC3 := Aside0.mk H
  clear H
  go_enter Try.func10, Try.ntmps10
  go_upto_region 1 with (fail)
  go_cut [17] (fun v17 wc => ∃ (kq : Nat) (x17_2 : Bool), v17 = .bool x17_2 ∧ Aside0 (libevolutionlaw15_MaskFits.j0 kq l0 l1 x17_2 = some r) ∧ Aside0 (kq ≤ k) ∧ Aside0 (Below w.heap.size w wc))
  case first =>
    have H := HC3.out
    clear HC3
    by_cases c4 : (l0.length : Int) > 200
    · rw [if_pos c4] at H
      have c4b0 : decide (200 < (l0.length : Int)) = true := decide_eq_true c4
      have c4b1 : decide (200 < l0.length) = true := decide_eq_true (by omega)
      clear c4
      (first | rw [c4b0] | (simp only [i64_w, i32_w]; rw [c4b0]) | skip)
      have H' := Aside0.mk H
      clear H
      go_wp2
      go_meet
      case rel => exact ⟨_, (true), (by first | rfl | (simp; done) | (simp [*]; done)), H', ⟨by first | omega | exact Nat.le_refl _⟩, ⟨by repeat (first | (with_reducible first | exact HB.out | apply below_alloc | apply pw_below_drewN | apply below_drew1) | exact HB.out)⟩⟩
    · rw [if_neg c4] at H
      have c4b0 : decide (200 < (l0.length : Int)) = false := decide_eq_false c4
      have c4b1 : decide (200 < l0.length) = false := decide_eq_false (by omega)
      clear c4
      (first | rw [c4b0] | (simp only [i64_w, i32_w]; rw [c4b0]) | skip)
      have H' := Aside0.mk H
      clear H
      go_wp2
      go_meet
      case rel => exact ⟨_, (decide ((l1.length : Int) > 200)), (by first | rfl | (simp; done) | (simp [*]; done)), H', ⟨by first | omega | exact Nat.le_refl _⟩, ⟨by repeat (first | (with_reducible first | exact HB.out | apply below_alloc | apply pw_below_drewN | apply below_drew1) | exact HB.out)⟩⟩
  case rest =>
    clear HC3
    try clear c1
    try clear p2
    try clear c4
    try clear c4b0
    try clear c4b1
    obtain ⟨kq, x17_2, rfl, HA, HJ2, HB⟩ := hcut
    cases kq with
    | zero => exact absurd HA.out (by simp [libevolutionlaw15_MaskFits.j0])
    | succ kj2 =>
      have H := HA.out
      clear HA
      simp only [libevolutionlaw15_MaskFits.j0] at H
      by_cases c5 : x17_2 = true
      · subst c5
        have H1 : ((libevolutionlaw15_awake.f kj2).bind fun t160 => (some t160)) = some r := by rw [if_pos rfl] at H; exact H
        clear H
        have H := H1
        clear H1
        replace H := Option.bind_eq_some_iff.mp H
        obtain ⟨t160, A60, H⟩ := H
        replace H : (some t160) = some r := H
        have A6 := Aside0.mk A60
        clear A60
        obtain rfl := Option.some.inj H
        go_wp2_with (first | ((with_reducible refine gate_callee (f := 43) rfl ?_); refine goesL_ (some 18) rfl rfl Try.func43 (by kernel_rfl) rfl #[] rfl (by (try simp only [List.map_toArray, List.map_cons, List.map_nil]); first | done | rfl | (simp only [List.length_drop, List.length_take]; rfl)) ?_; (with_reducible refine (libevolutionlaw15_awake.calls kj2  t160 _ A6.out).mono ?_); rintro e w7 ⟨rfl, hb⟩; refine ⟨_, rfl, ?_⟩; have n0_ := Aside0.mk (below_step (hb0_ HB.out) hb); clear HB; have HB := n0_; clear n0_; (try clear hb); (try clear hb2); (try clear hk); (try clear hi)))
        go_ret
        exact ⟨by first | rfl | (simp [errW_none, errW_some] <;> rfl) | (simp [*, errW_none, errW_some] <;> rfl), by repeat (first | (with_reducible first | exact HB.out | apply below_alloc | apply pw_below_drewN | apply below_drew1) | exact HB.out)⟩
      · replace c5 := Bool.eq_false_iff.mpr c5
        subst c5
        have H1 : ((Extend.f l1 (l0.length : Int)).bind fun t161 => ((mask_And.f kj2 l0 t161).bind fun t164 => (if (t161.length : Int) = (l0.length : Int) then ((mask_Fits.f kj2 l0 t161).bind fun t167 => ((mask_Count.f kj2 t164).bind fun t168 => (if (t167 != (t168 == 0)) = true then (libevolutionlaw15_MaskFits.j1 kj2 l0 t161 t164 true) else (if ([] : List Int).length + t161.length < 140737488355328 then ((some (([] : List Int) ++ t161 : List Int)).bind fun y169 => (if y169.length < 140737488355328 then ((mask_Fits.f kj2 l0 (y169 ++ [0])).bind fun t175 => (libevolutionlaw15_MaskFits.j1 kj2 l0 t161 t164 t175)) else (none))) else (none))))) else (libevolutionlaw15_MaskFits.j1 kj2 l0 t161 t164 true)))) = some r := by rw [if_neg (show ¬ (false = true) by decide)] at H; exact H
        clear H
        have H := H1
        clear H1
        replace H := Option.bind_eq_some_iff.mp H
        obtain ⟨t161, A80, H⟩ := H
        replace H : ((mask_And.f kj2 l0 t161).bind fun t164 => (if (t161.length : Int) = (l0.length : Int) then ((mask_Fits.f kj2 l0 t161).bind fun t167 => ((mask_Count.f kj2 t164).bind fun t168 => (if (t167 != (t168 == 0)) = true then (libevolutionlaw15_MaskFits.j1 kj2 l0 t161 t164 true) else (if ([] : List Int).length + t161.length < 140737488355328 then ((some (([] : List Int) ++ t161 : List Int)).bind fun y169 => (if y169.length < 140737488355328 then ((mask_Fits.f kj2 l0 (y169 ++ [0])).bind fun t175 => (libevolutionlaw15_MaskFits.j1 kj2 l0 t161 t164 t175)) else (none))) else (none))))) else (libevolutionlaw15_MaskFits.j1 kj2 l0 t161 t164 true))) = some r := H
        have A8 := Aside0.mk A80
        clear A80
        replace H := Option.bind_eq_some_iff.mp H
        obtain ⟨t164, A90, H⟩ := H
        replace H : (if (t161.length : Int) = (l0.length : Int) then ((mask_Fits.f kj2 l0 t161).bind fun t167 => ((mask_Count.f kj2 t164).bind fun t168 => (if (t167 != (t168 == 0)) = true then (libevolutionlaw15_MaskFits.j1 kj2 l0 t161 t164 true) else (if ([] : List Int).length + t161.length < 140737488355328 then ((some (([] : List Int) ++ t161 : List Int)).bind fun y169 => (if y169.length < 140737488355328 then ((mask_Fits.f kj2 l0 (y169 ++ [0])).bind fun t175 => (libevolutionlaw15_MaskFits.j1 kj2 l0 t161 t164 t175)) else (none))) else (none))))) else (libevolutionlaw15_MaskFits.j1 kj2 l0 t161 t164 true)) = some r := H
        have A9 := Aside0.mk A90
        clear A90
        have HC10 := Aside0.mk H
        clear H
        go_upto_region 5 with (first | ((with_reducible refine gate_callee (f := 46) rfl ?_); refine goesL_ (some 22) rfl rfl Try.func46 (by kernel_rfl) rfl #[.slice A1 l1.length c1, .int .i64 (l0.length : Int)] rfl (by (try simp only [List.map_toArray, List.map_cons, List.map_nil]); first | done | rfl | (simp only [List.length_drop, List.length_take]; rfl)) ?_; (with_reducible refine (Extend.calls _ _ l1 (l0.length : Int) t161 _ ?side1 ?side2 A8.out).mono ?_); (case side1 => repeat (first | exact (Kd.C_below HR1.out HB.out) | (with_reducible refine Kd.C_alloc ?_ _) | (with_reducible refine Kd.C_drewN ?_ _) | (with_reducible refine Kd.C_drew ?_))); (case side2 => exact HC1.out); rintro e w11 ⟨v162, rfl, ho0, hb⟩; refine ⟨_, rfl, ?_⟩; have n0_ := Aside0.mk (Kd.V_lower (Kd.V_mono (ok' := fun k_ => True) ho0 (fun k_ hk_ => trivial)) (below_size (hb0_ HB.out))); have n1_ := Aside0.mk (below_step (hb0_ HB.out) hb); clear HB; have HO163 := n0_; have HB := n1_; clear n0_ n1_; (try clear hb); (try clear hb2); (try clear hk); (try clear hi); (try clear ho0); obtain ⟨Ao12, co12, eo12⟩ := Kd.V_slice HO163.out; subst eo12) | ((with_reducible refine gate_callee (f := 50) rfl ?_); refine goesL_ (some 25) rfl rfl Try.func50 (by kernel_rfl) rfl #[.slice A0 l0.length c0, .slice Ao12 t161.length co12] rfl (by (try simp only [List.map_toArray, List.map_cons, List.map_nil]); first | done | rfl | (simp only [List.length_drop, List.length_take]; rfl)) ?_; (with_reducible refine (mask_And.calls kj2 _ _ l0 _ _ t161 t164 _ ?side1 ?side2 ?side3 ?side4 A9.out).mono ?_); (case side1 => repeat (first | exact (Kd.C_below HR0.out HB.out) | (with_reducible refine Kd.C_alloc ?_ _) | (with_reducible refine Kd.C_drewN ?_ _) | (with_reducible refine Kd.C_drew ?_))); (case side2 => exact HC0.out); (case side3 => repeat (first | exact (Kd.V_reads' HO163.out).2.2 | (with_reducible refine Kd.C_alloc ?_ _) | (with_reducible refine Kd.C_drewN ?_ _) | (with_reducible refine Kd.C_drew ?_))); (case side4 => exact (Kd.V_reads' HO163.out).2.1); rintro e w13 ⟨v165, rfl, ho0, hb⟩; refine ⟨_, rfl, ?_⟩; have n0_ := Aside0.mk (Kd.V_elder' (kV_ HO163.out) (Kd.R_base ho0) hb); have n1_ := Aside0.mk (Kd.R_lower ho0 (below_size (hb0_ HB.out))); have n2_ := Aside0.mk (below_step (hb0_ HB.out) hb); clear HO163 HB; have HO163 := n0_; have HO166 := n1_; have HB := n2_; clear n0_ n1_ n2_; (try clear hb); (try clear hb2); (try clear hk); (try clear hi); (try clear ho0)))
        (try simp only [Act.put, List.setIfInBounds_toArray, List.set_cons_zero, List.set_cons_succ])
        go_cut [47] (fun v47 wc => ∃ (kq : Nat) (x47_9 : Bool), v47 = .bool x47_9 ∧ Aside0 (libevolutionlaw15_MaskFits.j1 kq l0 t161 t164 x47_9 = some r) ∧ Aside0 (kq ≤ kj2) ∧ Aside0 (Kd.V (Kd.int .u8) 5 wc w.heap.size (fun k_ => some k_ ≠ (v165 : Value).ownBlock) (.slice Ao12 t161.length co12) t161) ∧ Aside0 (Kd.R (Kd.int .u8) 5 wc w.heap.size (fun _ => True) v165 t164) ∧ Aside0 (Below w.heap.size w wc))
        case first =>
          have H := HC10.out
          clear HC10
          by_cases c14 : (t161.length : Int) = (l0.length : Int)
          · rw [if_pos c14] at H
            have c14b0 : ((t161.length : Int) == (l0.length : Int)) = true := beq_iff_eq.mpr c14
            have c14b1 : ((t161.length : Int) != (l0.length : Int)) = false := bne_eq_false_iff_eq.mpr c14
            have c14b2 : (t161.length == l0.length) = true := by first | simpa using c14 | (simp at c14 ⊢; omega)
            clear c14
            (first | rw [c14b0] | (simp only [i64_w, i32_w]; rw [c14b0]) | skip)
            replace H := Option.bind_eq_some_iff.mp H
            obtain ⟨t167, A150, H⟩ := H
            replace H : ((mask_Count.f kj2 t164).bind fun t168 => (if (t167 != (t168 == 0)) = true then (libevolutionlaw15_MaskFits.j1 kj2 l0 t161 t164 true) else (if ([] : List Int).length + t161.length < 140737488355328 then ((some (([] : List Int) ++ t161 : List Int)).bind fun y169 => (if y169.length < 140737488355328 then ((mask_Fits.f kj2 l0 (y169 ++ [0])).bind fun t175 => (libevolutionlaw15_MaskFits.j1 kj2 l0 t161 t164 t175)) else (none))) else (none)))) = some r := H
            have A15 := Aside0.mk A150
            clear A150
            replace H := Option.bind_eq_some_iff.mp H
            obtain ⟨t168, A160, H⟩ := H
            replace H : (if (t167 != (t168 == 0)) = true then (libevolutionlaw15_MaskFits.j1 kj2 l0 t161 t164 true) else (if ([] : List Int).length + t161.length < 140737488355328 then ((some (([] : List Int) ++ t161 : List Int)).bind fun y169 => (if y169.length < 140737488355328 then ((mask_Fits.f kj2 l0 (y169 ++ [0])).bind fun t175 => (libevolutionlaw15_MaskFits.j1 kj2 l0 t161 t164 t175)) else (none))) else (none))) = some r := H
            have A16 := Aside0.mk A160
            clear A160
            by_cases c17 : (t167 != (t168 == 0)) = true
            · rw [if_pos c17] at H
              have c17b0 : (t167 != (t168 == 0)) = true := c17
              (try (have c17b1 : decide (t167 = (t168 == 0)) = false := by simpa using c17))
              (try (have c17b2 : (t167 == (t168 == 0)) = false := by simpa using c17))
              (try (have c17b3 : ¬ (t167 = (t168 == 0)) := by simpa using c17))
              clear c17
              have H' := Aside0.mk H
              clear H
              go_wp2_with (first | (go_at_call 51; (with_reducible refine (mask_Fits.calls kj2 _ _ l0 _ _ t161 t167 _ ?side1 ?side2 ?side3 ?side4 A15.out).mono ?_); (case side1 => repeat (first | exact (Kd.C_below HR0.out HB.out) | (with_reducible refine Kd.C_alloc ?_ _) | (with_reducible refine Kd.C_drewN ?_ _) | (with_reducible refine Kd.C_drew ?_))); (case side2 => exact HC0.out); (case side3 => repeat (first | exact (Kd.V_reads' HO163.out).2.2 | (with_reducible refine Kd.C_alloc ?_ _) | (with_reducible refine Kd.C_drewN ?_ _) | (with_reducible refine Kd.C_drew ?_))); (case side4 => exact (Kd.V_reads' HO163.out).2.1); rintro e w18 ⟨rfl, hb⟩; have n0_ := Aside0.mk (Kd.V_below (kV_ HO163.out) hb); have n1_ := Aside0.mk (Kd.R_below (kR_ HO166.out) hb); have n2_ := Aside0.mk (below_step (hb0_ HB.out) hb); clear HO163 HO166 HB; have HO163 := n0_; have HO166 := n1_; have HB := n2_; clear n0_ n1_ n2_; (try clear hb); (try clear hb2); (try clear hk); (try clear hi); obtain ⟨Ao19, co19, eo19⟩ := Kd.R_slice HO166.out; subst eo19) | (go_at_call 45; (with_reducible refine (mask_Count.calls kj2 _ _ t164 t168 _ ?side1 ?side2 A16.out).mono ?_); (case side1 => repeat (first | exact (Kd.R_reads' HO166.out).2.2 | (with_reducible refine Kd.C_alloc ?_ _) | (with_reducible refine Kd.C_drewN ?_ _) | (with_reducible refine Kd.C_drew ?_))); (case side2 => exact (Kd.R_reads' HO166.out).2.1); rintro e w' ⟨rfl, ⟨nd, rfl⟩⟩))
              go_meet
              case rel => exact ⟨_, (true), (by first | rfl | (simp; done) | (simp [*]; done)), H', ⟨by have := HJ2.out; first | omega | exact Nat.le_refl _⟩, ⟨by (with_reducible repeat (first | apply Kd.V_alloc | apply Kd.V_drewN | apply Kd.V_drew)); exact Kd.V_mono HO163.out (fun _ hk => hk.2)⟩, ⟨by (with_reducible repeat (first | apply Kd.R_alloc | apply Kd.R_drewN | apply Kd.R_drew)); exact HO166.out⟩, ⟨by repeat (first | (with_reducible first | exact HB.out | apply below_alloc | apply pw_below_drewN | apply below_drew1) | exact HB.out)⟩⟩
            · rw [if_neg c17] at H
              have c17b0 : (t167 != (t168 == 0)) = false := by simpa using c17
              (try (have c17b1 : decide (t167 = (t168 == 0)) = true := by simpa using c17))
              (try (have c17b2 : (t167 == (t168 == 0)) = true := by simpa using c17))
              clear c17
              by_cases c20 : ([] : List Int).length + t161.length < 140737488355328
              · rw [if_pos c20] at H
                have LMc20 := Aside0.mk c20
                clear c20
                obtain ⟨y169, hy169⟩ : ∃ y_ : List Int, y_ = (([] : List Int) ++ t161) := ⟨_, rfl⟩
                replace H : (if y169.length < 140737488355328 then ((mask_Fits.f kj2 l0 (y169 ++ [0])).bind fun t175 => (libevolutionlaw15_MaskFits.j1 kj2 l0 t161 t164 t175)) else (none)) = some r := by first | (rw [hy169]; with_reducible exact H) | (have H2_ := (Option.bind_some _ _).symm.trans H; rw [hy169]; with_reducible exact H2_) | (have H2_ := (Option.bind_some _ _).symm.trans H; with_reducible exact H2_) | with_reducible exact H | (rw [hy169]; exact H) | exact H
                have Ny169 := Aside0.mk hy169
                clear hy169
                by_cases c21 : y169.length < 140737488355328
                · rw [if_pos c21] at H
                  have LMc21 := Aside0.mk c21
                  clear c21
                  obtain ⟨y172, hy172⟩ : ∃ y_ : List Int, y_ = (y169 ++ [0]) := ⟨_, rfl⟩
                  replace H : ((mask_Fits.f kj2 l0 y172).bind fun t175 => (libevolutionlaw15_MaskFits.j1 kj2 l0 t161 t164 t175)) = some r := by first | (rw [hy172]; with_reducible exact H) | (have H2_ := (Option.bind_some _ _).symm.trans H; rw [hy172]; with_reducible exact H2_) | (have H2_ := (Option.bind_some _ _).symm.trans H; with_reducible exact H2_) | with_reducible exact H | (rw [hy172]; exact H) | exact H
                  have Ny172 := Aside0.mk hy172
                  clear hy172
                  replace H := Option.bind_eq_some_iff.mp H
                  obtain ⟨t175, A220, H⟩ := H
                  replace H : (libevolutionlaw15_MaskFits.j1 kj2 l0 t161 t164 t175) = some r := H
                  have A22 := Aside0.mk A220
                  clear A220
                  have H' := Aside0.mk H
                  clear H
                  go_wp2_with (first | (go_at_call 51; (with_reducible refine (mask_Fits.calls kj2 _ _ l0 _ _ t161 t167 _ ?side1 ?side2 ?side3 ?side4 A15.out).mono ?_); (case side1 => repeat (first | exact (Kd.C_below HR0.out HB.out) | (with_reducible refine Kd.C_alloc ?_ _) | (with_reducible refine Kd.C_drewN ?_ _) | (with_reducible refine Kd.C_drew ?_))); (case side2 => exact HC0.out); (case side3 => repeat (first | exact (Kd.V_reads' HO163.out).2.2 | (with_reducible refine Kd.C_alloc ?_ _) | (with_reducible refine Kd.C_drewN ?_ _) | (with_reducible refine Kd.C_drew ?_))); (case side4 => exact (Kd.V_reads' HO163.out).2.1); rintro e w23 ⟨rfl, hb⟩; have n0_ := Aside0.mk (Kd.V_below (kV_ HO163.out) hb); have n1_ := Aside0.mk (Kd.R_below (kR_ HO166.out) hb); have n2_ := Aside0.mk (below_step (hb0_ HB.out) hb); clear HO163 HO166 HB; have HO163 := n0_; have HO166 := n1_; have HB := n2_; clear n0_ n1_ n2_; (try clear hb); (try clear hb2); (try clear hk); (try clear hi); obtain ⟨Ao24, co24, eo24⟩ := Kd.R_slice HO166.out; subst eo24) | (go_at_call 45; (with_reducible refine (mask_Count.calls kj2 _ _ t164 t168 _ ?side1 ?side2 A16.out).mono ?_); (case side1 => repeat (first | exact (Kd.R_reads' HO166.out).2.2 | (with_reducible refine Kd.C_alloc ?_ _) | (with_reducible refine Kd.C_drewN ?_ _) | (with_reducible refine Kd.C_drew ?_))); (case side2 => exact (Kd.R_reads' HO166.out).2.1); rintro e w' ⟨rfl, ⟨nd, rfl⟩⟩) | ((with_reducible refine gate_builtin (b := .append) (xs := #[.const (.slice none 0 0), .tmp 42]) rfl ?_); (try (refine gate_guard (by rfl) ?_; dsimp only)); at_builtin; refine Kd.R_append_rows (Kd.int .u8) (w0 := w) w.heap.size rfl (.const (.slice none 0 0)) (.tmp 42) 27 5 (.int .u8 0) 1 rfl Try.underlying27 info5 rfl (by decide) (by omega) (.slice none 0 0) ([] : List Int) t161 _ _ _ (fun k_ => some k_ ≠ (.slice Ao24 t164.length co24 : Value).ownBlock) (fun _ => False) rfl rfl ?aO ?aR (fun _ _ h => h) (fun _ h => h.elim) ?aF ?aB ?aS ?aL ?_; (case aR => repeat (first | exact (Kd.V_reads' HO163.out).2.2 | (with_reducible refine Kd.C_alloc ?_ _) | (with_reducible refine Kd.C_drewN ?_ _) | (with_reducible refine Kd.C_drew ?_))); (case aB => exact (hb0_ HB.out)); (case aF => exact (fun k_ hk => Kd.fresh' (Kd.R_lt (kR_ HO166.out)) k_ hk)); (case aO => exact ((Kd.R_nil _ _ _ _ (fun k_ => some k_ ≠ (.slice Ao24 t164.length co24 : Value).ownBlock)))); (case aS => exact (below_size (hb0_ HB.out))); (case aL => have := LMc20.out; omega); intro v170 w25 ho hb hg hat; rw [← Ny169.out] at ho; have n0_ := Aside0.mk (Kd.V_afterv (Kd.V_apart_nil (kV_ HO163.out)) hg hat); have n1_ := Aside0.mk (Kd.R_after (Kd.R_apart_nil (kR_ HO166.out)) hg hat); have n2_ := Aside0.mk (hb); have n3_ := Aside0.mk (ho); clear HO163 HO166 HB; have HO163 := n0_; have HO166 := n1_; have HB := n2_; have HO171 := n3_; clear n0_ n1_ n2_ n3_ ho hb hg hat) | ((with_reducible refine gate_builtin (b := .append) (xs := #[.tmp 43, .tmp 44]) rfl ?_); (try (refine gate_guard (by rfl) ?_; dsimp only)); at_builtin; refine Kd.R_append (Kd.int .u8) (w0 := w) w.heap.size rfl (.tmp 43) (.tmp 44) 27 5 (.int .u8 0) 1 rfl Try.underlying27 info5 rfl (by decide) (by omega) v170 y169 0 [.int .u8 0] (fun k_ => some k_ ≠ (.slice Ao24 t164.length co24 : Value).ownBlock) (fun _ => False) rfl rfl ?aP (fun _ hk => hk.elim) ?aF ?aO ?aB ?aS ?aL ?_; (case aP => exact rfl); (case aB => exact (hb0_ HB.out)); (case aF => exact (fun k_ hk => Kd.fresh' (Kd.R_lt (kR_ HO166.out)) k_ hk)); (case aO => exact (kR_ HO171.out)); (case aS => exact (below_size (hb0_ HB.out))); (case aL => have := LMc21.out; omega); intro v173 w26 ho hb hg hat; rw [← Ny172.out] at ho; have n0_ := Aside0.mk (Kd.V_afterv (ok := (fun k_ => some k_ ≠ (.slice Ao24 t164.length co24 : Value).ownBlock)) (by (with_reducible repeat (first | apply Kd.V_alloc | apply Kd.V_drewN | apply Kd.V_drew)); exact Kd.V_mono HO163.out (fun _ hk => ⟨hk.1.2, hk.2⟩)) hg hat); have n1_ := Aside0.mk (Kd.R_after (ok := (fun _ => True)) (kR_ HO166.out) hg hat); have n2_ := Aside0.mk (hb); have n3_ := Aside0.mk (ho); clear HO163 HO166 HB HO171; have HO163 := n0_; have HO166 := n1_; have HB := n2_; have HO174 := n3_; clear n0_ n1_ n2_ n3_ ho hb hg hat; obtain ⟨Ao27, co27, eo27⟩ := Kd.R_slice HO174.out; subst eo27) | (go_at_call 51; (with_reducible refine (mask_Fits.calls kj2 _ _ l0 _ _ y172 t175 _ ?side1 ?side2 ?side3 ?side4 A22.out).mono ?_); (case side1 => repeat (first | exact (Kd.C_below HR0.out HB.out) | (with_reducible refine Kd.C_alloc ?_ _) | (with_reducible refine Kd.C_drewN ?_ _) | (with_reducible refine Kd.C_drew ?_))); (case side2 => exact HC0.out); (case side3 => repeat (first | exact (Kd.R_reads' HO174.out).2.2 | (with_reducible refine Kd.C_alloc ?_ _) | (with_reducible refine Kd.C_drewN ?_ _) | (with_reducible refine Kd.C_drew ?_))); (case side4 => exact (Kd.R_reads' HO174.out).2.1); rintro e w28 ⟨rfl, hb⟩; have n0_ := Aside0.mk (Kd.V_below (kV_ HO163.out) hb); have n1_ := Aside0.mk (Kd.R_below (kR_ HO166.out) hb); have n2_ := Aside0.mk (Kd.R_below (kR_ HO174.out) hb); have n3_ := Aside0.mk (below_step (hb0_ HB.out) hb); clear HO163 HO166 HO174 HB; have HO163 := n0_; have HO166 := n1_; have HO174 := n2_; have HB := n3_; clear n0_ n1_ n2_ n3_; (try clear hb); (try clear hb2); (try clear hk); (try clear hi)))
                  go_meet
                  case rel => exact ⟨_, (t175), (by first | rfl | (simp; done) | (simp [*]; done)), H', ⟨by have := HJ2.out; first | omega | exact Nat.le_refl _⟩, ⟨by (with_reducible repeat (first | apply Kd.V_alloc | apply Kd.V_drewN | apply Kd.V_drew)); exact Kd.V_mono HO163.out (fun _ hk => hk.1)⟩, ⟨by (with_reducible repeat (first | apply Kd.R_alloc | apply Kd.R_drewN | apply Kd.R_drew)); exact Kd.R_mono HO166.out (fun _ hk => trivial)⟩, ⟨by repeat (first | (with_reducible first | exact HB.out | apply below_alloc | apply pw_below_drewN | apply below_drew1) | exact HB.out)⟩⟩
                · rw [if_neg c21] at H
                  exact absurd H (by simp)
              · rw [if_neg c20] at H
                exact absurd H (by simp)
          · rw [if_neg c14] at H
            have c14b0 : ((t161.length : Int) == (l0.length : Int)) = false := beq_eq_false_iff_ne.mpr c14
            have c14b1 : ((t161.length : Int) != (l0.length : Int)) = true := bne_iff_ne.mpr c14
            have c14b2 : (t161.length == l0.length) = false := by first | simpa using c14 | (simp at c14 ⊢; omega)
            (first | rw [c14b0] | (simp only [i64_w, i32_w]; rw [c14b0]) | skip)
            have H' := Aside0.mk H
            clear H
            go_wp2
            go_meet
            case rel => exact ⟨_, (true), (by first | rfl | (simp; done) | (simp [*]; done)), H', ⟨by have := HJ2.out; first | omega | exact Nat.le_refl _⟩, ⟨by (with_reducible repeat (first | apply Kd.V_alloc | apply Kd.V_drewN | apply Kd.V_drew)); exact Kd.V_mono HO163.out (fun _ hk => hk.2)⟩, ⟨by (with_reducible repeat (first | apply Kd.R_alloc | apply Kd.R_drewN | apply Kd.R_drew)); exact HO166.out⟩, ⟨by repeat (first | (with_reducible first | exact HB.out | apply below_alloc | apply pw_below_drewN | apply below_drew1) | exact HB.out)⟩⟩
        case rest =>
          clear HC10
          try clear c1
          try clear c2
          try clear p2
          try clear c4
          try clear c4b0
          try clear c4b1
          try clear c5
          try clear c10
          try clear c14
          try clear c14b0
          try clear c14b1
          try clear c14b2
          try clear c17
          try clear c17b0
          try clear c17b1
          try clear c17b2
          try clear c20
          try clear c21
          try clear p2
          obtain ⟨kq, x47_9, rfl, HA, HJ9, HO_5, HO_6, HB⟩ := hcut
          cases kq with
          | zero => exact absurd HA.out (by simp [libevolutionlaw15_MaskFits.j1])
          | succ kj9 =>
            have H := HA.out
            clear HA
            simp only [libevolutionlaw15_MaskFits.j1] at H
            by_cases c29 : x47_9 = true
            · subst c29
              have H1 : (some false) = some r := by rw [if_pos rfl] at H; exact H
              clear H
              have H := H1
              clear H1
              obtain rfl := Option.some.inj H
              go_wp2
              go_ret
              exact ⟨by first | rfl | (simp [errW_none, errW_some] <;> rfl) | (simp [*, errW_none, errW_some] <;> rfl), by repeat (first | (with_reducible first | exact HB.out | apply below_alloc | apply pw_below_drewN | apply below_drew1) | exact HB.out)⟩
            · replace c29 := Bool.eq_false_iff.mpr c29
              subst c29
              have H1 : ((mask_Count.f kj9 t164).bind fun t176 => ((mask_Bits.f kj9 t164 t176).bind fun bt177 => ((mask_Clear.f kj9 t161 bt177.1).bind fun t181 => (if bt177.2 = true then ((mask_Fits.f kj9 l0 t181).bind fun t184 => (if t184 = true then ((mask_Count.f kj9 t181).bind fun t185 => ((mask_Count.f kj9 t164).bind fun t186 => ((mask_Count.f kj9 t161).bind fun t187 => (if (wrap64 (t185 + t186)) = t187 then ((Extend.f ([] : List Int) (l0.length : Int)).bind fun t188 => ((mask_Count.f kj9 t188).bind fun t191 => (if t191 = (wrap64 (8 * (l0.length : Int))) then ((libevolutionlaw15_awake.f kj9).bind fun t192 => (some t192)) else (some false)))) else (some false))))) else (some false))) else (some false))))) = some r := by rw [if_neg (show ¬ (false = true) by decide)] at H; exact H
              clear H
              have H := H1
              clear H1
              replace H := Option.bind_eq_some_iff.mp H
              obtain ⟨t176, A300, H⟩ := H
              replace H : ((mask_Bits.f kj9 t164 t176).bind fun bt177 => ((mask_Clear.f kj9 t161 bt177.1).bind fun t181 => (if bt177.2 = true then ((mask_Fits.f kj9 l0 t181).bind fun t184 => (if t184 = true then ((mask_Count.f kj9 t181).bind fun t185 => ((mask_Count.f kj9 t164).bind fun t186 => ((mask_Count.f kj9 t161).bind fun t187 => (if (wrap64 (t185 + t186)) = t187 then ((Extend.f ([] : List Int) (l0.length : Int)).bind fun t188 => ((mask_Count.f kj9 t188).bind fun t191 => (if t191 = (wrap64 (8 * (l0.length : Int))) then ((libevolutionlaw15_awake.f kj9).bind fun t192 => (some t192)) else (some false)))) else (some false))))) else (some false))) else (some false)))) = some r := H
              have A30 := Aside0.mk A300
              clear A300
              replace H := Option.bind_eq_some_iff.mp H
              obtain ⟨⟨t177, t178⟩, A310, H⟩ := H
              replace H : ((mask_Clear.f kj9 t161 t177).bind fun t181 => (if t178 = true then ((mask_Fits.f kj9 l0 t181).bind fun t184 => (if t184 = true then ((mask_Count.f kj9 t181).bind fun t185 => ((mask_Count.f kj9 t164).bind fun t186 => ((mask_Count.f kj9 t161).bind fun t187 => (if (wrap64 (t185 + t186)) = t187 then ((Extend.f ([] : List Int) (l0.length : Int)).bind fun t188 => ((mask_Count.f kj9 t188).bind fun t191 => (if t191 = (wrap64 (8 * (l0.length : Int))) then ((libevolutionlaw15_awake.f kj9).bind fun t192 => (some t192)) else (some false)))) else (some false))))) else (some false))) else (some false))) = some r := H
              have A31 := Aside0.mk A310
              clear A310
              replace H := Option.bind_eq_some_iff.mp H
              obtain ⟨t181, A320, H⟩ := H
              replace H : (if t178 = true then ((mask_Fits.f kj9 l0 t181).bind fun t184 => (if t184 = true then ((mask_Count.f kj9 t181).bind fun t185 => ((mask_Count.f kj9 t164).bind fun t186 => ((mask_Count.f kj9 t161).bind fun t187 => (if (wrap64 (t185 + t186)) = t187 then ((Extend.f ([] : List Int) (l0.length : Int)).bind fun t188 => ((mask_Count.f kj9 t188).bind fun t191 => (if t191 = (wrap64 (8 * (l0.length : Int))) then ((libevolutionlaw15_awake.f kj9).bind fun t192 => (some t192)) else (some false)))) else (some false))))) else (some false))) else (some false)) = some r := H
              have A32 := Aside0.mk A320
              clear A320
              by_cases c33 : t178 = true
              · subst c33
                have H1 : ((mask_Fits.f kj9 l0 t181).bind fun t184 => (if t184 = true then ((mask_Count.f kj9 t181).bind fun t185 => ((mask_Count.f kj9 t164).bind fun t186 => ((mask_Count.f kj9 t161).bind fun t187 => (if (wrap64 (t185 + t186)) = t187 then ((Extend.f ([] : List Int) (l0.length : Int)).bind fun t188 => ((mask_Count.f kj9 t188).bind fun t191 => (if t191 = (wrap64 (8 * (l0.length : Int))) then ((libevolutionlaw15_awake.f kj9).bind fun t192 => (some t192)) else (some false)))) else (some false))))) else (some false))) = some r := by rw [if_pos rfl] at H; exact H
                clear H
                have H := H1
                clear H1
                replace H := Option.bind_eq_some_iff.mp H
                obtain ⟨t184, A340, H⟩ := H
                replace H : (if t184 = true then ((mask_Count.f kj9 t181).bind fun t185 => ((mask_Count.f kj9 t164).bind fun t186 => ((mask_Count.f kj9 t161).bind fun t187 => (if (wrap64 (t185 + t186)) = t187 then ((Extend.f ([] : List Int) (l0.length : Int)).bind fun t188 => ((mask_Count.f kj9 t188).bind fun t191 => (if t191 = (wrap64 (8 * (l0.length : Int))) then ((libevolutionlaw15_awake.f kj9).bind fun t192 => (some t192)) else (some false)))) else (some false))))) else (some false)) = some r := H
                have A34 := Aside0.mk A340
                clear A340
                by_cases c35 : t184 = true
                · subst c35
                  have H1 : ((mask_Count.f kj9 t181).bind fun t185 => ((mask_Count.f kj9 t164).bind fun t186 => ((mask_Count.f kj9 t161).bind fun t187 => (if (wrap64 (t185 + t186)) = t187 then ((Extend.f ([] : List Int) (l0.length : Int)).bind fun t188 => ((mask_Count.f kj9 t188).bind fun t191 => (if t191 = (wrap64 (8 * (l0.length : Int))) then ((libevolutionlaw15_awake.f kj9).bind fun t192 => (some t192)) else (some false)))) else (some false))))) = some r := by rw [if_pos rfl] at H; exact H
                  clear H
                  have H := H1
                  clear H1
                  replace H := Option.bind_eq_some_iff.mp H
                  obtain ⟨t185, A360, H⟩ := H
                  replace H : ((mask_Count.f kj9 t164).bind fun t186 => ((mask_Count.f kj9 t161).bind fun t187 => (if (wrap64 (t185 + t186)) = t187 then ((Extend.f ([] : List Int) (l0.length : Int)).bind fun t188 => ((mask_Count.f kj9 t188).bind fun t191 => (if t191 = (wrap64 (8 * (l0.length : Int))) then ((libevolutionlaw15_awake.f kj9).bind fun t192 => (some t192)) else (some false)))) else (some false)))) = some r := H
                  have A36 := Aside0.mk A360
                  clear A360
                  replace H := Option.bind_eq_some_iff.mp H
                  obtain ⟨t186, A370, H⟩ := H
                  replace H : ((mask_Count.f kj9 t161).bind fun t187 => (if (wrap64 (t185 + t186)) = t187 then ((Extend.f ([] : List Int) (l0.length : Int)).bind fun t188 => ((mask_Count.f kj9 t188).bind fun t191 => (if t191 = (wrap64 (8 * (l0.length : Int))) then ((libevolutionlaw15_awake.f kj9).bind fun t192 => (some t192)) else (some false)))) else (some false))) = some r := H
                  have A37 := Aside0.mk A370
                  clear A370
                  replace H := Option.bind_eq_some_iff.mp H
                  obtain ⟨t187, A380, H⟩ := H
                  replace H : (if (wrap64 (t185 + t186)) = t187 then ((Extend.f ([] : List Int) (l0.length : Int)).bind fun t188 => ((mask_Count.f kj9 t188).bind fun t191 => (if t191 = (wrap64 (8 * (l0.length : Int))) then ((libevolutionlaw15_awake.f kj9).bind fun t192 => (some t192)) else (some false)))) else (some false)) = some r := H
                  have A38 := Aside0.mk A380
                  clear A380
                  by_cases c39 : (wrap64 (t185 + t186)) = t187
                  · rw [if_pos c39] at H
                    have c39b0 : ((wrap64 (t185 + t186)) == t187) = true := beq_iff_eq.mpr c39
                    have c39b1 : ((wrap64 (t185 + t186)) != t187) = false := bne_eq_false_iff_eq.mpr c39
                    clear c39
                    replace H := Option.bind_eq_some_iff.mp H
                    obtain ⟨t188, A400, H⟩ := H
                    replace H : ((mask_Count.f kj9 t188).bind fun t191 => (if t191 = (wrap64 (8 * (l0.length : Int))) then ((libevolutionlaw15_awake.f kj9).bind fun t192 => (some t192)) else (some false))) = some r := H
                    have A40 := Aside0.mk A400
                    clear A400
                    replace H := Option.bind_eq_some_iff.mp H
                    obtain ⟨t191, A410, H⟩ := H
                    replace H : (if t191 = (wrap64 (8 * (l0.length : Int))) then ((libevolutionlaw15_awake.f kj9).bind fun t192 => (some t192)) else (some false)) = some r := H
                    have A41 := Aside0.mk A410
                    clear A410
                    by_cases c42 : t191 = (wrap64 (8 * (l0.length : Int)))
                    · rw [if_pos c42] at H
                      have c42b0 : (t191 == (wrap64 (8 * (l0.length : Int)))) = true := beq_iff_eq.mpr c42
                      have c42b1 : (t191 != (wrap64 (8 * (l0.length : Int)))) = false := bne_eq_false_iff_eq.mpr c42
                      clear c42
                      replace H := Option.bind_eq_some_iff.mp H
                      obtain ⟨t192, A430, H⟩ := H
                      replace H : (some t192) = some r := H
                      have A43 := Aside0.mk A430
                      clear A430
                      obtain rfl := Option.some.inj H
                      obtain ⟨Ao44, co44, eo44⟩ := Kd.R_slice HO_6.out
                      subst eo44
                      go_wp2_with (first | ((with_reducible refine gate_callee (f := 45) rfl ?_); refine goesL_ (some 51) rfl rfl Try.func45 (by kernel_rfl) rfl #[.slice Ao44 t164.length co44] rfl (by (try simp only [List.map_toArray, List.map_cons, List.map_nil]); first | done | rfl | (simp only [List.length_drop, List.length_take]; rfl)) ?_; (with_reducible refine (mask_Count.calls kj9 _ _ t164 t176 _ ?side1 ?side2 A30.out).mono ?_); (case side1 => repeat (first | exact (Kd.R_reads' HO_6.out).2.2 | (with_reducible refine Kd.C_alloc ?_ _) | (with_reducible refine Kd.C_drewN ?_ _) | (with_reducible refine Kd.C_drew ?_))); (case side2 => exact (Kd.R_reads' HO_6.out).2.1); rintro e w' ⟨rfl, ⟨nd, rfl⟩⟩; refine ⟨_, rfl, ?_⟩) | ((with_reducible refine gate_callee (f := 44) rfl ?_); refine goesL_ (some 52) rfl rfl Try.func44 (by kernel_rfl) rfl #[.slice Ao44 t164.length co44, .int .i64 t176] rfl (by (try simp only [List.map_toArray, List.map_cons, List.map_nil]); first | done | rfl | (simp only [List.length_drop, List.length_take]; rfl)) ?_; (with_reducible refine (mask_Bits.calls kj9 _ _ t164 t176 t177 true _ ?side1 ?side2 A31.out).mono ?_); (case side1 => repeat (first | exact (Kd.R_reads' HO_6.out).2.2 | (with_reducible refine Kd.C_alloc ?_ _) | (with_reducible refine Kd.C_drewN ?_ _) | (with_reducible refine Kd.C_drew ?_))); (case side2 => exact (Kd.R_reads' HO_6.out).2.1); rintro e w45 ⟨v179, rfl, ho0, hb⟩; refine ⟨_, rfl, ?_⟩; have n0_ := Aside0.mk (Kd.V_elder' (kV_ HO_5.out) (Kd.R_base ho0) hb); have n1_ := Aside0.mk (Kd.R_below (kR_ HO_6.out) hb); have n2_ := Aside0.mk (Kd.R_lower ho0 (below_size (hb0_ HB.out))); have n3_ := Aside0.mk (below_step (hb0_ HB.out) hb); clear HO_5 HO_6 HB; have HO_5 := n0_; have HO_6 := n1_; have HO180 := n2_; have HB := n3_; clear n0_ n1_ n2_ n3_; (try clear hb); (try clear hb2); (try clear hk); (try clear hi); (try clear ho0); obtain ⟨Ao46, co46, eo46⟩ := Kd.R_slice HO180.out; subst eo46) | ((with_reducible refine gate_callee (f := 49) rfl ?_); refine goesL_ (some 57) rfl rfl Try.func49 (by kernel_rfl) rfl #[.slice Ao12 t161.length co12, .slice Ao46 t177.length co46] rfl (by (try simp only [List.map_toArray, List.map_cons, List.map_nil]); first | done | rfl | (simp only [List.length_drop, List.length_take]; rfl)) ?_; (with_reducible refine (mask_Clear.calls kj9 _ _ t161 _ _ t177 t181 _ ?side1 ?side2 ?side3 ?side4 A32.out).mono ?_); (case side1 => repeat (first | exact (Kd.V_reads' HO_5.out).2.2 | (with_reducible refine Kd.C_alloc ?_ _) | (with_reducible refine Kd.C_drewN ?_ _) | (with_reducible refine Kd.C_drew ?_))); (case side2 => exact (Kd.V_reads' HO_5.out).2.1); (case side3 => repeat (first | exact (Kd.R_reads' HO180.out).2.2 | (with_reducible refine Kd.C_alloc ?_ _) | (with_reducible refine Kd.C_drewN ?_ _) | (with_reducible refine Kd.C_drew ?_))); (case side4 => exact (Kd.R_reads' HO180.out).2.1); rintro e w47 ⟨v182, rfl, ho0, hb⟩; refine ⟨_, rfl, ?_⟩; have n0_ := Aside0.mk (Kd.V_elder' (kV_ HO_5.out) (Kd.R_base ho0) hb); have n1_ := Aside0.mk (Kd.R_elder' (kR_ HO_6.out) (Kd.R_base ho0) hb); have n2_ := Aside0.mk (Kd.R_below (kR_ HO180.out) hb); have n3_ := Aside0.mk (Kd.R_lower (Kd.R_new' ho0 (Kd.R_lt (kR_ HO_6.out))) (below_size (hb0_ HB.out))); have n4_ := Aside0.mk (below_step (hb0_ HB.out) hb); clear HO_5 HO_6 HO180 HB; have HO_5 := n0_; have HO_6 := n1_; have HO180 := n2_; have HO183 := n3_; have HB := n4_; clear n0_ n1_ n2_ n3_ n4_; (try clear hb); (try clear hb2); (try clear hk); (try clear hi); (try clear ho0); obtain ⟨Ao48, co48, eo48⟩ := Kd.R_slice HO183.out; subst eo48) | (go_at_call 51; (with_reducible refine (mask_Fits.calls kj9 _ _ l0 _ _ t181 true _ ?side1 ?side2 ?side3 ?side4 A34.out).mono ?_); (case side1 => repeat (first | exact (Kd.C_below HR0.out HB.out) | (with_reducible refine Kd.C_alloc ?_ _) | (with_reducible refine Kd.C_drewN ?_ _) | (with_reducible refine Kd.C_drew ?_))); (case side2 => exact HC0.out); (case side3 => repeat (first | exact (Kd.R_reads' HO183.out).2.2 | (with_reducible refine Kd.C_alloc ?_ _) | (with_reducible refine Kd.C_drewN ?_ _) | (with_reducible refine Kd.C_drew ?_))); (case side4 => exact (Kd.R_reads' HO183.out).2.1); rintro e w49 ⟨rfl, hb⟩; have n0_ := Aside0.mk (Kd.V_below (kV_ HO_5.out) hb); have n1_ := Aside0.mk (Kd.R_below (kR_ HO_6.out) hb); have n2_ := Aside0.mk (Kd.R_below (kR_ HO180.out) hb); have n3_ := Aside0.mk (Kd.R_below (kR_ HO183.out) hb); have n4_ := Aside0.mk (below_step (hb0_ HB.out) hb); clear HO_5 HO_6 HO180 HO183 HB; have HO_5 := n0_; have HO_6 := n1_; have HO180 := n2_; have HO183 := n3_; have HB := n4_; clear n0_ n1_ n2_ n3_ n4_; (try clear hb); (try clear hb2); (try clear hk); (try clear hi)) | (go_at_call 45; (with_reducible refine (mask_Count.calls kj9 _ _ t181 t185 _ ?side1 ?side2 A36.out).mono ?_); (case side1 => repeat (first | exact (Kd.R_reads' HO183.out).2.2 | (with_reducible refine Kd.C_alloc ?_ _) | (with_reducible refine Kd.C_drewN ?_ _) | (with_reducible refine Kd.C_drew ?_))); (case side2 => exact (Kd.R_reads' HO183.out).2.1); rintro e w' ⟨rfl, ⟨nd, rfl⟩⟩) | (go_at_call 45; (with_reducible refine (mask_Count.calls kj9 _ _ t164 t186 _ ?side1 ?side2 A37.out).mono ?_); (case side1 => repeat (first | exact (Kd.R_reads' HO_6.out).2.2 | (with_reducible refine Kd.C_alloc ?_ _) | (with_reducible refine Kd.C_drewN ?_ _) | (with_reducible refine Kd.C_drew ?_))); (case side2 => exact (Kd.R_reads' HO_6.out).2.1); rintro e w' ⟨rfl, ⟨nd, rfl⟩⟩) | (go_at_call 45; (with_reducible refine (mask_Count.calls kj9 _ _ t161 t187 _ ?side1 ?side2 A38.out).mono ?_); (case side1 => repeat (first | exact (Kd.V_reads' HO_5.out).2.2 | (with_reducible refine Kd.C_alloc ?_ _) | (with_reducible refine Kd.C_drewN ?_ _) | (with_reducible refine Kd.C_drew ?_))); (case side2 => exact (Kd.V_reads' HO_5.out).2.1); rintro e w' ⟨rfl, ⟨nd, rfl⟩⟩) | (go_at_call 46; (refine (Extend.calls _ _ ([] : List Int) (l0.length : Int) t188 _ ?side1 ?side2 A40.out).mono ?_); (case side1 => exact Kd.C_nil _ _); (case side2 => exact Nat.le_refl _); rintro e w50 ⟨v189, rfl, ho0, hb⟩; have n0_ := Aside0.mk (Kd.V_below (kV_ HO_5.out) hb); have n1_ := Aside0.mk (Kd.R_below (kR_ HO_6.out) hb); have n2_ := Aside0.mk (Kd.R_below (kR_ HO180.out) hb); have n3_ := Aside0.mk (Kd.R_below (kR_ HO183.out) hb); have n4_ := Aside0.mk (Kd.V_lower (Kd.V_mono (ok' := fun k_ => some k_ ≠ (.slice Ao44 t164.length co44 : Value).ownBlock ∧ some k_ ≠ (.slice Ao46 t177.length co46 : Value).ownBlock ∧ some k_ ≠ (.slice Ao48 t181.length co48 : Value).ownBlock) ho0 (fun k_ hk_ => ⟨(Kd.fresh' (Kd.R_lt (kR_ HO_6.out)) k_ hk_), (Kd.fresh' (Kd.R_lt (kR_ HO180.out)) k_ hk_), (Kd.fresh' (Kd.R_lt (kR_ HO183.out)) k_ hk_)⟩)) (below_size (hb0_ HB.out))); have n5_ := Aside0.mk (below_step (hb0_ HB.out) hb); clear HO_5 HO_6 HO180 HO183 HB; have HO_5 := n0_; have HO_6 := n1_; have HO180 := n2_; have HO183 := n3_; have HO190 := n4_; have HB := n5_; clear n0_ n1_ n2_ n3_ n4_ n5_; (try clear hb); (try clear hb2); (try clear hk); (try clear hi); (try clear ho0); obtain ⟨Ao51, co51, eo51⟩ := Kd.V_slice HO190.out; subst eo51) | (go_at_call 45; (with_reducible refine (mask_Count.calls kj9 _ _ t188 t191 _ ?side1 ?side2 A41.out).mono ?_); (case side1 => repeat (first | exact (Kd.V_reads' HO190.out).2.2 | (with_reducible refine Kd.C_alloc ?_ _) | (with_reducible refine Kd.C_drewN ?_ _) | (with_reducible refine Kd.C_drew ?_))); (case side2 => exact (Kd.V_reads' HO190.out).2.1); rintro e w' ⟨rfl, ⟨nd, rfl⟩⟩) | (go_at_call 43; (with_reducible refine (libevolutionlaw15_awake.calls kj9  t192 _ A43.out).mono ?_); rintro e w52 ⟨rfl, hb⟩; have n0_ := Aside0.mk (Kd.V_below (kV_ HO_5.out) hb); have n1_ := Aside0.mk (Kd.R_below (kR_ HO_6.out) hb); have n2_ := Aside0.mk (Kd.R_below (kR_ HO180.out) hb); have n3_ := Aside0.mk (Kd.R_below (kR_ HO183.out) hb); have n4_ := Aside0.mk (Kd.V_below (kV_ HO190.out) hb); have n5_ := Aside0.mk (below_step (hb0_ HB.out) hb); clear HO_5 HO_6 HO180 HO183 HO190 HB; have HO_5 := n0_; have HO_6 := n1_; have HO180 := n2_; have HO183 := n3_; have HO190 := n4_; have HB := n5_; clear n0_ n1_ n2_ n3_ n4_ n5_; (try clear hb); (try clear hb2); (try clear hk); (try clear hi)))
                      go_ret
                      exact ⟨by first | rfl | (simp [errW_none, errW_some] <;> rfl) | (simp [*, errW_none, errW_some] <;> rfl), by repeat (first | (with_reducible first | exact HB.out | apply below_alloc | apply pw_below_drewN | apply below_drew1) | exact HB.out)⟩
                    · rw [if_neg c42] at H
                      have c42b0 : (t191 == (wrap64 (8 * (l0.length : Int)))) = false := beq_eq_false_iff_ne.mpr c42
                      have c42b1 : (t191 != (wrap64 (8 * (l0.length : Int)))) = true := bne_iff_ne.mpr c42
                      obtain rfl := Option.some.inj H
                      obtain ⟨Ao53, co53, eo53⟩ := Kd.R_slice HO_6.out
                      subst eo53
                      go_wp2_with (first | ((with_reducible refine gate_callee (f := 45) rfl ?_); refine goesL_ (some 51) rfl rfl Try.func45 (by kernel_rfl) rfl #[.slice Ao53 t164.length co53] rfl (by (try simp only [List.map_toArray, List.map_cons, List.map_nil]); first | done | rfl | (simp only [List.length_drop, List.length_take]; rfl)) ?_; (with_reducible refine (mask_Count.calls kj9 _ _ t164 t176 _ ?side1 ?side2 A30.out).mono ?_); (case side1 => repeat (first | exact (Kd.R_reads' HO_6.out).2.2 | (with_reducible refine Kd.C_alloc ?_ _) | (with_reducible refine Kd.C_drewN ?_ _) | (with_reducible refine Kd.C_drew ?_))); (case side2 => exact (Kd.R_reads' HO_6.out).2.1); rintro e w' ⟨rfl, ⟨nd, rfl⟩⟩; refine ⟨_, rfl, ?_⟩) | ((with_reducible refine gate_callee (f := 44) rfl ?_); refine goesL_ (some 52) rfl rfl Try.func44 (by kernel_rfl) rfl #[.slice Ao53 t164.length co53, .int .i64 t176] rfl (by (try simp only [List.map_toArray, List.map_cons, List.map_nil]); first | done | rfl | (simp only [List.length_drop, List.length_take]; rfl)) ?_; (with_reducible refine (mask_Bits.calls kj9 _ _ t164 t176 t177 true _ ?side1 ?side2 A31.out).mono ?_); (case side1 => repeat (first | exact (Kd.R_reads' HO_6.out).2.2 | (with_reducible refine Kd.C_alloc ?_ _) | (with_reducible refine Kd.C_drewN ?_ _) | (with_reducible refine Kd.C_drew ?_))); (case side2 => exact (Kd.R_reads' HO_6.out).2.1); rintro e w54 ⟨v179, rfl, ho0, hb⟩; refine ⟨_, rfl, ?_⟩; have n0_ := Aside0.mk (Kd.V_elder' (kV_ HO_5.out) (Kd.R_base ho0) hb); have n1_ := Aside0.mk (Kd.R_below (kR_ HO_6.out) hb); have n2_ := Aside0.mk (Kd.R_lower ho0 (below_size (hb0_ HB.out))); have n3_ := Aside0.mk (below_step (hb0_ HB.out) hb); clear HO_5 HO_6 HB; have HO_5 := n0_; have HO_6 := n1_; have HO180 := n2_; have HB := n3_; clear n0_ n1_ n2_ n3_; (try clear hb); (try clear hb2); (try clear hk); (try clear hi); (try clear ho0); obtain ⟨Ao55, co55, eo55⟩ := Kd.R_slice HO180.out; subst eo55) | ((with_reducible refine gate_callee (f := 49) rfl ?_); refine goesL_ (some 57) rfl rfl Try.func49 (by kernel_rfl) rfl #[.slice Ao12 t161.length co12, .slice Ao55 t177.length co55] rfl (by (try simp only [List.map_toArray, List.map_cons, List.map_nil]); first | done | rfl | (simp only [List.length_drop, List.length_take]; rfl)) ?_; (with_reducible refine (mask_Clear.calls kj9 _ _ t161 _ _ t177 t181 _ ?side1 ?side2 ?side3 ?side4 A32.out).mono ?_); (case side1 => repeat (first | exact (Kd.V_reads' HO_5.out).2.2 | (with_reducible refine Kd.C_alloc ?_ _) | (with_reducible refine Kd.C_drewN ?_ _) | (with_reducible refine Kd.C_drew ?_))); (case side2 => exact (Kd.V_reads' HO_5.out).2.1); (case side3 => repeat (first | exact (Kd.R_reads' HO180.out).2.2 | (with_reducible refine Kd.C_alloc ?_ _) | (with_reducible refine Kd.C_drewN ?_ _) | (with_reducible refine Kd.C_drew ?_))); (case side4 => exact (Kd.R_reads' HO180.out).2.1); rintro e w56 ⟨v182, rfl, ho0, hb⟩; refine ⟨_, rfl, ?_⟩; have n0_ := Aside0.mk (Kd.V_elder' (kV_ HO_5.out) (Kd.R_base ho0) hb); have n1_ := Aside0.mk (Kd.R_elder' (kR_ HO_6.out) (Kd.R_base ho0) hb); have n2_ := Aside0.mk (Kd.R_below (kR_ HO180.out) hb); have n3_ := Aside0.mk (Kd.R_lower (Kd.R_new' ho0 (Kd.R_lt (kR_ HO_6.out))) (below_size (hb0_ HB.out))); have n4_ := Aside0.mk (below_step (hb0_ HB.out) hb); clear HO_5 HO_6 HO180 HB; have HO_5 := n0_; have HO_6 := n1_; have HO180 := n2_; have HO183 := n3_; have HB := n4_; clear n0_ n1_ n2_ n3_ n4_; (try clear hb); (try clear hb2); (try clear hk); (try clear hi); (try clear ho0); obtain ⟨Ao57, co57, eo57⟩ := Kd.R_slice HO183.out; subst eo57) | (go_at_call 51; (with_reducible refine (mask_Fits.calls kj9 _ _ l0 _ _ t181 true _ ?side1 ?side2 ?side3 ?side4 A34.out).mono ?_); (case side1 => repeat (first | exact (Kd.C_below HR0.out HB.out) | (with_reducible refine Kd.C_alloc ?_ _) | (with_reducible refine Kd.C_drewN ?_ _) | (with_reducible refine Kd.C_drew ?_))); (case side2 => exact HC0.out); (case side3 => repeat (first | exact (Kd.R_reads' HO183.out).2.2 | (with_reducible refine Kd.C_alloc ?_ _) | (with_reducible refine Kd.C_drewN ?_ _) | (with_reducible refine Kd.C_drew ?_))); (case side4 => exact (Kd.R_reads' HO183.out).2.1); rintro e w58 ⟨rfl, hb⟩; have n0_ := Aside0.mk (Kd.V_below (kV_ HO_5.out) hb); have n1_ := Aside0.mk (Kd.R_below (kR_ HO_6.out) hb); have n2_ := Aside0.mk (Kd.R_below (kR_ HO180.out) hb); have n3_ := Aside0.mk (Kd.R_below (kR_ HO183.out) hb); have n4_ := Aside0.mk (below_step (hb0_ HB.out) hb); clear HO_5 HO_6 HO180 HO183 HB; have HO_5 := n0_; have HO_6 := n1_; have HO180 := n2_; have HO183 := n3_; have HB := n4_; clear n0_ n1_ n2_ n3_ n4_; (try clear hb); (try clear hb2); (try clear hk); (try clear hi)) | (go_at_call 45; (with_reducible refine (mask_Count.calls kj9 _ _ t181 t185 _ ?side1 ?side2 A36.out).mono ?_); (case side1 => repeat (first | exact (Kd.R_reads' HO183.out).2.2 | (with_reducible refine Kd.C_alloc ?_ _) | (with_reducible refine Kd.C_drewN ?_ _) | (with_reducible refine Kd.C_drew ?_))); (case side2 => exact (Kd.R_reads' HO183.out).2.1); rintro e w' ⟨rfl, ⟨nd, rfl⟩⟩) | (go_at_call 45; (with_reducible refine (mask_Count.calls kj9 _ _ t164 t186 _ ?side1 ?side2 A37.out).mono ?_); (case side1 => repeat (first | exact (Kd.R_reads' HO_6.out).2.2 | (with_reducible refine Kd.C_alloc ?_ _) | (with_reducible refine Kd.C_drewN ?_ _) | (with_reducible refine Kd.C_drew ?_))); (case side2 => exact (Kd.R_reads' HO_6.out).2.1); rintro e w' ⟨rfl, ⟨nd, rfl⟩⟩) | (go_at_call 45; (with_reducible refine (mask_Count.calls kj9 _ _ t161 t187 _ ?side1 ?side2 A38.out).mono ?_); (case side1 => repeat (first | exact (Kd.V_reads' HO_5.out).2.2 | (with_reducible refine Kd.C_alloc ?_ _) | (with_reducible refine Kd.C_drewN ?_ _) | (with_reducible refine Kd.C_drew ?_))); (case side2 => exact (Kd.V_reads' HO_5.out).2.1); rintro e w' ⟨rfl, ⟨nd, rfl⟩⟩) | (go_at_call 46; (refine (Extend.calls _ _ ([] : List Int) (l0.length : Int) t188 _ ?side1 ?side2 A40.out).mono ?_); (case side1 => exact Kd.C_nil _ _); (case side2 => exact Nat.le_refl _); rintro e w59 ⟨v189, rfl, ho0, hb⟩; have n0_ := Aside0.mk (Kd.V_below (kV_ HO_5.out) hb); have n1_ := Aside0.mk (Kd.R_below (kR_ HO_6.out) hb); have n2_ := Aside0.mk (Kd.R_below (kR_ HO180.out) hb); have n3_ := Aside0.mk (Kd.R_below (kR_ HO183.out) hb); have n4_ := Aside0.mk (Kd.V_lower (Kd.V_mono (ok' := fun k_ => some k_ ≠ (.slice Ao53 t164.length co53 : Value).ownBlock ∧ some k_ ≠ (.slice Ao55 t177.length co55 : Value).ownBlock ∧ some k_ ≠ (.slice Ao57 t181.length co57 : Value).ownBlock) ho0 (fun k_ hk_ => ⟨(Kd.fresh' (Kd.R_lt (kR_ HO_6.out)) k_ hk_), (Kd.fresh' (Kd.R_lt (kR_ HO180.out)) k_ hk_), (Kd.fresh' (Kd.R_lt (kR_ HO183.out)) k_ hk_)⟩)) (below_size (hb0_ HB.out))); have n5_ := Aside0.mk (below_step (hb0_ HB.out) hb); clear HO_5 HO_6 HO180 HO183 HB; have HO_5 := n0_; have HO_6 := n1_; have HO180 := n2_; have HO183 := n3_; have HO190 := n4_; have HB := n5_; clear n0_ n1_ n2_ n3_ n4_ n5_; (try clear hb); (try clear hb2); (try clear hk); (try clear hi); (try clear ho0); obtain ⟨Ao60, co60, eo60⟩ := Kd.V_slice HO190.out; subst eo60) | (go_at_call 45; (with_reducible refine (mask_Count.calls kj9 _ _ t188 t191 _ ?side1 ?side2 A41.out).mono ?_); (case side1 => repeat (first | exact (Kd.V_reads' HO190.out).2.2 | (with_reducible refine Kd.C_alloc ?_ _) | (with_reducible refine Kd.C_drewN ?_ _) | (with_reducible refine Kd.C_drew ?_))); (case side2 => exact (Kd.V_reads' HO190.out).2.1); rintro e w' ⟨rfl, ⟨nd, rfl⟩⟩))
                      go_ret
                      exact ⟨by first | rfl | (simp [errW_none, errW_some] <;> rfl) | (simp [*, errW_none, errW_some] <;> rfl), by repeat (first | (with_reducible first | exact HB.out | apply below_alloc | apply pw_below_drewN | apply below_drew1) | exact HB.out)⟩
                  · rw [if_neg c39] at H
                    have c39b0 : ((wrap64 (t185 + t186)) == t187) = false := beq_eq_false_iff_ne.mpr c39
                    have c39b1 : ((wrap64 (t185 + t186)) != t187) = true := bne_iff_ne.mpr c39
                    obtain rfl := Option.some.inj H
                    obtain ⟨Ao61, co61, eo61⟩ := Kd.R_slice HO_6.out
                    subst eo61
                    go_wp2_with (first | ((with_reducible refine gate_callee (f := 45) rfl ?_); refine goesL_ (some 51) rfl rfl Try.func45 (by kernel_rfl) rfl #[.slice Ao61 t164.length co61] rfl (by (try simp only [List.map_toArray, List.map_cons, List.map_nil]); first | done | rfl | (simp only [List.length_drop, List.length_take]; rfl)) ?_; (with_reducible refine (mask_Count.calls kj9 _ _ t164 t176 _ ?side1 ?side2 A30.out).mono ?_); (case side1 => repeat (first | exact (Kd.R_reads' HO_6.out).2.2 | (with_reducible refine Kd.C_alloc ?_ _) | (with_reducible refine Kd.C_drewN ?_ _) | (with_reducible refine Kd.C_drew ?_))); (case side2 => exact (Kd.R_reads' HO_6.out).2.1); rintro e w' ⟨rfl, ⟨nd, rfl⟩⟩; refine ⟨_, rfl, ?_⟩) | ((with_reducible refine gate_callee (f := 44) rfl ?_); refine goesL_ (some 52) rfl rfl Try.func44 (by kernel_rfl) rfl #[.slice Ao61 t164.length co61, .int .i64 t176] rfl (by (try simp only [List.map_toArray, List.map_cons, List.map_nil]); first | done | rfl | (simp only [List.length_drop, List.length_take]; rfl)) ?_; (with_reducible refine (mask_Bits.calls kj9 _ _ t164 t176 t177 true _ ?side1 ?side2 A31.out).mono ?_); (case side1 => repeat (first | exact (Kd.R_reads' HO_6.out).2.2 | (with_reducible refine Kd.C_alloc ?_ _) | (with_reducible refine Kd.C_drewN ?_ _) | (with_reducible refine Kd.C_drew ?_))); (case side2 => exact (Kd.R_reads' HO_6.out).2.1); rintro e w62 ⟨v179, rfl, ho0, hb⟩; refine ⟨_, rfl, ?_⟩; have n0_ := Aside0.mk (Kd.V_elder' (kV_ HO_5.out) (Kd.R_base ho0) hb); have n1_ := Aside0.mk (Kd.R_below (kR_ HO_6.out) hb); have n2_ := Aside0.mk (Kd.R_lower ho0 (below_size (hb0_ HB.out))); have n3_ := Aside0.mk (below_step (hb0_ HB.out) hb); clear HO_5 HO_6 HB; have HO_5 := n0_; have HO_6 := n1_; have HO180 := n2_; have HB := n3_; clear n0_ n1_ n2_ n3_; (try clear hb); (try clear hb2); (try clear hk); (try clear hi); (try clear ho0); obtain ⟨Ao63, co63, eo63⟩ := Kd.R_slice HO180.out; subst eo63) | ((with_reducible refine gate_callee (f := 49) rfl ?_); refine goesL_ (some 57) rfl rfl Try.func49 (by kernel_rfl) rfl #[.slice Ao12 t161.length co12, .slice Ao63 t177.length co63] rfl (by (try simp only [List.map_toArray, List.map_cons, List.map_nil]); first | done | rfl | (simp only [List.length_drop, List.length_take]; rfl)) ?_; (with_reducible refine (mask_Clear.calls kj9 _ _ t161 _ _ t177 t181 _ ?side1 ?side2 ?side3 ?side4 A32.out).mono ?_); (case side1 => repeat (first | exact (Kd.V_reads' HO_5.out).2.2 | (with_reducible refine Kd.C_alloc ?_ _) | (with_reducible refine Kd.C_drewN ?_ _) | (with_reducible refine Kd.C_drew ?_))); (case side2 => exact (Kd.V_reads' HO_5.out).2.1); (case side3 => repeat (first | exact (Kd.R_reads' HO180.out).2.2 | (with_reducible refine Kd.C_alloc ?_ _) | (with_reducible refine Kd.C_drewN ?_ _) | (with_reducible refine Kd.C_drew ?_))); (case side4 => exact (Kd.R_reads' HO180.out).2.1); rintro e w64 ⟨v182, rfl, ho0, hb⟩; refine ⟨_, rfl, ?_⟩; have n0_ := Aside0.mk (Kd.V_elder' (kV_ HO_5.out) (Kd.R_base ho0) hb); have n1_ := Aside0.mk (Kd.R_elder' (kR_ HO_6.out) (Kd.R_base ho0) hb); have n2_ := Aside0.mk (Kd.R_below (kR_ HO180.out) hb); have n3_ := Aside0.mk (Kd.R_lower (Kd.R_new' ho0 (Kd.R_lt (kR_ HO_6.out))) (below_size (hb0_ HB.out))); have n4_ := Aside0.mk (below_step (hb0_ HB.out) hb); clear HO_5 HO_6 HO180 HB; have HO_5 := n0_; have HO_6 := n1_; have HO180 := n2_; have HO183 := n3_; have HB := n4_; clear n0_ n1_ n2_ n3_ n4_; (try clear hb); (try clear hb2); (try clear hk); (try clear hi); (try clear ho0); obtain ⟨Ao65, co65, eo65⟩ := Kd.R_slice HO183.out; subst eo65) | (go_at_call 51; (with_reducible refine (mask_Fits.calls kj9 _ _ l0 _ _ t181 true _ ?side1 ?side2 ?side3 ?side4 A34.out).mono ?_); (case side1 => repeat (first | exact (Kd.C_below HR0.out HB.out) | (with_reducible refine Kd.C_alloc ?_ _) | (with_reducible refine Kd.C_drewN ?_ _) | (with_reducible refine Kd.C_drew ?_))); (case side2 => exact HC0.out); (case side3 => repeat (first | exact (Kd.R_reads' HO183.out).2.2 | (with_reducible refine Kd.C_alloc ?_ _) | (with_reducible refine Kd.C_drewN ?_ _) | (with_reducible refine Kd.C_drew ?_))); (case side4 => exact (Kd.R_reads' HO183.out).2.1); rintro e w66 ⟨rfl, hb⟩; have n0_ := Aside0.mk (Kd.V_below (kV_ HO_5.out) hb); have n1_ := Aside0.mk (Kd.R_below (kR_ HO_6.out) hb); have n2_ := Aside0.mk (Kd.R_below (kR_ HO180.out) hb); have n3_ := Aside0.mk (Kd.R_below (kR_ HO183.out) hb); have n4_ := Aside0.mk (below_step (hb0_ HB.out) hb); clear HO_5 HO_6 HO180 HO183 HB; have HO_5 := n0_; have HO_6 := n1_; have HO180 := n2_; have HO183 := n3_; have HB := n4_; clear n0_ n1_ n2_ n3_ n4_; (try clear hb); (try clear hb2); (try clear hk); (try clear hi)) | (go_at_call 45; (with_reducible refine (mask_Count.calls kj9 _ _ t181 t185 _ ?side1 ?side2 A36.out).mono ?_); (case side1 => repeat (first | exact (Kd.R_reads' HO183.out).2.2 | (with_reducible refine Kd.C_alloc ?_ _) | (with_reducible refine Kd.C_drewN ?_ _) | (with_reducible refine Kd.C_drew ?_))); (case side2 => exact (Kd.R_reads' HO183.out).2.1); rintro e w' ⟨rfl, ⟨nd, rfl⟩⟩) | (go_at_call 45; (with_reducible refine (mask_Count.calls kj9 _ _ t164 t186 _ ?side1 ?side2 A37.out).mono ?_); (case side1 => repeat (first | exact (Kd.R_reads' HO_6.out).2.2 | (with_reducible refine Kd.C_alloc ?_ _) | (with_reducible refine Kd.C_drewN ?_ _) | (with_reducible refine Kd.C_drew ?_))); (case side2 => exact (Kd.R_reads' HO_6.out).2.1); rintro e w' ⟨rfl, ⟨nd, rfl⟩⟩) | (go_at_call 45; (with_reducible refine (mask_Count.calls kj9 _ _ t161 t187 _ ?side1 ?side2 A38.out).mono ?_); (case side1 => repeat (first | exact (Kd.V_reads' HO_5.out).2.2 | (with_reducible refine Kd.C_alloc ?_ _) | (with_reducible refine Kd.C_drewN ?_ _) | (with_reducible refine Kd.C_drew ?_))); (case side2 => exact (Kd.V_reads' HO_5.out).2.1); rintro e w' ⟨rfl, ⟨nd, rfl⟩⟩))
                    go_ret
                    exact ⟨by first | rfl | (simp [errW_none, errW_some] <;> rfl) | (simp [*, errW_none, errW_some] <;> rfl), by repeat (first | (with_reducible first | exact HB.out | apply below_alloc | apply pw_below_drewN | apply below_drew1) | exact HB.out)⟩
                · replace c35 := Bool.eq_false_iff.mpr c35
                  subst c35
                  have H1 : (some false) = some r := by rw [if_neg (show ¬ (false = true) by decide)] at H; exact H
                  clear H
                  have H := H1
                  clear H1
                  obtain rfl := Option.some.inj H
                  obtain ⟨Ao67, co67, eo67⟩ := Kd.R_slice HO_6.out
                  subst eo67
                  go_wp2_with (first | ((with_reducible refine gate_callee (f := 45) rfl ?_); refine goesL_ (some 51) rfl rfl Try.func45 (by kernel_rfl) rfl #[.slice Ao67 t164.length co67] rfl (by (try simp only [List.map_toArray, List.map_cons, List.map_nil]); first | done | rfl | (simp only [List.length_drop, List.length_take]; rfl)) ?_; (with_reducible refine (mask_Count.calls kj9 _ _ t164 t176 _ ?side1 ?side2 A30.out).mono ?_); (case side1 => repeat (first | exact (Kd.R_reads' HO_6.out).2.2 | (with_reducible refine Kd.C_alloc ?_ _) | (with_reducible refine Kd.C_drewN ?_ _) | (with_reducible refine Kd.C_drew ?_))); (case side2 => exact (Kd.R_reads' HO_6.out).2.1); rintro e w' ⟨rfl, ⟨nd, rfl⟩⟩; refine ⟨_, rfl, ?_⟩) | ((with_reducible refine gate_callee (f := 44) rfl ?_); refine goesL_ (some 52) rfl rfl Try.func44 (by kernel_rfl) rfl #[.slice Ao67 t164.length co67, .int .i64 t176] rfl (by (try simp only [List.map_toArray, List.map_cons, List.map_nil]); first | done | rfl | (simp only [List.length_drop, List.length_take]; rfl)) ?_; (with_reducible refine (mask_Bits.calls kj9 _ _ t164 t176 t177 true _ ?side1 ?side2 A31.out).mono ?_); (case side1 => repeat (first | exact (Kd.R_reads' HO_6.out).2.2 | (with_reducible refine Kd.C_alloc ?_ _) | (with_reducible refine Kd.C_drewN ?_ _) | (with_reducible refine Kd.C_drew ?_))); (case side2 => exact (Kd.R_reads' HO_6.out).2.1); rintro e w68 ⟨v179, rfl, ho0, hb⟩; refine ⟨_, rfl, ?_⟩; have n0_ := Aside0.mk (Kd.V_elder' (kV_ HO_5.out) (Kd.R_base ho0) hb); have n1_ := Aside0.mk (Kd.R_below (kR_ HO_6.out) hb); have n2_ := Aside0.mk (Kd.R_lower ho0 (below_size (hb0_ HB.out))); have n3_ := Aside0.mk (below_step (hb0_ HB.out) hb); clear HO_5 HO_6 HB; have HO_5 := n0_; have HO_6 := n1_; have HO180 := n2_; have HB := n3_; clear n0_ n1_ n2_ n3_; (try clear hb); (try clear hb2); (try clear hk); (try clear hi); (try clear ho0); obtain ⟨Ao69, co69, eo69⟩ := Kd.R_slice HO180.out; subst eo69) | ((with_reducible refine gate_callee (f := 49) rfl ?_); refine goesL_ (some 57) rfl rfl Try.func49 (by kernel_rfl) rfl #[.slice Ao12 t161.length co12, .slice Ao69 t177.length co69] rfl (by (try simp only [List.map_toArray, List.map_cons, List.map_nil]); first | done | rfl | (simp only [List.length_drop, List.length_take]; rfl)) ?_; (with_reducible refine (mask_Clear.calls kj9 _ _ t161 _ _ t177 t181 _ ?side1 ?side2 ?side3 ?side4 A32.out).mono ?_); (case side1 => repeat (first | exact (Kd.V_reads' HO_5.out).2.2 | (with_reducible refine Kd.C_alloc ?_ _) | (with_reducible refine Kd.C_drewN ?_ _) | (with_reducible refine Kd.C_drew ?_))); (case side2 => exact (Kd.V_reads' HO_5.out).2.1); (case side3 => repeat (first | exact (Kd.R_reads' HO180.out).2.2 | (with_reducible refine Kd.C_alloc ?_ _) | (with_reducible refine Kd.C_drewN ?_ _) | (with_reducible refine Kd.C_drew ?_))); (case side4 => exact (Kd.R_reads' HO180.out).2.1); rintro e w70 ⟨v182, rfl, ho0, hb⟩; refine ⟨_, rfl, ?_⟩; have n0_ := Aside0.mk (Kd.V_elder' (kV_ HO_5.out) (Kd.R_base ho0) hb); have n1_ := Aside0.mk (Kd.R_elder' (kR_ HO_6.out) (Kd.R_base ho0) hb); have n2_ := Aside0.mk (Kd.R_below (kR_ HO180.out) hb); have n3_ := Aside0.mk (Kd.R_lower (Kd.R_new' ho0 (Kd.R_lt (kR_ HO_6.out))) (below_size (hb0_ HB.out))); have n4_ := Aside0.mk (below_step (hb0_ HB.out) hb); clear HO_5 HO_6 HO180 HB; have HO_5 := n0_; have HO_6 := n1_; have HO180 := n2_; have HO183 := n3_; have HB := n4_; clear n0_ n1_ n2_ n3_ n4_; (try clear hb); (try clear hb2); (try clear hk); (try clear hi); (try clear ho0); obtain ⟨Ao71, co71, eo71⟩ := Kd.R_slice HO183.out; subst eo71) | (go_at_call 51; (with_reducible refine (mask_Fits.calls kj9 _ _ l0 _ _ t181 false _ ?side1 ?side2 ?side3 ?side4 A34.out).mono ?_); (case side1 => repeat (first | exact (Kd.C_below HR0.out HB.out) | (with_reducible refine Kd.C_alloc ?_ _) | (with_reducible refine Kd.C_drewN ?_ _) | (with_reducible refine Kd.C_drew ?_))); (case side2 => exact HC0.out); (case side3 => repeat (first | exact (Kd.R_reads' HO183.out).2.2 | (with_reducible refine Kd.C_alloc ?_ _) | (with_reducible refine Kd.C_drewN ?_ _) | (with_reducible refine Kd.C_drew ?_))); (case side4 => exact (Kd.R_reads' HO183.out).2.1); rintro e w72 ⟨rfl, hb⟩; have n0_ := Aside0.mk (Kd.V_below (kV_ HO_5.out) hb); have n1_ := Aside0.mk (Kd.R_below (kR_ HO_6.out) hb); have n2_ := Aside0.mk (Kd.R_below (kR_ HO180.out) hb); have n3_ := Aside0.mk (Kd.R_below (kR_ HO183.out) hb); have n4_ := Aside0.mk (below_step (hb0_ HB.out) hb); clear HO_5 HO_6 HO180 HO183 HB; have HO_5 := n0_; have HO_6 := n1_; have HO180 := n2_; have HO183 := n3_; have HB := n4_; clear n0_ n1_ n2_ n3_ n4_; (try clear hb); (try clear hb2); (try clear hk); (try clear hi)))
                  go_ret
                  exact ⟨by first | rfl | (simp [errW_none, errW_some] <;> rfl) | (simp [*, errW_none, errW_some] <;> rfl), by repeat (first | (with_reducible first | exact HB.out | apply below_alloc | apply pw_below_drewN | apply below_drew1) | exact HB.out)⟩
              · replace c33 := Bool.eq_false_iff.mpr c33
                subst c33
                have H1 : (some false) = some r := by rw [if_neg (show ¬ (false = true) by decide)] at H; exact H
                clear H
                have H := H1
                clear H1
                obtain rfl := Option.some.inj H
                obtain ⟨Ao73, co73, eo73⟩ := Kd.R_slice HO_6.out
                subst eo73
                go_wp2_with (first | ((with_reducible refine gate_callee (f := 45) rfl ?_); refine goesL_ (some 51) rfl rfl Try.func45 (by kernel_rfl) rfl #[.slice Ao73 t164.length co73] rfl (by (try simp only [List.map_toArray, List.map_cons, List.map_nil]); first | done | rfl | (simp only [List.length_drop, List.length_take]; rfl)) ?_; (with_reducible refine (mask_Count.calls kj9 _ _ t164 t176 _ ?side1 ?side2 A30.out).mono ?_); (case side1 => repeat (first | exact (Kd.R_reads' HO_6.out).2.2 | (with_reducible refine Kd.C_alloc ?_ _) | (with_reducible refine Kd.C_drewN ?_ _) | (with_reducible refine Kd.C_drew ?_))); (case side2 => exact (Kd.R_reads' HO_6.out).2.1); rintro e w' ⟨rfl, ⟨nd, rfl⟩⟩; refine ⟨_, rfl, ?_⟩) | ((with_reducible refine gate_callee (f := 44) rfl ?_); refine goesL_ (some 52) rfl rfl Try.func44 (by kernel_rfl) rfl #[.slice Ao73 t164.length co73, .int .i64 t176] rfl (by (try simp only [List.map_toArray, List.map_cons, List.map_nil]); first | done | rfl | (simp only [List.length_drop, List.length_take]; rfl)) ?_; (with_reducible refine (mask_Bits.calls kj9 _ _ t164 t176 t177 false _ ?side1 ?side2 A31.out).mono ?_); (case side1 => repeat (first | exact (Kd.R_reads' HO_6.out).2.2 | (with_reducible refine Kd.C_alloc ?_ _) | (with_reducible refine Kd.C_drewN ?_ _) | (with_reducible refine Kd.C_drew ?_))); (case side2 => exact (Kd.R_reads' HO_6.out).2.1); rintro e w74 ⟨v179, rfl, ho0, hb⟩; refine ⟨_, rfl, ?_⟩; have n0_ := Aside0.mk (Kd.V_elder' (kV_ HO_5.out) (Kd.R_base ho0) hb); have n1_ := Aside0.mk (Kd.R_below (kR_ HO_6.out) hb); have n2_ := Aside0.mk (Kd.R_lower ho0 (below_size (hb0_ HB.out))); have n3_ := Aside0.mk (below_step (hb0_ HB.out) hb); clear HO_5 HO_6 HB; have HO_5 := n0_; have HO_6 := n1_; have HO180 := n2_; have HB := n3_; clear n0_ n1_ n2_ n3_; (try clear hb); (try clear hb2); (try clear hk); (try clear hi); (try clear ho0); obtain ⟨Ao75, co75, eo75⟩ := Kd.R_slice HO180.out; subst eo75) | ((with_reducible refine gate_callee (f := 49) rfl ?_); refine goesL_ (some 57) rfl rfl Try.func49 (by kernel_rfl) rfl #[.slice Ao12 t161.length co12, .slice Ao75 t177.length co75] rfl (by (try simp only [List.map_toArray, List.map_cons, List.map_nil]); first | done | rfl | (simp only [List.length_drop, List.length_take]; rfl)) ?_; (with_reducible refine (mask_Clear.calls kj9 _ _ t161 _ _ t177 t181 _ ?side1 ?side2 ?side3 ?side4 A32.out).mono ?_); (case side1 => repeat (first | exact (Kd.V_reads' HO_5.out).2.2 | (with_reducible refine Kd.C_alloc ?_ _) | (with_reducible refine Kd.C_drewN ?_ _) | (with_reducible refine Kd.C_drew ?_))); (case side2 => exact (Kd.V_reads' HO_5.out).2.1); (case side3 => repeat (first | exact (Kd.R_reads' HO180.out).2.2 | (with_reducible refine Kd.C_alloc ?_ _) | (with_reducible refine Kd.C_drewN ?_ _) | (with_reducible refine Kd.C_drew ?_))); (case side4 => exact (Kd.R_reads' HO180.out).2.1); rintro e w76 ⟨v182, rfl, ho0, hb⟩; refine ⟨_, rfl, ?_⟩; have n0_ := Aside0.mk (Kd.V_elder' (kV_ HO_5.out) (Kd.R_base ho0) hb); have n1_ := Aside0.mk (Kd.R_elder' (kR_ HO_6.out) (Kd.R_base ho0) hb); have n2_ := Aside0.mk (Kd.R_below (kR_ HO180.out) hb); have n3_ := Aside0.mk (Kd.R_lower (Kd.R_new' ho0 (Kd.R_lt (kR_ HO_6.out))) (below_size (hb0_ HB.out))); have n4_ := Aside0.mk (below_step (hb0_ HB.out) hb); clear HO_5 HO_6 HO180 HB; have HO_5 := n0_; have HO_6 := n1_; have HO180 := n2_; have HO183 := n3_; have HB := n4_; clear n0_ n1_ n2_ n3_ n4_; (try clear hb); (try clear hb2); (try clear hk); (try clear hi); (try clear ho0)))
                go_ret
                exact ⟨by first | rfl | (simp [errW_none, errW_some] <;> rfl) | (simp [*, errW_none, errW_some] <;> rfl), by repeat (first | (with_reducible first | exact HB.out | apply below_alloc | apply pw_below_drewN | apply below_drew1) | exact HB.out)⟩

/-- THE ONE PURE STATEMENT of libevolutionlaw15_MaskFits: yours. -/
def libevolutionlaw15_MaskFits.Pure : Prop := ∀ (l0 : List Int) (l1 : List Int), l0.length ≤ maxLen → l0.length * 1 ≤ 140737488351232 → (∀ x ∈ l0, (Lit.int .u8 x).wf = true) → l1.length ≤ maxLen → l1.length * 1 ≤ 140737488351232 → (∀ x ∈ l1, (Lit.int .u8 x).wf = true) → ∃ k, libevolutionlaw15_MaskFits.f k l0 l1 = some true
theorem libevolutionlaw15_MaskFits.walk (P : libevolutionlaw15_MaskFits.Pure) (a0 : Option Addr) (len0 cap0 : Nat) (z0 : List Int) (a1 : Option Addr) (len1 cap1 : Nat) (z1 : List Int) (w : World) (w0 : (a0 = none ∧ len0 = 0 ∧ cap0 = 0 ∧ z0 = []) ∨ ∃ x, a0 = some x ∧ len0 ≤ cap0 ∧ cap0 ≤ maxLen ∧ z0.length = cap0 ∧ (∀ i, i < z0.length → w.cell? (x.add i) = some (.int .u8 (z0.getD i 0))) ∧ ∀ n ∈ z0, (Lit.int .u8 n).wf = true) (y0 : len0 * 1 ≤ 140737488351232) (w1 : (a1 = none ∧ len1 = 0 ∧ cap1 = 0 ∧ z1 = []) ∨ ∃ x, a1 = some x ∧ len1 ≤ cap1 ∧ cap1 ≤ maxLen ∧ z1.length = cap1 ∧ (∀ i, i < z1.length → w.cell? (x.add i) = some (.int .u8 (z1.getD i 0))) ∧ ∀ n ∈ z1, (Lit.int .u8 n).wf = true) (y1 : len1 * 1 ≤ 140737488351232) :
    Calls Try.prog 10 #[.slice a0 len0 cap0, .slice a1 len1 cap1] w fun e w' => e = .returned (.bool true) ∧ Below w.heap.size w w' := by
  obtain ⟨l0, rfl, hr0, hm0, hw0, hc0⟩ := ReadsInt.ofRowC w0
  obtain ⟨l1, rfl, hr1, hm1, hw1, hc1⟩ := ReadsInt.ofRowC w1
  obtain ⟨k, h⟩ := P l0 l1 hm0 y0 hw0 hm1 y1 hw1
  refine (libevolutionlaw15_MaskFits.calls k _ _ l0 _ _ l1 true w (Kd.C_of_reads (d := (0 : Int)) (h1 := fun _ => rfl) hr0) hc0 (Kd.C_of_reads (d := (0 : Int)) (h1 := fun _ => rfl) hr1) hc1 h).mono ?_
  rintro e w' ⟨rfl, hd⟩
  exact ⟨rfl, hd⟩

end Go.Proofs.Ytpcephbhnbfcmaa.D
