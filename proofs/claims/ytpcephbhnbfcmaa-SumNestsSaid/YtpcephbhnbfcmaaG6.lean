-- Written by this session's program fork.py: a Lean function for each Go function and its walk. Not trusted: Lean checks it.
import Derived.Test.YtpcephbhnbfcmaaG0
import Derived.Test.YtpcephbhnbfcmaaG3
import Derived.Test.YtpcephbhnbfcmaaG5
namespace Go.Proofs.Ytpcephbhnbfcmaa.G
open Go.RowKit Go.Proofs.YtpcephbhnbfcmaaW.PrintWords Go.Proofs.YtpcephbhnbfcmaaW.PrintLast Go.Proofs.YtpcephbhnbfcmaaW.PrintMore
attribute [local go_sem] max2_int min2_int max_two min_two max_three min_three max_four min_four   -- for this text's walks alone
set_option linter.unusedVariables false
set_option linter.unusedSimpArgs false

open List (setIfInBounds_toArray set_cons_zero set_cons_succ)
/-! ### mask_And: function 50 -/
def mask_And.l0 : Nat → List Int → List Int → Int → Int → Option (List Int)
 | 0, _, _, _, _ => none
 | k + 1, x1, x5, x16, x17 => if x17 < x16 then (if 0 ≤ x17 then (if x17 < (x5.length : Int) then (if x17 < (x1.length : Int) then (mask_And.l0 k x1 (x5.set (x17 : Int).toNat (Go.bits .and .u8 (rd x5 x17) (rd x1 x17))) x16 (wrap64 (x17 + 1))) else (none)) else (none)) else (none)) else (some x5)
def mask_And.f (k : Nat) (l0 : List Int) (l1 : List Int) : Option (List Int) := if 0 ≤ (mn (l0.length : Int) (l1.length : Int)) then (if (mn (l0.length : Int) (l1.length : Int)) ≤ (l0.length : Int) then ((CloneB.f (l0.take ((mn (l0.length : Int) (l1.length : Int)) : Int).toNat)).bind fun t148 => (mask_And.l0 k l1 t148 (t148.length : Int) 0)) else (none)) else (none)
theorem mask_And.mono_l : ∀ k, (∀ y0 y1 y2 y3, LeO (mask_And.l0 k y0 y1 y2 y3) (mask_And.l0 (k + 1) y0 y1 y2 y3))
 | 0 => fun _ _ _ _ r h => by simp [mask_And.l0] at h
 | k + 1 => by
  have ih0 := mask_And.mono_l k
  ·
   intro y0 y1 y2 y3
   unfold mask_And.l0
   repeat' first
   | (with_reducible exact ih0 _ _ _ _)
   | (with_reducible exact LeO.refl _)
   | (with_reducible exact LeO.none _)
   | (with_reducible refine LeO.ite ?_ ?_)
   | (with_reducible refine LeO.bind ?_ (fun _ => ?_))
   | exact ih0 _ _ _ _
   | exact LeO.none _
   | refine LeO.ite ?_ ?_
   | refine LeO.bind ?_ (fun _ => ?_)
theorem mask_And.mono : ∀ a0 a1 k, LeO (mask_And.f k a0 a1) (mask_And.f (k + 1) a0 a1) := by
 intro a0 a1 k
 have ih0 := mask_And.mono_l k
 unfold mask_And.f
 repeat' first
   | (with_reducible exact ih0 _ _ _ _)
   | (with_reducible exact LeO.refl _)
   | (with_reducible exact LeO.none _)
   | (with_reducible refine LeO.ite ?_ ?_)
   | (with_reducible refine LeO.bind ?_ (fun _ => ?_))
   | exact ih0 _ _ _ _
   | exact LeO.none _
   | refine LeO.ite ?_ ?_
   | refine LeO.bind ?_ (fun _ => ?_)
def mask_And.T5 : Bool × List (List Nat × List Nat) := (true, [([], []), ([], []), ([0, 1], [0, 1]), ([2], [2]), ([], []), ([], []), ([4, 5], [4, 5]), ([6], [6]), ([3, 7], [3, 7]), ([0, 1, 0, 1, 2, 3, 4, 5, 6, 7, 8], [0, 1]), ([9, 8, 0, 1, 2, 3, 4, 5, 6, 7, 8], [8, 9])])
def mask_And.B5 : List Nat := [0, 0, 3, 7, 0, 0, 48, 112, 255, 511, 1023]
theorem mask_And.tab5 : rtab .any (opsOf Try.f50 5) = mask_And.T5 := by kernel_rfl
theorem mask_And.bits5 : waitsOk mask_And.T5.2 mask_And.B5 = true := by kernel_rfl
set_option maxHeartbeats 8000000 in
set_option maxRecDepth 100000 in
theorem mask_And.calls (k : Nat) (A0 : Option Addr) (c0 : Nat) (l0 : List Int) (A1 : Option Addr) (c1 : Nat) (l1 : List Int) (r : List Int) (w : World) (hr0 : Kd.C (Kd.int .u8) w A0 l0.length l0) (hc0 : l0.length ≤ c0) (hr1 : Kd.C (Kd.int .u8) w A1 l1.length l1) (hc1 : l1.length ≤ c1) (h : mask_And.f k l0 l1 = some r) :
  Calls Try.prog 50 #[.slice A0 l0.length c0, .slice A1 l1.length c1] w fun e w' => ∃ v0_ : Value, e = .returned (v0_) ∧ Kd.R (Kd.int .u8) 5 w' w.heap.size (fun _ => True) v0_ r ∧ Below w.heap.size w w' := by
 have HR0 := Aside0.mk hr0
 have HC0 := Aside0.mk hc0
 clear hr0 hc0
 have HR1 := Aside0.mk hr1
 have HC1 := Aside0.mk hc1
 clear hr1 hc1
 have HB := Aside0.mk (Below.refl w.heap.size w)
 have H : (if 0 ≤ (mn (l0.length : Int) (l1.length : Int)) then (if (mn (l0.length : Int) (l1.length : Int)) ≤ (l0.length : Int) then ((CloneB.f (l0.take ((mn (l0.length : Int) (l1.length : Int)) : Int).toNat)).bind fun t148 => (mask_And.l0 k l1 t148 (t148.length : Int) 0)) else (none)) else (none)) = some r := h
 clear h
 obtain ⟨ji3, hji3⟩ : ∃ j_ : Int, (mn (l0.length : Int) (l1.length : Int)) = j_ := ⟨_, rfl⟩
 replace H : (if 0 ≤ (ji3) then (if (ji3) ≤ (l0.length : Int) then ((CloneB.f (l0.take ((ji3) : Int).toNat)).bind fun t148 => (mask_And.l0 k l1 t148 (t148.length : Int) 0)) else (none)) else (none)) = some r := by first | (rw [hji3] at H; exact H) | (simp only [hji3] at H ⊢; exact H)
 (try (have hji3l : 0 ≤ ji3 := by (rw [← hji3]; unfold mn; (repeat' split) <;> omega)))
 (try (have hji3m : 0 ≤ ji3 := by omega))
 have hji3_ : (if (l1.length : Int) < (l0.length : Int) then (l1.length : Int) else (l0.length : Int)) = ji3 := hji3
 have hji3N : (if l1.length < l0.length then (l1.length : Int) else (l0.length : Int)) = ji3 := by simpa only [Int.ofNat_lt] using hji3_
 by_cases c4 : 0 ≤ (ji3)
 ·
  rw [if_pos c4] at H
  have c4b0 := eq_true c4
  have c4b1 : decide (0 ≤ (ji3)) = true := decide_eq_true c4
  clear c4
  by_cases c5 : (ji3) ≤ (l0.length : Int)
  rotate_left
  ·
   rw [if_neg c5] at H
   exact absurd H (by simp)
  rw [if_pos c5] at H
  have c5b0 := eq_true c5
  have c5b1 : decide ((ji3) ≤ (l0.length : Int)) = true := decide_eq_true c5
  clear c5
  replace H := Option.bind_eq_some_iff.mp H
  obtain ⟨t148, A60, H⟩ := H
  replace H : (mask_And.l0 k l1 t148 (t148.length : Int) 0) = some r := H
  have A6 := Aside0.mk A60
  clear A60
  have H' := Aside0.mk H
  clear H
  obtain ⟨i07, hi07, _, hsz7, _⟩ := info_parts info5
  obtain ⟨hcut7, hA7, hC7⟩ := print_take_of (P := Try.prog) (Value.int .u8) 0 27 5 .i64 Try.underlying27 hi07 hsz7 A0 c0 l0 (ji3) od_ od_ HC0.out
  have HR147 := Aside0.mk (Kd.C_of_reads (h1 := fun _ => rfl) (hA7 _ (Kd.reads_of_C HR0.out)))
  have HC147 := Aside0.mk hC7
  clear hA7 hC7 hi07 hsz7
  go_enter Try.func50, Try.ntmps50
  go_wp2_with (first | ((with_reducible refine gate_callee (f := 81) rfl ?_); refine goesL_ (some 14) rfl rfl Try.func81 (by kernel_rfl) rfl #[.slice A0 (l0.take ((ji3) : Int).toNat).length c0] rfl (by (try simp only [List.map_toArray, List.map_cons, List.map_nil]); first | done | (rw [show (l0.take ((ji3) : Int).toNat).length = (ji3).toNat from (by rw [List.length_take]; have h_ : ((ji3) : Int) ≤ (l0.length : Int) := od_; omega)] <;> rfl) | (simp only [hji3]; rfl) | rfl | (simp only [List.length_drop, List.length_take]; rfl)) ?_; (with_reducible refine (CloneB.calls _ _ (l0.take ((ji3) : Int).toNat) t148 _ ?side1 ?side2 A6.out).mono ?_); (case side1 => exact kD_ HR147.out); (case side2 => exact HC147.out); rintro e w8 ⟨v149, rfl, ho0, hb⟩; refine ⟨_, rfl, ?_⟩; have n0_ := Aside0.mk (Kd.R_lower ho0 (below_size (hb0_ HB.out))); have n1_ := Aside0.mk (below_step (hb0_ HB.out) hb); clear HB; revert n0_ n1_; intro HO150 HB; (try clear hb); (try clear hb2); (try clear hk); (try clear hi); (try clear ho0); obtain ⟨Ao9, co9, eo9⟩ := Kd.R_slice HO150.out; subst eo9))
  go_loopg [17] k (fun kq v17 w' => ∃ (x5_1 : List Int) (x17_1 : Int), v17 = .int .i64 x17_1 ∧ Aside0 (mask_And.l0 kq l1 x5_1 (t148.length : Int) x17_1 = some r) ∧ Aside0 (kq ≤ k) ∧ Aside0 (Kd.R (Kd.int .u8) 5 w' w.heap.size (fun _ => True) (.slice Ao9 t148.length co9) x5_1) ∧ Aside0 (Below w.heap.size w w'))
  case atStart => exact ⟨(t148), (0), (by first | rfl | (simp; done) | (simp [*]; done)), H', ⟨Nat.le_refl _⟩, ⟨by (with_reducible repeat (first | apply Kd.R_alloc | apply Kd.R_drewN | apply Kd.R_drew)); exact HO150.out⟩, ⟨(hb0_ HB.out)⟩⟩
  case round =>
   clear H'
   try clear c1
   try clear p2
   try clear c4
   try clear c4b0
   try clear c4b1
   try clear c5
   try clear c5b0
   try clear c5b1
   try clear c8
   obtain ⟨x5_1, x17_1, rfl, HA, HK1, HO_5, HB⟩ := hrel
   have hl5_1 := (Kd.R_reads' HO_5.out).1
   rw [hl5_1] at HO_5
   (try simp only [hl5_1])
   cases gk with
   | zero => exact absurd HA.out (by simp [mask_And.l0])
   | succ k1 =>
    have H := HA.out
    clear HA
    simp only [mask_And.l0] at H
    by_cases c10 : x17_1 < (t148.length : Int)
    ·
     rw [if_pos c10] at H
     have c10b0 : decide (x17_1 < (t148.length : Int)) = true := decide_eq_true c10
     (try (have c10r0 := c10b0; simp only [hl5_1] at c10r0))
     clear c10
     by_cases c11 : 0 ≤ x17_1
     rotate_left
     ·
      rw [if_neg c11] at H
      exact absurd H (by simp)
     rw [if_pos c11] at H
     have c11b0 : decide (0 ≤ x17_1) = true := decide_eq_true c11
     clear c11
     by_cases c12 : x17_1 < (x5_1.length : Int)
     rotate_left
     ·
      rw [if_neg c12] at H
      exact absurd H (by simp)
     rw [if_pos c12] at H
     have c12b0 : decide (x17_1 < (x5_1.length : Int)) = true := decide_eq_true c12
     (try (have c12r0 := c12b0; simp only [hl5_1] at c12r0))
     clear c12
     by_cases c13 : x17_1 < (l1.length : Int)
     rotate_left
     ·
      rw [if_neg c13] at H
      exact absurd H (by simp)
     rw [if_pos c13] at H
     have c13b0 : decide (x17_1 < (l1.length : Int)) = true := decide_eq_true c13
     (try (have c13r0 := c13b0; simp only [hl5_1] at c13r0))
     clear c13
     obtain ⟨y153, hy153⟩ : ∃ y_ : List Int, y_ = (x5_1.set (x17_1 : Int).toNat (Go.bits .and .u8 (rd x5_1 x17_1) (rd l1 x17_1))) := ⟨_, rfl⟩
     replace H : (mask_And.l0 k1 l1 y153 (t148.length : Int) (wrap64 (x17_1 + 1))) = some r := by first | (rw [hy153]; with_reducible exact H) | (have H2_ := (Option.bind_some _ _).symm.trans H; rw [hy153]; with_reducible exact H2_) | (have H2_ := (Option.bind_some _ _).symm.trans H; with_reducible exact H2_) | with_reducible exact H | (rw [hy153]; exact H) | exact H
     have Ny153 := Aside0.mk hy153
     clear hy153
     have H' := Aside0.mk H
     clear H
     try go_wp2
     have n0_ := Aside0.mk (Kd.R_drew HO_5.out)
     have n1_ := Aside0.mk (below_drew1 HB.out)
     clear HO_5
     clear HB
     revert n0_ n1_
     intro HO_5 HB
     have p151 : 0 ≤ (x17_1 : Int) := od_
     have q151 : x17_1 < (x5_1.length : Int) := od_
     obtain ⟨ad151, e151, hx151_0⟩ := Kd.at_int (Kd.R_reads' HO_5.out).2.2 x17_1 p151 q151
     cases e151
     replace p151 := eq_true p151
     replace q151 := eq_true q151
     have p152 : 0 ≤ (x17_1 : Int) := od_
     have q152 : x17_1 < (l1.length : Int) := od_
     obtain ⟨ad152, e152, hx152_0⟩ := Kd.at_int HR1.out x17_1 p152 q152
     have hw152_0 := hx152_0
     cases e152
     replace hx152_0 := (HB.out.cell (World.block_lt_of_cell? w _ hx152_0)).trans hx152_0
     replace p152 := eq_true p152
     replace q152 := eq_true q152
     have p14 : 0 ≤ (x17_1 : Int) := od_
     have q14 : (x17_1 : Int) < ((x5_1.length : Int) : Int) := od_
     obtain ⟨go14, co14, eo14, gb14, gl14, cl14, HG14⟩ := Kd.R_form HO_5.out (by omega)
     (first | cases eo14 | (injection eo14 with ea_ en_ ec_; (first | subst ea_ | (injection ea_ with ea_; subst ea_)); subst ec_; clear en_))
     have GB14 := Aside0.mk gb14
     have GG14 := Aside0.mk HG14
     clear gb14 gl14 HG14
     (first | simp only [add_plain] at hx151_0 | skip)
     obtain ⟨hx14_0, hf14_0⟩ := Kd.R_celln 0 HO_5.out (x17_1 : Int) p14 q14
     replace p14 := eq_true p14
     replace q14 := eq_true q14
     have HP16 := Kd.R_putn HO_5.out (x17_1 : Int) (Go.bits .and .u8 (rd x5_1 x17_1) (rd l1 x17_1))
     rw [← Ny153.out] at HP16
     have HQ16 := Aside0.mk HP16
     clear HP16
     refine start_ (n := 11) (S := fun w' => w'.cell? ⟨go14, (x17_1).toNat, none⟩ = some (.int .u8 (rd x5_1 x17_1)) ∧ w'.cell? (ad152.add (x17_1).toNat) = some (.int .u8 (rd l1 x17_1))) (ds := [10]) #[false,false,false,false,false,false,false,false,false,false,false] (by kernel_rfl) rfl rfl ⟨hx151_0, ((HB.out.cell (World.block_lt_of_cell? w _ hw152_0)).trans hw152_0)⟩ (fun hHeld => ?_); refine with_tabW mask_And.tab5 mask_And.bits5 (fun HT_ HW_ => ?_)
     generalize wr.drew = w15 at HO_5 HB GG14 HQ16 hf14_0 hx14_0 hx151_0 hx152_0 hHeld ⊢
     refine pure_ (i := 0) (N := some 20) (v := ?_) (a' := ?_) #[true,false,false,false,false,false,false,false,false,false,false] rfl rfl (any_of HT_.out (by kernel_rfl)) (fun _ _ _ h => h) (Or.inl ⟨by rfl, ?_⟩) ?_ ?_
     rotate_left
     ·
      intro w'
      go_simp
      with_reducible rfl
     rotate_left
     ·
      simp only [Act.put, setIfInBounds_toArray, set_cons_zero, set_cons_succ, i64_w, i32_w]
      rfl
     refine pure_ (i := 1) (N := some 21) (v := ?_) (a' := ?_) #[true,true,false,false,false,false,false,false,false,false,false] rfl rfl (any_of HT_.out (by kernel_rfl)) (fun _ _ _ h => h) (Or.inl ⟨by rfl, ?_⟩) ?_ ?_
     rotate_left
     ·
      intro w'
      go_simp
      with_reducible rfl
     rotate_left
     ·
      simp only [Act.put, setIfInBounds_toArray, set_cons_zero, set_cons_succ, i64_w, i32_w]
      rfl
     refine pure_ (i := 2) (N := some 22) (v := ?_) (a' := ?_) #[true,true,true,false,false,false,false,false,false,false,false] rfl rfl (any_of HT_.out (by kernel_rfl)) (fun _ _ _ h => h) (Or.inl ⟨by rfl, ?_⟩) ?_ ?_
     rotate_left
     ·
      intro w'
      go_simp
      with_reducible rfl
     rotate_left
     ·
      simp only [Act.put, setIfInBounds_toArray, set_cons_zero, set_cons_succ, i64_w, i32_w]
      rfl
     refine pure_ (i := 4) (N := some 24) (v := ?_) (a' := ?_) #[true,true,true,false,true,false,false,false,false,false,false] rfl rfl (any_of HT_.out (by kernel_rfl)) (fun _ _ _ h => h) (Or.inl ⟨by rfl, ?_⟩) ?_ ?_
     rotate_left
     ·
      intro w'
      go_simp
      with_reducible rfl
     rotate_left
     ·
      simp only [Act.put, setIfInBounds_toArray, set_cons_zero, set_cons_succ, i64_w, i32_w]
      rfl
     refine pure_ (i := 5) (N := some 25) (v := ?_) (a' := ?_) #[true,true,true,false,true,true,false,false,false,false,false] rfl rfl (any_of HT_.out (by kernel_rfl)) (fun _ _ _ h => h) (Or.inl ⟨by rfl, ?_⟩) ?_ ?_
     rotate_left
     ·
      intro w'
      go_simp
      with_reducible rfl
     rotate_left
     ·
      simp only [Act.put, setIfInBounds_toArray, set_cons_zero, set_cons_succ, i64_w, i32_w]
      rfl
     refine pure_ (i := 6) (N := some 26) (v := ?_) (a' := ?_) #[true,true,true,false,true,true,true,false,false,false,false] rfl rfl (any_of HT_.out (by kernel_rfl)) (fun _ _ _ h => h) (Or.inl ⟨by rfl, ?_⟩) ?_ ?_
     rotate_left
     ·
      intro w'
      go_simp
      with_reducible rfl
     rotate_left
     ·
      simp only [Act.put, setIfInBounds_toArray, set_cons_zero, set_cons_succ, i64_w, i32_w]
      rfl
     refine take_ (i := 3) (N := some 23) (v := ?_) (a' := ?_) #[true,true,true,true,true,true,true,false,false,false,false] rfl rfl (take_ofW HT_.out HW_.out (by kernel_rfl)) (fun _ _ _ h => h) (Or.inl ⟨by rfl, ?_⟩) hHeld ?_ ?_
     rotate_left
     ·
      rintro w' ⟨s0, s1⟩
      go_simp
      with_reducible rfl
     rotate_left
     ·
      simp only [Act.put, setIfInBounds_toArray, set_cons_zero, set_cons_succ, i64_w, i32_w]
      rfl
     refine take_ (i := 7) (N := some 27) (v := ?_) (a' := ?_) #[true,true,true,true,true,true,true,true,false,false,false] rfl rfl (take_ofW HT_.out HW_.out (by kernel_rfl)) (fun _ _ _ h => h) (Or.inl ⟨by rfl, ?_⟩) hHeld ?_ ?_
     rotate_left
     ·
      rintro w' ⟨s0, s1⟩
      go_simp
      with_reducible rfl
     rotate_left
     ·
      simp only [Act.put, setIfInBounds_toArray, set_cons_zero, set_cons_succ, i64_w, i32_w]
      rfl
     refine pure_ (i := 8) (N := some 28) (v := ?_) (a' := ?_) #[true,true,true,true,true,true,true,true,true,false,false] rfl rfl (any_of HT_.out (by kernel_rfl)) (fun _ _ _ h => h) (Or.inl ⟨by rfl, ?_⟩) ?_ ?_
     rotate_left
     ·
      intro w'
      go_simp
      with_reducible rfl
     rotate_left
     ·
      simp only [Act.put, setIfInBounds_toArray, set_cons_zero, set_cons_succ, i64_w, i32_w]
      rfl
     refine pure_ (i := 9) (N := some 29) (v := ?_) (a' := ?_) #[true,true,true,true,true,true,true,true,true,true,false] rfl rfl (any_of HT_.out (by kernel_rfl)) (fun _ _ _ h => h) (Or.inl ⟨by rfl, ?_⟩) ?_ ?_
     rotate_left
     ·
      intro w'
      go_simp
      with_reducible rfl
     rotate_left
     ·
      simp only [Act.put, setIfInBounds_toArray, set_cons_zero, set_cons_succ, i64_w, i32_w]
      rfl
     refine last_ (i := 10) (N := none) #[true,true,true,true,true,true,true,true,true,true,true] rfl rfl (one_of HT_.out (by kernel_rfl)) (by decide) (fun K hK => ?_)
     refine skip_ (w1 := ?_) (by rfl) rfl ?_ ?_
     rotate_left
     ·
      go_simp
      rfl
     refine hK.out _ _ ?_
     clear hK K
     refine done_ (done_of HT_.out (by kernel_rfl)) ?_
     try go_wp2
     (try simp only [← hl5_1])
     go_roundg k1
     case measure => have := HK1.out; omega
     case rel => exact ⟨(y153), (wrap64 (x17_1 + 1)), (by first | rfl | (simp; done) | (simp [*]; done)), H', ⟨by have := HK1.out; omega⟩, ⟨by (try simp only [hl5_1]); (with_reducible repeat (first | apply Kd.R_alloc | apply Kd.R_drewN | apply Kd.R_drew)); exact HQ16.out⟩, ⟨(hb1_ HB.out GB14.out)⟩⟩
    ·
     rw [if_neg c10] at H
     have c10b0 : decide (x17_1 < (t148.length : Int)) = false := decide_eq_false c10
     (try (have c10r0 := c10b0; simp only [hl5_1] at c10r0))
     clear c10
     obtain rfl := Option.some.inj H
     go_wp2
     go_ret
     exact ⟨_, by first | rfl | (simp [errW_none, errW_some] <;> rfl) | (simp only [← hji3]; first | rfl | (simp [errW_none, errW_some] <;> rfl)) | (simp [*, errW_none, errW_some] <;> rfl), by (with_reducible repeat (first | apply Kd.R_alloc | apply Kd.R_drewN | apply Kd.R_drew)); exact HO_5.out, (hb0_ HB.out)⟩
 ·
  rw [if_neg c4] at H
  exact absurd H (by simp)

/-! ### sum_common: function 79 (by hand) -/
def sum_common.l0 : Nat → Int → List Int → Bool → List (S31) → Int → Int → Option (List Int)
 | 0, _, _, _, _, _, _ => none
 | k + 1, x1, x5, x6, x11, x12, x13 => if x13 < x12 then (if 0 ≤ x13 then (if x13 < (x11.length : Int) then (if ((rd_T31 x11 x13).f0) > 0 then ((Extend.f ((rd_T31 x11 x13).f2) x1).bind fun t144 => ((mask_And.f k x5 t144).bind fun t147 => (sum_common.l0 k x1 t147 true x11 x12 (wrap64 (x13 + 1))))) else (sum_common.l0 k x1 x5 x6 x11 x12 (wrap64 (x13 + 1)))) else (none)) else (none)) else (if x6 = true then (some x5) else (if 0 ≤ x1 then (if (x1 : Int).toNat ≤ 281474976710656 then (some (List.replicate (x1 : Int).toNat 0)) else (none)) else (none)))
def sum_common.f (k : Nat) (l0 : List (S31)) (a1 : Int) : Option (List Int) := (Extend.f ([] : List Int) a1).bind fun t136 => (sum_common.l0 k a1 t136 false l0 (l0.length : Int) 0)
theorem sum_common.mono_l : ∀ k, (∀ y0 y1 y2 y3 y4 y5, LeO (sum_common.l0 k y0 y1 y2 y3 y4 y5) (sum_common.l0 (k + 1) y0 y1 y2 y3 y4 y5))
 | 0 => fun _ _ _ _ _ _ r h => by simp [sum_common.l0] at h
 | k + 1 => by
  have ih0 := sum_common.mono_l k
  ·
   intro y0 y1 y2 y3 y4 y5
   unfold sum_common.l0
   repeat' first
   | (with_reducible exact ih0 _ _ _ _ _ _)
   | (with_reducible exact mask_And.mono _ _ _)
   | (with_reducible exact LeO.refl _)
   | (with_reducible exact LeO.none _)
   | (with_reducible refine LeO.ite ?_ ?_)
   | (with_reducible refine LeO.bind ?_ (fun _ => ?_))
   | exact ih0 _ _ _ _ _ _
   | exact mask_And.mono _ _ _
   | exact LeO.none _
   | refine LeO.ite ?_ ?_
   | refine LeO.bind ?_ (fun _ => ?_)
theorem sum_common.mono : ∀ a0 a1 k, LeO (sum_common.f k a0 a1) (sum_common.f (k + 1) a0 a1) := by
 intro a0 a1 k
 have ih0 := sum_common.mono_l k
 unfold sum_common.f
 repeat' first
   | (with_reducible exact ih0 _ _ _ _ _ _)
   | (with_reducible exact mask_And.mono _ _ _)
   | (with_reducible exact LeO.refl _)
   | (with_reducible exact LeO.none _)
   | (with_reducible refine LeO.ite ?_ ?_)
   | (with_reducible refine LeO.bind ?_ (fun _ => ?_))
   | exact ih0 _ _ _ _ _ _
   | exact mask_And.mono _ _ _
   | exact LeO.none _
   | refine LeO.ite ?_ ?_
   | refine LeO.bind ?_ (fun _ => ?_)
set_option maxHeartbeats 8000000 in
set_option maxRecDepth 100000 in
theorem sum_common.calls (k : Nat) (A0 : Option Addr) (c0 : Nat) (l0 : List (S31)) (a1 : Int) (r : List Int) (w : World) (hr0 : Kd.C k31 w A0 l0.length l0) (hc0 : l0.length ≤ c0) (h : sum_common.f k l0 a1 = some r) :
  Calls Try.prog 79 #[.slice A0 l0.length c0, .int .i64 a1] w fun e w' => ∃ v0_ : Value, e = .returned (v0_) ∧ Kd.R (Kd.int .u8) 5 w' w.heap.size (fun _ => True) v0_ r ∧ Below w.heap.size w w' := by
 have hu31 := Try.underlying31
 have HR0 := Aside0.mk hr0
 have HC0 := Aside0.mk hc0
 clear hr0 hc0
 have HB := Aside0.mk (Below.refl w.heap.size w)
 have H : ((Extend.f ([] : List Int) a1).bind fun t136 => (sum_common.l0 k a1 t136 false l0 (l0.length : Int) 0)) = some r := h
 clear h
 replace H := Option.bind_eq_some_iff.mp H
 obtain ⟨t136, A30, H⟩ := H
 replace H : (sum_common.l0 k a1 t136 false l0 (l0.length : Int) 0) = some r := H
 have A3 := Aside0.mk A30
 clear A30
 have H' := Aside0.mk H
 clear H
 go_enter Try.func79, Try.ntmps79
 go_wp2_with (first | ((with_reducible refine gate_callee (f := 46) rfl ?_); refine goesL_ (some 10) rfl rfl Try.func46 (by kernel_rfl) rfl #[.slice none 0 0, .int .i64 a1] rfl (by (try simp only [List.map_toArray, List.map_cons, List.map_nil]); first | done | rfl | (simp only [List.length_drop, List.length_take]; rfl)) ?_; (refine (Extend.calls _ _ ([] : List Int) a1 t136 _ ?side1 ?side2 A3.out).mono ?_); (case side1 => exact Kd.C_nil _ _); (case side2 => exact Nat.le_refl _); rintro e w4 ⟨v137, rfl, ho0, hb⟩; refine ⟨_, rfl, ?_⟩; have n0_ := Aside0.mk (Kd.V_lower (Kd.V_mono (ok' := fun k_ => (w.heap.size ≤ k_)) ho0 (fun k_ hk_ => (Nat.le_trans (below_size (hb0_ HB.out)) hk_))) (below_size (hb0_ HB.out))); have n1_ := Aside0.mk (below_step (hb0_ HB.out) hb); clear HB; revert n0_ n1_; intro HO138 HB; (try clear hb); (try clear hb2); (try clear hk); (try clear hi); (try clear ho0)))
 go_loopg [5, 6, 13] k (fun kq v5 v6 v13 w' => ∃ (x5_1 : List Int) (x6_1 : Bool) (x13_1 : Int), v6 = .bool x6_1 ∧ v13 = .int .i64 x13_1 ∧ Aside0 (sum_common.l0 kq a1 x5_1 x6_1 l0 (l0.length : Int) x13_1 = some r) ∧ Aside0 (kq ≤ k) ∧ Aside0 (Kd.V (Kd.int .u8) 5 w' w.heap.size (fun k_ => (w.heap.size ≤ k_)) v5 x5_1) ∧ Aside0 (Below w.heap.size w w') ∧ Aside0 (x6_1 = true → Kd.R (Kd.int .u8) 5 w' w.heap.size (fun _ => True) v5 x5_1))
 case atStart => exact ⟨(t136), (false), (0), (by first | rfl | (simp; done) | (simp [*]; done)), (by first | rfl | (simp; done) | (simp [*]; done)), H', ⟨Nat.le_refl _⟩, ⟨by (with_reducible repeat (first | apply Kd.V_alloc | apply Kd.V_drewN | apply Kd.V_drew)); exact HO138.out⟩, ⟨(hb0_ HB.out)⟩, ⟨fun h_ => by cases h_⟩⟩
 case round =>
  clear H'
  try clear p2
  try clear c4
  obtain ⟨x5_1, x6_1, x13_1, rfl, rfl, HA, HK1, HO_5, HB, HS_5⟩ := hrel
  cases gk with
  | zero => exact absurd HA.out (by simp [sum_common.l0])
  | succ k1 =>
   have H := HA.out
   clear HA
   simp only [sum_common.l0] at H
   by_cases c5 : x13_1 < (l0.length : Int)
   ·
    rw [if_pos c5] at H
    have c5b0 : decide (x13_1 < (l0.length : Int)) = true := decide_eq_true c5
    clear c5
    by_cases c6 : 0 ≤ x13_1
    rotate_left
    ·
     rw [if_neg c6] at H
     exact absurd H (by simp)
    rw [if_pos c6] at H
    have c6b0 : decide (0 ≤ x13_1) = true := decide_eq_true c6
    clear c6
    by_cases c7 : x13_1 < (l0.length : Int)
    rotate_left
    ·
     rw [if_neg c7] at H
     exact absurd H (by simp)
    rw [if_pos c7] at H
    have c7b0 : decide (x13_1 < (l0.length : Int)) = true := decide_eq_true c7
    clear c7
    by_cases c8 : ((rd_T31 l0 x13_1).f0) > 0
    ·
     rw [if_pos c8] at H
     have c8b0 : decide (0 < ((rd_T31 l0 x13_1).f0)) = true := decide_eq_true c8
     clear c8
     replace H := Option.bind_eq_some_iff.mp H
     obtain ⟨t144, A90, H⟩ := H
     replace H : ((mask_And.f k1 x5_1 t144).bind fun t147 => (sum_common.l0 k1 a1 t147 true l0 (l0.length : Int) (wrap64 (x13_1 + 1)))) = some r := H
     have A9 := Aside0.mk A90
     clear A90
     replace H := Option.bind_eq_some_iff.mp H
     obtain ⟨t147, A100, H⟩ := H
     replace H : (sum_common.l0 k1 a1 t147 true l0 (l0.length : Int) (wrap64 (x13_1 + 1))) = some r := H
     have A10 := Aside0.mk A100
     clear A100
     have H' := Aside0.mk H
     clear H
     have p142 : 0 ≤ (x13_1 : Int) := od_
     have q142 : x13_1 < (l0.length : Int) := od_
     obtain ⟨ad142, A142_2, c142_2, A142_3, c142_3, A142_4, c142_4, A142_5, c142_5, A142_6, c142_6, e142, hx142_0, hx142_1, hx142_2, hx142_3, hx142_4, hx142_5, hx142_6, hx142_7, hl142_2, hi142_2, hl142_3, hi142_3, hl142_4, hi142_4, hl142_5, hi142_5, hl142_6, hi142_6⟩ := at_T31 HR0.out x13_1 p142 q142
     cases e142
     replace hx142_0 := (HB.out.cell (World.block_lt_of_cell? w _ hx142_0)).trans hx142_0
     replace hx142_1 := (HB.out.cell (World.block_lt_of_cell? w _ hx142_1)).trans hx142_1
     replace hx142_2 := (HB.out.cell (World.block_lt_of_cell? w _ hx142_2)).trans hx142_2
     replace hx142_3 := (HB.out.cell (World.block_lt_of_cell? w _ hx142_3)).trans hx142_3
     replace hx142_4 := (HB.out.cell (World.block_lt_of_cell? w _ hx142_4)).trans hx142_4
     replace hx142_5 := (HB.out.cell (World.block_lt_of_cell? w _ hx142_5)).trans hx142_5
     replace hx142_6 := (HB.out.cell (World.block_lt_of_cell? w _ hx142_6)).trans hx142_6
     replace hx142_7 := (HB.out.cell (World.block_lt_of_cell? w _ hx142_7)).trans hx142_7
     have HR142_2 := Aside0.mk hi142_2
     have HC142_2 := Aside0.mk hl142_2
     clear hi142_2 hl142_2
     have HR142_3 := Aside0.mk hi142_3
     have HC142_3 := Aside0.mk hl142_3
     clear hi142_3 hl142_3
     have HR142_4 := Aside0.mk hi142_4
     have HC142_4 := Aside0.mk hl142_4
     clear hi142_4 hl142_4
     have HR142_5 := Aside0.mk hi142_5
     have HC142_5 := Aside0.mk hl142_5
     clear hi142_5 hl142_5
     have HR142_6 := Aside0.mk hi142_6
     have HC142_6 := Aside0.mk hl142_6
     clear hi142_6 hl142_6
     replace p142 := eq_true p142
     replace q142 := eq_true q142
     go_wp2_with (first | ((with_reducible refine gate_dst (N := 8) rfl ?_); refine box_event ?hg (N := 8) ?hd (cs := #[.int .i64 0, .int .i64 0, .slice none 0 0, .slice none 0 0, .slice none 0 0, .slice none 0 0, .slice none 0 0, .bool false]) (t := 31) ?hr ?_; (case hd => rfl); (case hg => rfl); (case hr => first | (go_simp; done) | (go_simp; rfl)); intro gb143 hg w11 hbox hb; have n0_ := Aside0.mk (Kd.V_below (Kd.V_elderB (kV_ HO_5.out) gb143 (Nat.le_of_eq hg.symm)) hb); have n1_ := Aside0.mk (below_step (hb0_ HB.out) hb); have n2_ := Aside0.mk (hbox); have n3_ := Aside0.mk ((by rw [hg]; exact (below_size (hb0_ HB.out)) : w.heap.size ≤ gb143)); have n4_ := Aside0.mk ((by rw [hg]; exact (below_size (hb0_ HB.out)) : w.heap.size ≤ gb143)); clear HO_5 HB; revert n0_ n1_ n2_ n3_ n4_; intro HO_5 HB BK143 GW143 GE143; clear hb hbox hg; obtain ⟨hcz12_0, hcz12_1, hcz12_2, hcz12_3, hcz12_4, hcz12_5, hcz12_6, hcz12_7, hfz12_0, hfz12_1, hfz12_2, hfz12_3, hfz12_4, hfz12_5, hfz12_6, hfz12_7⟩ := bx8_ BK143.out) | ((with_reducible refine gate_callee (f := 46) rfl ?_); refine goesL_ (some 24) rfl rfl Try.func46 (by kernel_rfl) rfl #[.slice A142_2 ((rd_T31 l0 x13_1).f2).length c142_2, .int .i64 a1] rfl (by (try simp only [List.map_toArray, List.map_cons, List.map_nil]); first | done | rfl | (simp only [List.length_drop, List.length_take]; rfl)) ?_; (with_reducible refine (Extend.calls _ _ ((rd_T31 l0 x13_1).f2) a1 t144 _ ?side1 ?side2 A9.out).mono ?_); (case side1 => exact Kd.C_below HR142_2.out (hb1_ HB.out GE143.out)); (case side2 => exact HC142_2.out); rintro e w13 ⟨v145, rfl, ho0, hb⟩; refine ⟨_, rfl, ?_⟩; have n0_ := Aside0.mk (Kd.V_below (by (with_reducible repeat (first | apply Kd.V_alloc | apply Kd.V_drewN | apply Kd.V_drew)); exact (Kd.V_mono (Kd.V_far (p := ⟨gb143, 7, none⟩) (Kd.V_far (p := ⟨gb143, 6, none⟩) (Kd.V_far (p := ⟨gb143, 5, none⟩) (Kd.V_far (p := ⟨gb143, 4, none⟩) (Kd.V_far (p := ⟨gb143, 3, none⟩) (Kd.V_far (p := ⟨gb143, 2, none⟩) (Kd.V_far (p := ⟨gb143, 1, none⟩) (Kd.V_far (p := ⟨gb143, 0, none⟩) (Kd.V_mono HO_5.out (fun k_ hk => (⟨hk, hk.2⟩ : _ ∧ k_ ≠ gb143))) (fun _ hk => hk.2) (.int .i64 ((rd_T31 l0 x13_1).f0))) (fun _ hk => hk.2) (.int .i64 ((rd_T31 l0 x13_1).f1))) (fun _ hk => hk.2) (.slice A142_2 ((rd_T31 l0 x13_1).f2).length c142_2)) (fun _ hk => hk.2) (.slice A142_3 ((rd_T31 l0 x13_1).f3).length c142_3)) (fun _ hk => hk.2) (.slice A142_4 ((rd_T31 l0 x13_1).f4).length c142_4)) (fun _ hk => hk.2) (.slice A142_5 ((rd_T31 l0 x13_1).f5).length c142_5)) (fun _ hk => hk.2) (.slice A142_6 ((rd_T31 l0 x13_1).f6).length c142_6)) (fun _ hk => hk.2) (.bool ((rd_T31 l0 x13_1).f7))) (fun _ h_ => h_.1))) hb); have n1_ := Aside0.mk (Kd.V_lower (Kd.V_mono (ok' := fun k_ => (w.heap.size ≤ k_) ∧ k_ ≠ gb143) ho0 (fun k_ hk_ => ⟨(Nat.le_trans (below_size (hb1_ HB.out GE143.out)) hk_), (Kd.freshB (g := gb143) (o := .cells #[.int .i64 ((rd_T31 l0 x13_1).f0), .int .i64 ((rd_T31 l0 x13_1).f1), .slice A142_2 ((rd_T31 l0 x13_1).f2).length c142_2, .slice A142_3 ((rd_T31 l0 x13_1).f3).length c142_3, .slice A142_4 ((rd_T31 l0 x13_1).f4).length c142_4, .slice A142_5 ((rd_T31 l0 x13_1).f5).length c142_5, .slice A142_6 ((rd_T31 l0 x13_1).f6).length c142_6, .bool ((rd_T31 l0 x13_1).f7)] 31 (0, 0)) (by (with_reducible repeat (first | refine blk_drewN ?_ _ | refine blk_drew ?_ | refine blk_alloc ?_ _)); refine blk_put (cs := #[.int .i64 ((rd_T31 l0 x13_1).f0), .int .i64 ((rd_T31 l0 x13_1).f1), .slice A142_2 ((rd_T31 l0 x13_1).f2).length c142_2, .slice A142_3 ((rd_T31 l0 x13_1).f3).length c142_3, .slice A142_4 ((rd_T31 l0 x13_1).f4).length c142_4, .slice A142_5 ((rd_T31 l0 x13_1).f5).length c142_5, .slice A142_6 ((rd_T31 l0 x13_1).f6).length c142_6, .bool false]) ?_ 7 _ rfl; (with_reducible repeat (first | refine blk_drewN ?_ _ | refine blk_drew ?_ | refine blk_alloc ?_ _)); refine blk_put (cs := #[.int .i64 ((rd_T31 l0 x13_1).f0), .int .i64 ((rd_T31 l0 x13_1).f1), .slice A142_2 ((rd_T31 l0 x13_1).f2).length c142_2, .slice A142_3 ((rd_T31 l0 x13_1).f3).length c142_3, .slice A142_4 ((rd_T31 l0 x13_1).f4).length c142_4, .slice A142_5 ((rd_T31 l0 x13_1).f5).length c142_5, .slice none 0 0, .bool false]) ?_ 6 _ rfl; (with_reducible repeat (first | refine blk_drewN ?_ _ | refine blk_drew ?_ | refine blk_alloc ?_ _)); refine blk_put (cs := #[.int .i64 ((rd_T31 l0 x13_1).f0), .int .i64 ((rd_T31 l0 x13_1).f1), .slice A142_2 ((rd_T31 l0 x13_1).f2).length c142_2, .slice A142_3 ((rd_T31 l0 x13_1).f3).length c142_3, .slice A142_4 ((rd_T31 l0 x13_1).f4).length c142_4, .slice none 0 0, .slice none 0 0, .bool false]) ?_ 5 _ rfl; (with_reducible repeat (first | refine blk_drewN ?_ _ | refine blk_drew ?_ | refine blk_alloc ?_ _)); refine blk_put (cs := #[.int .i64 ((rd_T31 l0 x13_1).f0), .int .i64 ((rd_T31 l0 x13_1).f1), .slice A142_2 ((rd_T31 l0 x13_1).f2).length c142_2, .slice A142_3 ((rd_T31 l0 x13_1).f3).length c142_3, .slice none 0 0, .slice none 0 0, .slice none 0 0, .bool false]) ?_ 4 _ rfl; (with_reducible repeat (first | refine blk_drewN ?_ _ | refine blk_drew ?_ | refine blk_alloc ?_ _)); refine blk_put (cs := #[.int .i64 ((rd_T31 l0 x13_1).f0), .int .i64 ((rd_T31 l0 x13_1).f1), .slice A142_2 ((rd_T31 l0 x13_1).f2).length c142_2, .slice none 0 0, .slice none 0 0, .slice none 0 0, .slice none 0 0, .bool false]) ?_ 3 _ rfl; (with_reducible repeat (first | refine blk_drewN ?_ _ | refine blk_drew ?_ | refine blk_alloc ?_ _)); refine blk_put (cs := #[.int .i64 ((rd_T31 l0 x13_1).f0), .int .i64 ((rd_T31 l0 x13_1).f1), .slice none 0 0, .slice none 0 0, .slice none 0 0, .slice none 0 0, .slice none 0 0, .bool false]) ?_ 2 _ rfl; (with_reducible repeat (first | refine blk_drewN ?_ _ | refine blk_drew ?_ | refine blk_alloc ?_ _)); refine blk_put (cs := #[.int .i64 ((rd_T31 l0 x13_1).f0), .int .i64 0, .slice none 0 0, .slice none 0 0, .slice none 0 0, .slice none 0 0, .slice none 0 0, .bool false]) ?_ 1 _ rfl; (with_reducible repeat (first | refine blk_drewN ?_ _ | refine blk_drew ?_ | refine blk_alloc ?_ _)); refine blk_put (cs := #[.int .i64 0, .int .i64 0, .slice none 0 0, .slice none 0 0, .slice none 0 0, .slice none 0 0, .slice none 0 0, .bool false]) ?_ 0 _ rfl; (with_reducible repeat (first | refine blk_drewN ?_ _ | refine blk_drew ?_ | refine blk_alloc ?_ _)); exact BK143.out) k_ hk_)⟩)) (below_size (hb1_ HB.out GE143.out))); have n2_ := Aside0.mk (blk_below (g := gb143) (o := .cells #[.int .i64 ((rd_T31 l0 x13_1).f0), .int .i64 ((rd_T31 l0 x13_1).f1), .slice A142_2 ((rd_T31 l0 x13_1).f2).length c142_2, .slice A142_3 ((rd_T31 l0 x13_1).f3).length c142_3, .slice A142_4 ((rd_T31 l0 x13_1).f4).length c142_4, .slice A142_5 ((rd_T31 l0 x13_1).f5).length c142_5, .slice A142_6 ((rd_T31 l0 x13_1).f6).length c142_6, .bool ((rd_T31 l0 x13_1).f7)] 31 (0, 0)) (by (with_reducible repeat (first | refine blk_drewN ?_ _ | refine blk_drew ?_ | refine blk_alloc ?_ _)); refine blk_put (cs := #[.int .i64 ((rd_T31 l0 x13_1).f0), .int .i64 ((rd_T31 l0 x13_1).f1), .slice A142_2 ((rd_T31 l0 x13_1).f2).length c142_2, .slice A142_3 ((rd_T31 l0 x13_1).f3).length c142_3, .slice A142_4 ((rd_T31 l0 x13_1).f4).length c142_4, .slice A142_5 ((rd_T31 l0 x13_1).f5).length c142_5, .slice A142_6 ((rd_T31 l0 x13_1).f6).length c142_6, .bool false]) ?_ 7 _ rfl; (with_reducible repeat (first | refine blk_drewN ?_ _ | refine blk_drew ?_ | refine blk_alloc ?_ _)); refine blk_put (cs := #[.int .i64 ((rd_T31 l0 x13_1).f0), .int .i64 ((rd_T31 l0 x13_1).f1), .slice A142_2 ((rd_T31 l0 x13_1).f2).length c142_2, .slice A142_3 ((rd_T31 l0 x13_1).f3).length c142_3, .slice A142_4 ((rd_T31 l0 x13_1).f4).length c142_4, .slice A142_5 ((rd_T31 l0 x13_1).f5).length c142_5, .slice none 0 0, .bool false]) ?_ 6 _ rfl; (with_reducible repeat (first | refine blk_drewN ?_ _ | refine blk_drew ?_ | refine blk_alloc ?_ _)); refine blk_put (cs := #[.int .i64 ((rd_T31 l0 x13_1).f0), .int .i64 ((rd_T31 l0 x13_1).f1), .slice A142_2 ((rd_T31 l0 x13_1).f2).length c142_2, .slice A142_3 ((rd_T31 l0 x13_1).f3).length c142_3, .slice A142_4 ((rd_T31 l0 x13_1).f4).length c142_4, .slice none 0 0, .slice none 0 0, .bool false]) ?_ 5 _ rfl; (with_reducible repeat (first | refine blk_drewN ?_ _ | refine blk_drew ?_ | refine blk_alloc ?_ _)); refine blk_put (cs := #[.int .i64 ((rd_T31 l0 x13_1).f0), .int .i64 ((rd_T31 l0 x13_1).f1), .slice A142_2 ((rd_T31 l0 x13_1).f2).length c142_2, .slice A142_3 ((rd_T31 l0 x13_1).f3).length c142_3, .slice none 0 0, .slice none 0 0, .slice none 0 0, .bool false]) ?_ 4 _ rfl; (with_reducible repeat (first | refine blk_drewN ?_ _ | refine blk_drew ?_ | refine blk_alloc ?_ _)); refine blk_put (cs := #[.int .i64 ((rd_T31 l0 x13_1).f0), .int .i64 ((rd_T31 l0 x13_1).f1), .slice A142_2 ((rd_T31 l0 x13_1).f2).length c142_2, .slice none 0 0, .slice none 0 0, .slice none 0 0, .slice none 0 0, .bool false]) ?_ 3 _ rfl; (with_reducible repeat (first | refine blk_drewN ?_ _ | refine blk_drew ?_ | refine blk_alloc ?_ _)); refine blk_put (cs := #[.int .i64 ((rd_T31 l0 x13_1).f0), .int .i64 ((rd_T31 l0 x13_1).f1), .slice none 0 0, .slice none 0 0, .slice none 0 0, .slice none 0 0, .slice none 0 0, .bool false]) ?_ 2 _ rfl; (with_reducible repeat (first | refine blk_drewN ?_ _ | refine blk_drew ?_ | refine blk_alloc ?_ _)); refine blk_put (cs := #[.int .i64 ((rd_T31 l0 x13_1).f0), .int .i64 0, .slice none 0 0, .slice none 0 0, .slice none 0 0, .slice none 0 0, .slice none 0 0, .bool false]) ?_ 1 _ rfl; (with_reducible repeat (first | refine blk_drewN ?_ _ | refine blk_drew ?_ | refine blk_alloc ?_ _)); refine blk_put (cs := #[.int .i64 0, .int .i64 0, .slice none 0 0, .slice none 0 0, .slice none 0 0, .slice none 0 0, .slice none 0 0, .bool false]) ?_ 0 _ rfl; (with_reducible repeat (first | refine blk_drewN ?_ _ | refine blk_drew ?_ | refine blk_alloc ?_ _)); exact BK143.out) hb); have n3_ := Aside0.mk (below_step (hb1_ HB.out GE143.out) hb); clear HO_5 BK143 HB; revert n0_ n1_ n2_ n3_; intro HO_5 HO146 BK143 HB; (try clear hb); (try clear hb2); (try clear hk); (try clear hi); (try clear ho0); obtain ⟨Ao14, co14, eo14⟩ := Kd.V_slice HO_5.out; subst eo14; obtain ⟨Ao15, co15, eo15⟩ := Kd.V_slice HO146.out; subst eo15) | ((with_reducible refine gate_callee (f := 50) rfl ?_); refine goesL_ (some 25) rfl rfl Try.func50 (by kernel_rfl) rfl #[.slice Ao14 x5_1.length co14, .slice Ao15 t144.length co15] rfl (by (try simp only [List.map_toArray, List.map_cons, List.map_nil]); first | done | rfl | (simp only [List.length_drop, List.length_take]; rfl)) ?_; (with_reducible refine (mask_And.calls k1 _ _ x5_1 _ _ t144 t147 _ ?side1 ?side2 ?side3 ?side4 A10.out).mono ?_); (case side1 => exact kD_ (Kd.V_reads' HO_5.out).2.2); (case side2 => exact (Kd.V_reads' HO_5.out).2.1); (case side3 => exact kD_ (Kd.V_reads' HO146.out).2.2); (case side4 => exact (Kd.V_reads' HO146.out).2.1); rintro e w16 ⟨v148, rfl, ho0, hb⟩; refine ⟨_, rfl, ?_⟩; have n0_ := Aside0.mk (Kd.V_elder' (kV_ HO_5.out) (Kd.R_base ho0) hb); have n1_ := Aside0.mk (Kd.V_elder' (kV_ HO146.out) (Kd.R_base ho0) hb); have n2_ := Aside0.mk (Kd.R_lower (Kd.R_newM (M := fun k_ => (w.heap.size ≤ k_)) ho0 (below_size (hb1_ HB.out GE143.out)) (fun k_ h_ => h_)) (below_size (hb1_ HB.out GE143.out))); have n3_ := Aside0.mk (blk_below (g := gb143) (o := .cells #[.int .i64 ((rd_T31 l0 x13_1).f0), .int .i64 ((rd_T31 l0 x13_1).f1), .slice A142_2 ((rd_T31 l0 x13_1).f2).length c142_2, .slice A142_3 ((rd_T31 l0 x13_1).f3).length c142_3, .slice A142_4 ((rd_T31 l0 x13_1).f4).length c142_4, .slice A142_5 ((rd_T31 l0 x13_1).f5).length c142_5, .slice A142_6 ((rd_T31 l0 x13_1).f6).length c142_6, .bool ((rd_T31 l0 x13_1).f7)] 31 (0, 0)) (bk_ BK143.out) hb); have n4_ := Aside0.mk (below_step (hb1_ HB.out GE143.out) hb); clear HO_5 HO146 BK143 HB; revert n0_ n1_ n2_ n3_ n4_; intro HO_5 HO146 HO149 BK143 HB; (try clear hb); (try clear hb2); (try clear hk); (try clear hi); (try clear ho0)))
     go_roundg k1
     case measure => have := HK1.out; omega
     case rel => exact ⟨(t147), (true), (wrap64 (x13_1 + 1)), (by first | rfl | (simp; done) | (simp [*]; done)), (by first | rfl | (simp; done) | (simp [*]; done)), H', ⟨by have := HK1.out; omega⟩, ⟨Kd.R_V (by (with_reducible repeat (first | apply Kd.R_alloc | apply Kd.R_drewN | apply Kd.R_drew)); exact Kd.R_mono HO149.out (fun _ hk => hk.1))⟩, ⟨(hb1_ HB.out GE143.out)⟩, ⟨fun _ => by (with_reducible repeat (first | apply Kd.R_alloc | apply Kd.R_drewN | apply Kd.R_drew)); exact Kd.R_mono HO149.out (fun _ _ => trivial)⟩⟩
    ·
     rw [if_neg c8] at H
     have c8b0 : decide (0 < ((rd_T31 l0 x13_1).f0)) = false := decide_eq_false c8
     clear c8
     have H' := Aside0.mk H
     clear H
     have p142 : 0 ≤ (x13_1 : Int) := od_
     have q142 : x13_1 < (l0.length : Int) := od_
     obtain ⟨ad142, A142_2, c142_2, A142_3, c142_3, A142_4, c142_4, A142_5, c142_5, A142_6, c142_6, e142, hx142_0, hx142_1, hx142_2, hx142_3, hx142_4, hx142_5, hx142_6, hx142_7, hl142_2, hi142_2, hl142_3, hi142_3, hl142_4, hi142_4, hl142_5, hi142_5, hl142_6, hi142_6⟩ := at_T31 HR0.out x13_1 p142 q142
     cases e142
     replace hx142_0 := (HB.out.cell (World.block_lt_of_cell? w _ hx142_0)).trans hx142_0
     replace hx142_1 := (HB.out.cell (World.block_lt_of_cell? w _ hx142_1)).trans hx142_1
     replace hx142_2 := (HB.out.cell (World.block_lt_of_cell? w _ hx142_2)).trans hx142_2
     replace hx142_3 := (HB.out.cell (World.block_lt_of_cell? w _ hx142_3)).trans hx142_3
     replace hx142_4 := (HB.out.cell (World.block_lt_of_cell? w _ hx142_4)).trans hx142_4
     replace hx142_5 := (HB.out.cell (World.block_lt_of_cell? w _ hx142_5)).trans hx142_5
     replace hx142_6 := (HB.out.cell (World.block_lt_of_cell? w _ hx142_6)).trans hx142_6
     replace hx142_7 := (HB.out.cell (World.block_lt_of_cell? w _ hx142_7)).trans hx142_7
     have HR142_2 := Aside0.mk hi142_2
     have HC142_2 := Aside0.mk hl142_2
     clear hi142_2 hl142_2
     have HR142_3 := Aside0.mk hi142_3
     have HC142_3 := Aside0.mk hl142_3
     clear hi142_3 hl142_3
     have HR142_4 := Aside0.mk hi142_4
     have HC142_4 := Aside0.mk hl142_4
     clear hi142_4 hl142_4
     have HR142_5 := Aside0.mk hi142_5
     have HC142_5 := Aside0.mk hl142_5
     clear hi142_5 hl142_5
     have HR142_6 := Aside0.mk hi142_6
     have HC142_6 := Aside0.mk hl142_6
     clear hi142_6 hl142_6
     replace p142 := eq_true p142
     replace q142 := eq_true q142
     go_wp2_with (first | ((with_reducible refine gate_dst (N := 8) rfl ?_); refine box_event ?hg (N := 8) ?hd (cs := #[.int .i64 0, .int .i64 0, .slice none 0 0, .slice none 0 0, .slice none 0 0, .slice none 0 0, .slice none 0 0, .bool false]) (t := 31) ?hr ?_; (case hd => rfl); (case hg => rfl); (case hr => first | (go_simp; done) | (go_simp; rfl)); intro gb143 hg w17 hbox hb; have HS9 := Aside0.mk (fun h_ : x6_1 = true => Kd.R_below (kR_ (HS_5.out h_)) hb); have n0_ := Aside0.mk (Kd.V_below (Kd.V_elderB (kV_ HO_5.out) gb143 (Nat.le_of_eq hg.symm)) hb); have n1_ := Aside0.mk (below_step (hb0_ HB.out) hb); have n2_ := Aside0.mk (hbox); have n3_ := Aside0.mk ((by rw [hg]; exact (below_size (hb0_ HB.out)) : w.heap.size ≤ gb143)); have n4_ := Aside0.mk ((by rw [hg]; exact (below_size (hb0_ HB.out)) : w.heap.size ≤ gb143)); clear HO_5 HB; revert n0_ n1_ n2_ n3_ n4_; intro HO_5 HB BK143 GW143 GE143; clear hb hbox hg; obtain ⟨hcz18_0, hcz18_1, hcz18_2, hcz18_3, hcz18_4, hcz18_5, hcz18_6, hcz18_7, hfz18_0, hfz18_1, hfz18_2, hfz18_3, hfz18_4, hfz18_5, hfz18_6, hfz18_7⟩ := bx8_ BK143.out))
     go_roundg k1
     case measure => have := HK1.out; omega
     case rel => exact ⟨(x5_1), (x6_1), (wrap64 (x13_1 + 1)), (by first | rfl | (simp; done) | (simp [*]; done)), (by first | rfl | (simp; done) | (simp [*]; done)), H', ⟨by have := HK1.out; omega⟩, ⟨by (with_reducible repeat (first | apply Kd.V_alloc | apply Kd.V_drewN | apply Kd.V_drew)); exact Kd.V_mono (Kd.V_far (p := ⟨gb143, 7, none⟩) (Kd.V_far (p := ⟨gb143, 6, none⟩) (Kd.V_far (p := ⟨gb143, 5, none⟩) (Kd.V_far (p := ⟨gb143, 4, none⟩) (Kd.V_far (p := ⟨gb143, 3, none⟩) (Kd.V_far (p := ⟨gb143, 2, none⟩) (Kd.V_far (p := ⟨gb143, 1, none⟩) (Kd.V_far (p := ⟨gb143, 0, none⟩) (Kd.V_mono HO_5.out (fun k_ hk => (⟨hk, hk.2⟩ : _ ∧ k_ ≠ gb143))) (fun _ hk => hk.2) (.int .i64 ((rd_T31 l0 x13_1).f0))) (fun _ hk => hk.2) (.int .i64 ((rd_T31 l0 x13_1).f1))) (fun _ hk => hk.2) (.slice A142_2 ((rd_T31 l0 x13_1).f2).length c142_2)) (fun _ hk => hk.2) (.slice A142_3 ((rd_T31 l0 x13_1).f3).length c142_3)) (fun _ hk => hk.2) (.slice A142_4 ((rd_T31 l0 x13_1).f4).length c142_4)) (fun _ hk => hk.2) (.slice A142_5 ((rd_T31 l0 x13_1).f5).length c142_5)) (fun _ hk => hk.2) (.slice A142_6 ((rd_T31 l0 x13_1).f6).length c142_6)) (fun _ hk => hk.2) (.bool ((rd_T31 l0 x13_1).f7))) (fun _ hk => hk.1.1)⟩, ⟨(hb1_ HB.out GE143.out)⟩, ⟨fun h_ => by (with_reducible repeat (first | apply Kd.R_alloc | apply Kd.R_drewN | apply Kd.R_drew)); exact Kd.R_mono (Kd.R_far (p := ⟨gb143, 7, none⟩) (Kd.R_far (p := ⟨gb143, 6, none⟩) (Kd.R_far (p := ⟨gb143, 5, none⟩) (Kd.R_far (p := ⟨gb143, 4, none⟩) (Kd.R_far (p := ⟨gb143, 3, none⟩) (Kd.R_far (p := ⟨gb143, 2, none⟩) (Kd.R_far (p := ⟨gb143, 1, none⟩) (Kd.R_far (p := ⟨gb143, 0, none⟩) (Kd.R_mono (Kd.R_types (HS9.out h_) BK143.out (by decide)) (fun k_ hk => (⟨hk, hk.2⟩ : _ ∧ k_ ≠ gb143))) (fun _ hk => hk.2) (.int .i64 ((rd_T31 l0 x13_1).f0))) (fun _ hk => hk.2) (.int .i64 ((rd_T31 l0 x13_1).f1))) (fun _ hk => hk.2) (.slice A142_2 ((rd_T31 l0 x13_1).f2).length c142_2)) (fun _ hk => hk.2) (.slice A142_3 ((rd_T31 l0 x13_1).f3).length c142_3)) (fun _ hk => hk.2) (.slice A142_4 ((rd_T31 l0 x13_1).f4).length c142_4)) (fun _ hk => hk.2) (.slice A142_5 ((rd_T31 l0 x13_1).f5).length c142_5)) (fun _ hk => hk.2) (.slice A142_6 ((rd_T31 l0 x13_1).f6).length c142_6)) (fun _ hk => hk.2) (.bool ((rd_T31 l0 x13_1).f7))) (fun _ _ => trivial)⟩⟩
   ·
    rw [if_neg c5] at H
    have c5b0 : decide (x13_1 < (l0.length : Int)) = false := decide_eq_false c5
    clear c5
    by_cases c19 : x6_1 = true
    ·
     subst c19
     have H1 : (some x5_1) = some r := by rw [if_pos rfl] at H; exact H
     clear H
     have H := H1
     clear H1
     obtain rfl := Option.some.inj H
     go_wp2
     go_ret
     exact ⟨_, by first | rfl | (simp [errW_none, errW_some] <;> rfl) | (simp [*, errW_none, errW_some] <;> rfl), by (with_reducible repeat (first | apply Kd.R_alloc | apply Kd.R_drewN | apply Kd.R_drew)); first | exact HS_5.out rfl | exact HS_5.out trivial, (hb0_ HB.out)⟩
    ·
     replace c19 := Bool.eq_false_iff.mpr c19
     subst c19
     have H1 : (if 0 ≤ a1 then (if (a1 : Int).toNat ≤ 281474976710656 then (some (List.replicate (a1 : Int).toNat 0)) else (none)) else (none)) = some r := by rw [if_neg (show ¬ (false = true) by decide)] at H; exact H
     clear H
     have H := H1
     clear H1
     by_cases c20 : 0 ≤ a1
     ·
      rw [if_pos c20] at H
      have c20b0 := eq_true c20
      have c20b1 : decide (0 ≤ a1) = true := decide_eq_true c20
      clear c20
      by_cases c21 : (a1 : Int).toNat ≤ 281474976710656
      rotate_left
      ·
       rw [if_neg c21] at H
       exact absurd H (by simp)
      rw [if_pos c21] at H
      have c21b0 := eq_true c21
      have c21b1 : decide ((a1 : Int).toNat ≤ 281474976710656) = true := decide_eq_true c21
      clear c21
      obtain ⟨y139, hy139⟩ : ∃ y_ : List Int, y_ = (List.replicate (a1 : Int).toNat 0) := ⟨_, rfl⟩
      replace H : (some y139) = some r := by first | (rw [hy139]; with_reducible exact H) | (have H2_ := (Option.bind_some _ _).symm.trans H; rw [hy139]; with_reducible exact H2_) | (have H2_ := (Option.bind_some _ _).symm.trans H; with_reducible exact H2_) | with_reducible exact H | (rw [hy139]; exact H) | exact H
      have Ny139 := Aside0.mk hy139
      clear hy139
      obtain rfl := Option.some.inj H
      go_wp2_with (first | ((with_reducible refine gate_dst (N := 30) rfl ?_); refine Kd.R_make (Kd.int .u8) _ 5 rfl (N := 30) rfl 27 _ _ rfl a1 rfl rfl Try.underlying27 (.int .u8 0) 1 info5 rfl (by decide) (by omega) 0 (ok := fun _ => True) (okp := fun _ => True) rfl (fun _ hk => hk) trivial od_ (Nat.le_trans (Nat.mul_le_mul_right _ (od_ : a1.toNat ≤ 281474976710656)) (by omega)) (Below.refl _ _) (Nat.le_refl _) ?_; intro v140 w22 ho23 hb hg_ hnew_; clear hg_ hnew_; (first | rw [← Ny139.out] at ho23 | (simp only [Int.reduceToNat] at ho23; rw [← Ny139.out] at ho23)); have n0_ := Aside0.mk (Kd.V_elder' (kV_ HO_5.out) (Kd.R_base ho23) hb); have n1_ := Aside0.mk (Kd.R_lower (Kd.R_newM (M := fun k_ => (w.heap.size ≤ k_)) ho23 (below_size (hb0_ HB.out)) (fun k_ h_ => h_)) (below_size (hb0_ HB.out))); have n2_ := Aside0.mk (below_step (hb0_ HB.out) hb); clear HO_5 HB; revert n0_ n1_ n2_; intro HO_5 HO141 HB; clear hb ho23))
      go_ret
      exact ⟨_, by first | rfl | (simp [errW_none, errW_some] <;> rfl) | (simp [*, errW_none, errW_some] <;> rfl), (by (with_reducible repeat (first | apply Kd.R_alloc | apply Kd.R_drewN | apply Kd.R_drew)); exact Kd.R_mono HO141.out (fun _ _ => trivial)), (hb0_ HB.out)⟩
     ·
      rw [if_neg c20] at H
      exact absurd H (by simp)

-- NOT PRINTED: function 36 (sum_Lay)

end Go.Proofs.Ytpcephbhnbfcmaa.G
