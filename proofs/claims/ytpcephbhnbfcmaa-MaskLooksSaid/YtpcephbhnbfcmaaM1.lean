-- Written by this session's program fork.py: a Lean function for each Go function and its walk. Not trusted: Lean checks it.
import Derived.Test.YtpcephbhnbfcmaaM0
namespace Go.Proofs.Ytpcephbhnbfcmaa.M
open Go.RowKit Go.Proofs.YtpcephbhnbfcmaaW.PrintWords Go.Proofs.YtpcephbhnbfcmaaW.PrintLast Go.Proofs.YtpcephbhnbfcmaaW.PrintMore
attribute [local go_sem] max2_int min2_int max_two min_two max_three min_three max_four min_four   -- for this text's walks alone
set_option linter.unusedVariables false
set_option linter.unusedSimpArgs false

/-! ### ref15_Valid: function 27 -/
def ref15_Valid.f (a0_0 : Int) (a0_1 : Int) (l0_2 : List Int) (l0_3 : List Int) (l0_4 : List (S101)) (l0_5 : List (S79)) (l0_6 : List Int) (a0_7 : Bool) : Option (Bool) := if a0_0 ≥ 0 then (if a0_0 ≤ 1024 then (if a0_1 = 1 then (some ((l0_2.length : Int) == a0_0)) else (if a0_1 = 8 then (some ((l0_2.length : Int) == a0_0)) else (some false))) else (some false)) else (some false)
set_option maxHeartbeats 8000000 in
set_option maxRecDepth 100000 in
theorem ref15_Valid.calls (a0_0 : Int) (a0_1 : Int) (A0_2 : Option Addr) (c0_2 : Nat) (l0_2 : List Int) (A0_3 : Option Addr) (c0_3 : Nat) (l0_3 : List Int) (A0_4 : Option Addr) (c0_4 : Nat) (l0_4 : List (S101)) (A0_5 : Option Addr) (c0_5 : Nat) (l0_5 : List (S79)) (A0_6 : Option Addr) (c0_6 : Nat) (l0_6 : List Int) (a0_7 : Bool) (r : Bool) (w : World) (hr0_2 : Kd.C (Kd.int .u8) w A0_2 l0_2.length l0_2) (hc0_2 : l0_2.length ≤ c0_2) (hr0_3 : Kd.C (Kd.int .i64) w A0_3 l0_3.length l0_3) (hc0_3 : l0_3.length ≤ c0_3) (hr0_4 : Kd.C k101 w A0_4 l0_4.length l0_4) (hc0_4 : l0_4.length ≤ c0_4) (hr0_5 : Kd.C k79 w A0_5 l0_5.length l0_5) (hc0_5 : l0_5.length ≤ c0_5) (hr0_6 : Kd.C (Kd.int .i64) w A0_6 l0_6.length l0_6) (hc0_6 : l0_6.length ≤ c0_6) (h : ref15_Valid.f a0_0 a0_1 l0_2 l0_3 l0_4 l0_5 l0_6 a0_7 = some r) :
  Calls Try.prog 27 #[.agg #[.int .i64 a0_0, .int .i64 a0_1, .slice A0_2 l0_2.length c0_2, .slice A0_3 l0_3.length c0_3, .slice A0_4 l0_4.length c0_4, .slice A0_5 l0_5.length c0_5, .slice A0_6 l0_6.length c0_6, .bool a0_7]] w fun e w' => e = .returned (.bool r) ∧ Below w.heap.size w w' := by
 have hu31 := Try.underlying31; have HR0_2 := Aside0.mk hr0_2; have HC0_2 := Aside0.mk hc0_2; clear hr0_2 hc0_2; have HR0_3 := Aside0.mk hr0_3; have HC0_3 := Aside0.mk hc0_3; clear hr0_3 hc0_3; have HR0_4 := Aside0.mk hr0_4; have HC0_4 := Aside0.mk hc0_4; clear hr0_4 hc0_4; have HR0_5 := Aside0.mk hr0_5; have HC0_5 := Aside0.mk hc0_5; clear hr0_5 hc0_5; have HR0_6 := Aside0.mk hr0_6; have HC0_6 := Aside0.mk hc0_6; clear hr0_6 hc0_6; have HB := Aside0.mk (Below.refl w.heap.size w); have H : (if a0_0 ≥ 0 then (if a0_0 ≤ 1024 then (if a0_1 = 1 then (some ((l0_2.length : Int) == a0_0)) else (if a0_1 = 8 then (some ((l0_2.length : Int) == a0_0)) else (some false))) else (some false)) else (some false)) = some r := h; clear h; by_cases c2 : a0_0 ≥ 0
 ·
  rw [if_pos c2] at H; have c2b0 : decide (0 ≤ a0_0) = true := decide_eq_true c2; clear c2; by_cases c3 : a0_0 ≤ 1024
  ·
   rw [if_pos c3] at H; have c3b0 : decide (a0_0 ≤ 1024) = true := decide_eq_true c3; clear c3; by_cases c4 : a0_1 = 1
   ·
    rw [if_pos c4] at H; have c4b0 : (a0_1 == 1) = true := beq_iff_eq.mpr c4; have c4b1 : (a0_1 != 1) = false := bne_eq_false_iff_eq.mpr c4; clear c4; obtain rfl := Option.some.inj H; go_enter Try.func27, Try.ntmps27
    go_wp2_with (first | ((with_reducible refine gate_dst (N := 1) rfl ?_); (try (refine gate_guard (by rfl) ?_; dsimp only)); refine box_event ?hg (N := 1) ?hd (cs := #[.int .i64 a0_0, .int .i64 a0_1, .slice A0_2 l0_2.length c0_2, .slice A0_3 l0_3.length c0_3, .slice A0_4 l0_4.length c0_4, .slice A0_5 l0_5.length c0_5, .slice A0_6 l0_6.length c0_6, .bool a0_7]) (t := 31) ?hr ?_; (case hd => rfl); (case hg => rfl); (case hr => first | (go_simp; done) | (go_simp; rfl)); intro gb101 hg w5 hbox hb; have n0_ := Aside0.mk (below_step (hb0_ HB.out) hb); have n1_ := Aside0.mk (hbox); have n2_ := Aside0.mk ((by rw [hg]; exact (below_size (hb0_ HB.out)) : w.heap.size ≤ gb101)); have n3_ := Aside0.mk ((by rw [hg]; exact (below_size (hb0_ HB.out)) : w.heap.size ≤ gb101)); clear HB; revert n0_ n1_ n2_ n3_; intro HB BK101 GW101 GE101; clear hb hbox hg; obtain ⟨hcz6_0, hcz6_1, hcz6_2, hcz6_3, hcz6_4, hcz6_5, hcz6_6, hcz6_7, hfz6_0, hfz6_1, hfz6_2, hfz6_3, hfz6_4, hfz6_5, hfz6_6, hfz6_7⟩ := bx8_ BK101.out))
    go_ret
    exact ⟨by first | rfl | (simp [errW_none, errW_some] <;> rfl) | (simp [*, errW_none, errW_some] <;> rfl), (hb1_ HB.out GE101.out)⟩
   ·
    rw [if_neg c4] at H; have c4b0 : (a0_1 == 1) = false := beq_eq_false_iff_ne.mpr c4; have c4b1 : (a0_1 != 1) = true := bne_iff_ne.mpr c4; by_cases c7 : a0_1 = 8
    ·
     rw [if_pos c7] at H; have c7b0 : (a0_1 == 8) = true := beq_iff_eq.mpr c7; have c7b1 : (a0_1 != 8) = false := bne_eq_false_iff_eq.mpr c7; clear c7; obtain rfl := Option.some.inj H; go_enter Try.func27, Try.ntmps27
     go_wp2_with (first | ((with_reducible refine gate_dst (N := 1) rfl ?_); (try (refine gate_guard (by rfl) ?_; dsimp only)); refine box_event ?hg (N := 1) ?hd (cs := #[.int .i64 a0_0, .int .i64 a0_1, .slice A0_2 l0_2.length c0_2, .slice A0_3 l0_3.length c0_3, .slice A0_4 l0_4.length c0_4, .slice A0_5 l0_5.length c0_5, .slice A0_6 l0_6.length c0_6, .bool a0_7]) (t := 31) ?hr ?_; (case hd => rfl); (case hg => rfl); (case hr => first | (go_simp; done) | (go_simp; rfl)); intro gb101 hg w8 hbox hb; have n0_ := Aside0.mk (below_step (hb0_ HB.out) hb); have n1_ := Aside0.mk (hbox); have n2_ := Aside0.mk ((by rw [hg]; exact (below_size (hb0_ HB.out)) : w.heap.size ≤ gb101)); have n3_ := Aside0.mk ((by rw [hg]; exact (below_size (hb0_ HB.out)) : w.heap.size ≤ gb101)); clear HB; revert n0_ n1_ n2_ n3_; intro HB BK101 GW101 GE101; clear hb hbox hg; obtain ⟨hcz9_0, hcz9_1, hcz9_2, hcz9_3, hcz9_4, hcz9_5, hcz9_6, hcz9_7, hfz9_0, hfz9_1, hfz9_2, hfz9_3, hfz9_4, hfz9_5, hfz9_6, hfz9_7⟩ := bx8_ BK101.out))
     go_ret
     exact ⟨by first | rfl | (simp [errW_none, errW_some] <;> rfl) | (simp [*, errW_none, errW_some] <;> rfl), (hb1_ HB.out GE101.out)⟩
    ·
     rw [if_neg c7] at H; have c7b0 : (a0_1 == 8) = false := beq_eq_false_iff_ne.mpr c7; have c7b1 : (a0_1 != 8) = true := bne_iff_ne.mpr c7; obtain rfl := Option.some.inj H; go_enter Try.func27, Try.ntmps27
     go_wp2_with (first | ((with_reducible refine gate_dst (N := 1) rfl ?_); (try (refine gate_guard (by rfl) ?_; dsimp only)); refine box_event ?hg (N := 1) ?hd (cs := #[.int .i64 a0_0, .int .i64 a0_1, .slice A0_2 l0_2.length c0_2, .slice A0_3 l0_3.length c0_3, .slice A0_4 l0_4.length c0_4, .slice A0_5 l0_5.length c0_5, .slice A0_6 l0_6.length c0_6, .bool a0_7]) (t := 31) ?hr ?_; (case hd => rfl); (case hg => rfl); (case hr => first | (go_simp; done) | (go_simp; rfl)); intro gb101 hg w10 hbox hb; have n0_ := Aside0.mk (below_step (hb0_ HB.out) hb); have n1_ := Aside0.mk (hbox); have n2_ := Aside0.mk ((by rw [hg]; exact (below_size (hb0_ HB.out)) : w.heap.size ≤ gb101)); have n3_ := Aside0.mk ((by rw [hg]; exact (below_size (hb0_ HB.out)) : w.heap.size ≤ gb101)); clear HB; revert n0_ n1_ n2_ n3_; intro HB BK101 GW101 GE101; clear hb hbox hg; obtain ⟨hcz11_0, hcz11_1, hcz11_2, hcz11_3, hcz11_4, hcz11_5, hcz11_6, hcz11_7, hfz11_0, hfz11_1, hfz11_2, hfz11_3, hfz11_4, hfz11_5, hfz11_6, hfz11_7⟩ := bx8_ BK101.out))
     go_ret
     exact ⟨by first | rfl | (simp [errW_none, errW_some] <;> rfl) | (simp [*, errW_none, errW_some] <;> rfl), (hb1_ HB.out GE101.out)⟩
  ·
   rw [if_neg c3] at H; have c3b0 : decide (a0_0 ≤ 1024) = false := decide_eq_false c3; clear c3; obtain rfl := Option.some.inj H; go_enter Try.func27, Try.ntmps27
   go_wp2_with (first | ((with_reducible refine gate_dst (N := 1) rfl ?_); (try (refine gate_guard (by rfl) ?_; dsimp only)); refine box_event ?hg (N := 1) ?hd (cs := #[.int .i64 a0_0, .int .i64 a0_1, .slice A0_2 l0_2.length c0_2, .slice A0_3 l0_3.length c0_3, .slice A0_4 l0_4.length c0_4, .slice A0_5 l0_5.length c0_5, .slice A0_6 l0_6.length c0_6, .bool a0_7]) (t := 31) ?hr ?_; (case hd => rfl); (case hg => rfl); (case hr => first | (go_simp; done) | (go_simp; rfl)); intro gb101 hg w12 hbox hb; have n0_ := Aside0.mk (below_step (hb0_ HB.out) hb); have n1_ := Aside0.mk (hbox); have n2_ := Aside0.mk ((by rw [hg]; exact (below_size (hb0_ HB.out)) : w.heap.size ≤ gb101)); have n3_ := Aside0.mk ((by rw [hg]; exact (below_size (hb0_ HB.out)) : w.heap.size ≤ gb101)); clear HB; revert n0_ n1_ n2_ n3_; intro HB BK101 GW101 GE101; clear hb hbox hg; obtain ⟨hcz13_0, hcz13_1, hcz13_2, hcz13_3, hcz13_4, hcz13_5, hcz13_6, hcz13_7, hfz13_0, hfz13_1, hfz13_2, hfz13_3, hfz13_4, hfz13_5, hfz13_6, hfz13_7⟩ := bx8_ BK101.out))
   go_ret
   exact ⟨by first | rfl | (simp [errW_none, errW_some] <;> rfl) | (simp [*, errW_none, errW_some] <;> rfl), (hb1_ HB.out GE101.out)⟩
 ·
  rw [if_neg c2] at H; have c2b0 : decide (0 ≤ a0_0) = false := decide_eq_false c2; clear c2; obtain rfl := Option.some.inj H; go_enter Try.func27, Try.ntmps27
  go_wp2_with (first | ((with_reducible refine gate_dst (N := 1) rfl ?_); (try (refine gate_guard (by rfl) ?_; dsimp only)); refine box_event ?hg (N := 1) ?hd (cs := #[.int .i64 a0_0, .int .i64 a0_1, .slice A0_2 l0_2.length c0_2, .slice A0_3 l0_3.length c0_3, .slice A0_4 l0_4.length c0_4, .slice A0_5 l0_5.length c0_5, .slice A0_6 l0_6.length c0_6, .bool a0_7]) (t := 31) ?hr ?_; (case hd => rfl); (case hg => rfl); (case hr => first | (go_simp; done) | (go_simp; rfl)); intro gb101 hg w14 hbox hb; have n0_ := Aside0.mk (below_step (hb0_ HB.out) hb); have n1_ := Aside0.mk (hbox); have n2_ := Aside0.mk ((by rw [hg]; exact (below_size (hb0_ HB.out)) : w.heap.size ≤ gb101)); have n3_ := Aside0.mk ((by rw [hg]; exact (below_size (hb0_ HB.out)) : w.heap.size ≤ gb101)); clear HB; revert n0_ n1_ n2_ n3_; intro HB BK101 GW101 GE101; clear hb hbox hg; obtain ⟨hcz15_0, hcz15_1, hcz15_2, hcz15_3, hcz15_4, hcz15_5, hcz15_6, hcz15_7, hfz15_0, hfz15_1, hfz15_2, hfz15_3, hfz15_4, hfz15_5, hfz15_6, hfz15_7⟩ := bx8_ BK101.out))
  go_ret
  exact ⟨by first | rfl | (simp [errW_none, errW_some] <;> rfl) | (simp [*, errW_none, errW_some] <;> rfl), (hb1_ HB.out GE101.out)⟩

/-! ### ref15_set: function 76 -/
def ref15_set.f (l0 : List Int) (a1 : Int) : Option (Bool) := if a1 ≥ 0 then (if (wrap64 (Int.tdiv a1 8)) < (l0.length : Int) then (if 0 ≤ (wrap64 (Int.tdiv a1 8)) then (if 0 ≤ (IntKind.u64.wrap (Int.tmod a1 8)) then (some ((Go.bits .and .u8 (shr .u8 (rd l0 (wrap64 (Int.tdiv a1 8))) (IntKind.u64.wrap (Int.tmod a1 8))) 1) == 1)) else (none)) else (none)) else (some false)) else (some false)
set_option maxHeartbeats 8000000 in
set_option maxRecDepth 100000 in
theorem ref15_set.calls (A0 : Option Addr) (c0 : Nat) (l0 : List Int) (a1 : Int) (r : Bool) (w : World) (hr0 : Kd.C (Kd.int .u8) w A0 l0.length l0) (hc0 : l0.length ≤ c0) (h : ref15_set.f l0 a1 = some r) :
  Calls Try.prog 76 #[.slice A0 l0.length c0, .int .i64 a1] w fun e w' => e = .returned (.bool r) ∧ Drawn0 w w' := by
 have HR0 := Aside0.mk hr0; have HC0 := Aside0.mk hc0; clear hr0 hc0; have H : (if a1 ≥ 0 then (if (wrap64 (Int.tdiv a1 8)) < (l0.length : Int) then (if 0 ≤ (wrap64 (Int.tdiv a1 8)) then (if 0 ≤ (IntKind.u64.wrap (Int.tmod a1 8)) then (some ((Go.bits .and .u8 (shr .u8 (rd l0 (wrap64 (Int.tdiv a1 8))) (IntKind.u64.wrap (Int.tmod a1 8))) 1) == 1)) else (none)) else (none)) else (some false)) else (some false)) = some r := h; clear h; by_cases c3 : a1 ≥ 0
 ·
  rw [if_pos c3] at H; have c3b0 : decide (0 ≤ a1) = true := decide_eq_true c3; clear c3; by_cases c4 : (wrap64 (Int.tdiv a1 8)) < (l0.length : Int)
  ·
   rw [if_pos c4] at H; have c4b0 : decide ((wrap64 (Int.tdiv a1 8)) < (l0.length : Int)) = true := decide_eq_true c4; clear c4; obtain ⟨ji5, hji5⟩ : ∃ j_ : Int, (wrap64 (Int.tdiv a1 8)) = j_ := ⟨_, rfl⟩; replace H : (if 0 ≤ (ji5) then (if 0 ≤ (IntKind.u64.wrap (Int.tmod a1 8)) then (some ((Go.bits .and .u8 (shr .u8 (rd l0 (ji5)) (IntKind.u64.wrap (Int.tmod a1 8))) 1) == 1)) else (none)) else (none)) = some r := by first | (rw [hji5] at H; exact H) | (simp only [hji5] at H ⊢; exact H)
   (try rw [hji5] at c4b0)
   have hji5w : (IntKind.i64.wrap (Int.tdiv a1 8)) = ji5 := (i64_w _).trans hji5; by_cases c6 : 0 ≤ (ji5)
   rotate_left
   ·
    rw [if_neg c6] at H; exact absurd H (by simp)
   rw [if_pos c6] at H; have c6b0 : decide (0 ≤ (ji5)) = true := decide_eq_true c6; clear c6; obtain ⟨ji7, hji7⟩ : ∃ j_ : Int, (IntKind.u64.wrap (Int.tmod a1 8)) = j_ := ⟨_, rfl⟩; replace H : (if 0 ≤ (ji7) then (some ((Go.bits .and .u8 (shr .u8 (rd l0 (ji5)) (ji7)) 1) == 1)) else (none)) = some r := by first | (rw [hji7] at H; exact H) | (simp only [hji7] at H ⊢; exact H)
   by_cases c8 : 0 ≤ (ji7)
   rotate_left
   ·
    rw [if_neg c8] at H; exact absurd H (by simp)
   rw [if_pos c8] at H; have c8b0 := eq_true c8; have c8b1 : decide (0 ≤ (ji7)) = true := decide_eq_true c8; clear c8; obtain ⟨ji9, hji9⟩ : ∃ j_ : Int, (shr .u8 (rd l0 (ji5)) (ji7)) = j_ := ⟨_, rfl⟩; replace H : (some ((Go.bits .and .u8 (ji9) 1) == 1)) = some r := by first | (rw [hji9] at H; exact H) | (simp only [hji9] at H ⊢; exact H)
   have hji9_ : ((rd l0 (ji5)) / 2 ^ min (ji7).toNat 8) = ji9 := hji9; have hji9z : (ji7) ≤ 8 → ((rd l0 (ji5)) / 2 ^ (ji7).toNat) = ji9 := shr_small hji9; obtain rfl := Option.some.inj H; have p102 : 0 ≤ ((ji5) : Int) := od_; have q102 : (ji5) < (l0.length : Int) := od_; obtain ⟨ad102, e102, hx102_0⟩ := Kd.at_int HR0.out (ji5) p102 q102; cases e102; replace p102 := eq_true p102; replace q102 := eq_true q102; go_enter Try.func76, Try.ntmps76
   go_wp2
   go_ret
   exact ⟨by first | rfl | (simp; done) | (simp only [← hji5, ← hji7, ← hji9] <;> (first | rfl | simp)) | (simp [*]; done), by repeat (first | exact Drawn0.refl _ | apply Drawn0.step)⟩
  ·
   rw [if_neg c4] at H; have c4b0 : decide ((wrap64 (Int.tdiv a1 8)) < (l0.length : Int)) = false := decide_eq_false c4; clear c4; obtain rfl := Option.some.inj H; go_enter Try.func76, Try.ntmps76
   go_wp2
   go_ret
   exact ⟨rf_, by repeat (first | exact Drawn0.refl _ | apply Drawn0.step)⟩
 ·
  rw [if_neg c3] at H; have c3b0 : decide (0 ≤ a1) = false := decide_eq_false c3; clear c3; obtain rfl := Option.some.inj H; go_enter Try.func76, Try.ntmps76
  go_wp2
  go_ret
  exact ⟨rf_, by repeat (first | exact Drawn0.refl _ | apply Drawn0.step)⟩

/-! ### ref15_Count: function 32 -/
def ref15_Count.l0 : Nat → List Int → Int → Int → Option (Int)
 | 0, _, _, _ => none
 | k + 1, x0, x3, x4 => if x4 < (wrap64 (8 * (x0.length : Int))) then ((ref15_set.f x0 x4).bind fun t103 => (if t103 = true then (ref15_Count.l0 k x0 (wrap64 (x3 + 1)) (wrap64 (x4 + 1))) else (ref15_Count.l0 k x0 x3 (wrap64 (x4 + 1))))) else (some x3)
def ref15_Count.f (k : Nat) (l0 : List Int) : Option (Int) := ref15_Count.l0 k l0 0 0
theorem ref15_Count.mono_l : ∀ k, (∀ y0 y1 y2, LeO (ref15_Count.l0 k y0 y1 y2) (ref15_Count.l0 (k + 1) y0 y1 y2))
 | 0 => fun _ _ _ r h => by simp [ref15_Count.l0] at h
 | k + 1 => by
  have ih0 := ref15_Count.mono_l k
  ·
   intro y0 y1 y2; unfold ref15_Count.l0
   repeat' first
   | (with_reducible exact ih0 _ _ _)
   | (with_reducible exact LeO.refl _)
   | (with_reducible exact LeO.none _)
   | (with_reducible refine LeO.ite ?_ ?_)
   | (with_reducible refine LeO.bind ?_ (fun _ => ?_))
   | exact ih0 _ _ _
   | exact LeO.none _
   | refine LeO.ite ?_ ?_
   | refine LeO.bind ?_ (fun _ => ?_)
theorem ref15_Count.mono : ∀ a0 k, LeO (ref15_Count.f k a0) (ref15_Count.f (k + 1) a0) := by
 intro a0 k; have ih0 := ref15_Count.mono_l k; unfold ref15_Count.f
 repeat' first
   | (with_reducible exact ih0 _ _ _)
   | (with_reducible exact LeO.refl _)
   | (with_reducible exact LeO.none _)
   | (with_reducible refine LeO.ite ?_ ?_)
   | (with_reducible refine LeO.bind ?_ (fun _ => ?_))
   | exact ih0 _ _ _
   | exact LeO.none _
   | refine LeO.ite ?_ ?_
   | refine LeO.bind ?_ (fun _ => ?_)
set_option maxHeartbeats 8000000 in
set_option maxRecDepth 100000 in
theorem ref15_Count.calls (k : Nat) (A0 : Option Addr) (c0 : Nat) (l0 : List Int) (r : Int) (w : World) (hr0 : Kd.C (Kd.int .u8) w A0 l0.length l0) (hc0 : l0.length ≤ c0) (h : ref15_Count.f k l0 = some r) :
  Calls Try.prog 32 #[.slice A0 l0.length c0] w fun e w' => e = .returned (.int .i64 r) ∧ Drawn0 w w' := by
 have HR0 := Aside0.mk hr0; have HC0 := Aside0.mk hc0; clear hr0 hc0; have H : (ref15_Count.l0 k l0 0 0) = some r := h; clear h; have H' := Aside0.mk H; clear H; go_enter Try.func32, Try.ntmps32
 go_wp2
 go_loopg [3, 4] k (fun kq v3 v4 w' => ∃ (x3_1 : Int) (x4_1 : Int), v3 = .int .i64 x3_1 ∧ v4 = .int .i64 x4_1 ∧ Aside0 (ref15_Count.l0 kq l0 x3_1 x4_1 = some r) ∧ Aside0 (kq ≤ k) ∧ Drawn0 w w')
 case atStart => exact ⟨(0), (0), rf_, rf_, H', ⟨Nat.le_refl _⟩, by repeat (first | exact Drawn0.refl _ | apply Drawn0.step)⟩
 case round =>
  clear H'; obtain ⟨x3_1, x4_1, rfl, rfl, HA, HK1, ⟨m1, rfl⟩⟩ := hrel; cases gk with
  | zero => exact absurd HA.out (by simp [ref15_Count.l0])
  | succ k1 =>
   have H := HA.out; clear HA; simp only [ref15_Count.l0] at H; by_cases c2 : x4_1 < (wrap64 (8 * (l0.length : Int)))
   ·
    rw [if_pos c2] at H; have c2b0 : decide (x4_1 < (wrap64 (8 * (l0.length : Int)))) = true := decide_eq_true c2; clear c2; replace H := Option.bind_eq_some_iff.mp H; obtain ⟨t103, A30, H⟩ := H; (try dsimp only at H); have A3 := Aside0.mk A30; clear A30; by_cases c4 : t103 = true
    ·
     subst c4; have H1 : (ref15_Count.l0 k1 l0 (wrap64 (x3_1 + 1)) (wrap64 (x4_1 + 1))) = some r := by rw [if_pos rfl] at H; exact H
     clear H; have H := H1; clear H1; have H' := Aside0.mk H; clear H; go_wp2_with (first | ((with_reducible refine gate_callee (f := 76) rfl ?_); refine goesL_ (some 14) rfl rfl Try.func76 (by kernel_rfl) rfl #[.slice A0 l0.length c0, .int .i64 x4_1] rfl lm_ ?_; (with_reducible refine (ref15_set.calls _ _ l0 x4_1 true _ ?side1 ?side2 A3.out).mono ?_); (case side1 => exact kD_ HR0.out); (case side2 => exact HC0.out); rintro e w' ⟨rfl, ⟨nd, rfl⟩⟩; refine ⟨_, rfl, ?_⟩))
     go_roundg k1
     case measure => have := HK1.out; omega
     case rel => exact ⟨(wrap64 (x3_1 + 1)), (wrap64 (x4_1 + 1)), rf_, rf_, H', ⟨by have := HK1.out; omega⟩, by repeat (first | exact Drawn0.refl _ | apply Drawn0.step)⟩
    ·
     replace c4 := Bool.eq_false_iff.mpr c4; subst c4; have H1 : (ref15_Count.l0 k1 l0 x3_1 (wrap64 (x4_1 + 1))) = some r := by rw [if_neg (show ¬ (false = true) by decide)] at H; exact H
     clear H; have H := H1; clear H1; have H' := Aside0.mk H; clear H; go_wp2_with (first | ((with_reducible refine gate_callee (f := 76) rfl ?_); refine goesL_ (some 14) rfl rfl Try.func76 (by kernel_rfl) rfl #[.slice A0 l0.length c0, .int .i64 x4_1] rfl lm_ ?_; (with_reducible refine (ref15_set.calls _ _ l0 x4_1 false _ ?side1 ?side2 A3.out).mono ?_); (case side1 => exact kD_ HR0.out); (case side2 => exact HC0.out); rintro e w' ⟨rfl, ⟨nd, rfl⟩⟩; refine ⟨_, rfl, ?_⟩))
     go_roundg k1
     case measure => have := HK1.out; omega
     case rel => exact ⟨(x3_1), (wrap64 (x4_1 + 1)), rf_, rf_, H', ⟨by have := HK1.out; omega⟩, by repeat (first | exact Drawn0.refl _ | apply Drawn0.step)⟩
   ·
    rw [if_neg c2] at H; have c2b0 : decide (x4_1 < (wrap64 (8 * (l0.length : Int)))) = false := decide_eq_false c2; clear c2; obtain rfl := Option.some.inj H; go_wp2
    go_ret
    exact ⟨rf_, by repeat (first | exact Drawn0.refl _ | apply Drawn0.step)⟩

/-! ### ref15_Fits: function 41 -/
def ref15_Fits.l0 : Nat → List Int → List Int → Int → Option (Bool)
 | 0, _, _, _ => none
 | k + 1, x0, x1, x5 => if x5 < (x0.length : Int) then (if 0 ≤ x5 then (if x5 < (x1.length : Int) then (if (Go.bits .and .u8 (rd x0 x5) (rd x1 x5)) = 0 then (ref15_Fits.l0 k x0 x1 (wrap64 (x5 + 1))) else (some false)) else (none)) else (none)) else (some true)
def ref15_Fits.f (k : Nat) (l0 : List Int) (l1 : List Int) : Option (Bool) := if (l0.length : Int) = (l1.length : Int) then (ref15_Fits.l0 k l0 l1 0) else (some false)
theorem ref15_Fits.mono_l : ∀ k, (∀ y0 y1 y2, LeO (ref15_Fits.l0 k y0 y1 y2) (ref15_Fits.l0 (k + 1) y0 y1 y2))
 | 0 => fun _ _ _ r h => by simp [ref15_Fits.l0] at h
 | k + 1 => by
  have ih0 := ref15_Fits.mono_l k
  ·
   intro y0 y1 y2; unfold ref15_Fits.l0
   repeat' first
   | (with_reducible exact ih0 _ _ _)
   | (with_reducible exact LeO.refl _)
   | (with_reducible exact LeO.none _)
   | (with_reducible refine LeO.ite ?_ ?_)
   | (with_reducible refine LeO.bind ?_ (fun _ => ?_))
   | exact ih0 _ _ _
   | exact LeO.none _
   | refine LeO.ite ?_ ?_
   | refine LeO.bind ?_ (fun _ => ?_)
theorem ref15_Fits.mono : ∀ a0 a1 k, LeO (ref15_Fits.f k a0 a1) (ref15_Fits.f (k + 1) a0 a1) := by
 intro a0 a1 k; have ih0 := ref15_Fits.mono_l k; unfold ref15_Fits.f
 repeat' first
   | (with_reducible exact ih0 _ _ _)
   | (with_reducible exact LeO.refl _)
   | (with_reducible exact LeO.none _)
   | (with_reducible refine LeO.ite ?_ ?_)
   | (with_reducible refine LeO.bind ?_ (fun _ => ?_))
   | exact ih0 _ _ _
   | exact LeO.none _
   | refine LeO.ite ?_ ?_
   | refine LeO.bind ?_ (fun _ => ?_)
set_option maxHeartbeats 8000000 in
set_option maxRecDepth 100000 in
theorem ref15_Fits.calls (k : Nat) (A0 : Option Addr) (c0 : Nat) (l0 : List Int) (A1 : Option Addr) (c1 : Nat) (l1 : List Int) (r : Bool) (w : World) (hr0 : Kd.C (Kd.int .u8) w A0 l0.length l0) (hc0 : l0.length ≤ c0) (hr1 : Kd.C (Kd.int .u8) w A1 l1.length l1) (hc1 : l1.length ≤ c1) (h : ref15_Fits.f k l0 l1 = some r) :
  Calls Try.prog 41 #[.slice A0 l0.length c0, .slice A1 l1.length c1] w fun e w' => e = .returned (.bool r) ∧ Drawn0 w w' := by
 have HR0 := Aside0.mk hr0; have HC0 := Aside0.mk hc0; clear hr0 hc0; have HR1 := Aside0.mk hr1; have HC1 := Aside0.mk hc1; clear hr1 hc1; have H : (if (l0.length : Int) = (l1.length : Int) then (ref15_Fits.l0 k l0 l1 0) else (some false)) = some r := h; clear h; by_cases c3 : (l0.length : Int) = (l1.length : Int)
 ·
  rw [if_pos c3] at H; have c3b0 : ((l0.length : Int) == (l1.length : Int)) = true := beq_iff_eq.mpr c3; have c3b1 : ((l0.length : Int) != (l1.length : Int)) = false := bne_eq_false_iff_eq.mpr c3; have c3b2 : (l0.length == l1.length) = true := by first | simpa using c3 | (simp at c3 ⊢; omega)
  clear c3; have H' := Aside0.mk H; clear H; go_enter Try.func41, Try.ntmps41
  go_wp2
  repeat (go_quiet (fail); try go_wp2)
  go_loopg [5] k (fun kq v5 w' => ∃ (x5_1 : Int), v5 = .int .i64 x5_1 ∧ Aside0 (ref15_Fits.l0 kq l0 l1 x5_1 = some r) ∧ Aside0 (kq ≤ k) ∧ Drawn0 w w')
  case atStart => exact ⟨(0), rf_, H', ⟨Nat.le_refl _⟩, by repeat (first | exact Drawn0.refl _ | apply Drawn0.step)⟩
  case round =>
   clear H'; try clear c1
   try clear p2
   try clear c3
   try clear c3b0
   try clear c3b1
   try clear c3b2
   obtain ⟨x5_1, rfl, HA, HK1, ⟨m1, rfl⟩⟩ := hrel; cases gk with
   | zero => exact absurd HA.out (by simp [ref15_Fits.l0])
   | succ k1 =>
    have H := HA.out; clear HA; simp only [ref15_Fits.l0] at H; by_cases c4 : x5_1 < (l0.length : Int)
    ·
     rw [if_pos c4] at H; have c4b0 : decide (x5_1 < (l0.length : Int)) = true := decide_eq_true c4; clear c4; by_cases c5 : 0 ≤ x5_1
     rotate_left
     ·
      rw [if_neg c5] at H; exact absurd H (by simp)
     rw [if_pos c5] at H; have c5b0 : decide (0 ≤ x5_1) = true := decide_eq_true c5; clear c5; by_cases c6 : x5_1 < (l1.length : Int)
     rotate_left
     ·
      rw [if_neg c6] at H; exact absurd H (by simp)
     rw [if_pos c6] at H; have c6b0 : decide (x5_1 < (l1.length : Int)) = true := decide_eq_true c6; clear c6; by_cases c7 : (Go.bits .and .u8 (rd l0 x5_1) (rd l1 x5_1)) = 0
     ·
      rw [if_pos c7] at H; have c7b0 : ((Go.bits .and .u8 (rd l0 x5_1) (rd l1 x5_1)) == 0) = true := beq_iff_eq.mpr c7; have c7b1 : ((Go.bits .and .u8 (rd l0 x5_1) (rd l1 x5_1)) != 0) = false := bne_eq_false_iff_eq.mpr c7; clear c7; have H' := Aside0.mk H; clear H; have p104 : 0 ≤ (x5_1 : Int) := od_; have q104 : x5_1 < (l0.length : Int) := od_; obtain ⟨ad104, e104, hx104_0⟩ := Kd.at_int HR0.out x5_1 p104 q104; cases e104; replace p104 := eq_true p104; replace q104 := eq_true q104; have p105 : 0 ≤ (x5_1 : Int) := od_; have q105 : x5_1 < (l1.length : Int) := od_; obtain ⟨ad105, e105, hx105_0⟩ := Kd.at_int HR1.out x5_1 p105 q105; cases e105; replace p105 := eq_true p105; replace q105 := eq_true q105; go_wp2
      repeat (go_quiet (fail); try go_wp2)
      go_roundg k1
      case measure => have := HK1.out; omega
      case rel => exact ⟨(wrap64 (x5_1 + 1)), rf_, H', ⟨by have := HK1.out; omega⟩, by repeat (first | exact Drawn0.refl _ | apply Drawn0.step)⟩
     ·
      rw [if_neg c7] at H; have c7b0 : ((Go.bits .and .u8 (rd l0 x5_1) (rd l1 x5_1)) == 0) = false := beq_eq_false_iff_ne.mpr c7; have c7b1 : ((Go.bits .and .u8 (rd l0 x5_1) (rd l1 x5_1)) != 0) = true := bne_iff_ne.mpr c7; obtain rfl := Option.some.inj H; have p104 : 0 ≤ (x5_1 : Int) := od_; have q104 : x5_1 < (l0.length : Int) := od_; obtain ⟨ad104, e104, hx104_0⟩ := Kd.at_int HR0.out x5_1 p104 q104; cases e104; replace p104 := eq_true p104; replace q104 := eq_true q104; have p105 : 0 ≤ (x5_1 : Int) := od_; have q105 : x5_1 < (l1.length : Int) := od_; obtain ⟨ad105, e105, hx105_0⟩ := Kd.at_int HR1.out x5_1 p105 q105; cases e105; replace p105 := eq_true p105; replace q105 := eq_true q105; go_wp2
      repeat (go_quiet (fail); try go_wp2)
      go_ret
      exact ⟨rf_, by repeat (first | exact Drawn0.refl _ | apply Drawn0.step)⟩
    ·
     rw [if_neg c4] at H; have c4b0 : decide (x5_1 < (l0.length : Int)) = false := decide_eq_false c4; clear c4; obtain rfl := Option.some.inj H; go_wp2
     repeat (go_quiet (fail); try go_wp2)
     go_ret
     exact ⟨rf_, by repeat (first | exact Drawn0.refl _ | apply Drawn0.step)⟩
 ·
  rw [if_neg c3] at H; have c3b0 : ((l0.length : Int) == (l1.length : Int)) = false := beq_eq_false_iff_ne.mpr c3; have c3b1 : ((l0.length : Int) != (l1.length : Int)) = true := bne_iff_ne.mpr c3; have c3b2 : (l0.length == l1.length) = false := by first | simpa using c3 | (simp at c3 ⊢; omega)
  obtain rfl := Option.some.inj H; go_enter Try.func41, Try.ntmps41
  go_wp2
  repeat (go_quiet (fail); try go_wp2)
  go_ret
  exact ⟨rf_, by repeat (first | exact Drawn0.refl _ | apply Drawn0.step)⟩

/-! ### Ones8: function 86 (by hand) -/
def ones (x : Nat) : Nat := x % 2 + x / 2 % 2 + x / 4 % 2 + x / 8 % 2 + x / 16 % 2 + x / 32 % 2 + x / 64 % 2 + x / 128 % 2
set_option maxRecDepth 100000 in
theorem ones_eq : ∀ n : Fin 256, Lib.onesCount n.val = ones n.val := by decide +kernel
def Ones8.f (a0 : Int) : Option Int := if 0 ≤ a0 then if a0 < 256 then some ((ones a0.toNat : Nat) : Int) else none else none
set_option maxRecDepth 100000 in
theorem Ones8.calls (a0 : Int) (r : Int) (w : World) (h : Ones8.f a0 = some r) :
    Calls Try.prog 86 #[.int .u8 a0] w fun e w' => e = .returned (.int .i64 r) ∧ Drawn0 w w' := by
  unfold Ones8.f at h; by_cases h0 : 0 ≤ a0
  · rw [if_pos h0] at h
    by_cases h1 : a0 < 256
    · rw [if_pos h1] at h
      obtain rfl := Option.some.inj h; clear h; have h2 : a0 ≤ 255 := by omega
      have he : ones a0.toNat = Lib.onesCount a0.toNat := (ones_eq ⟨a0.toNat, by omega⟩).symm; have hp : wrap64 (Lib.pop8 a0) = ((Lib.onesCount a0.toNat : Nat) : Int) := by
        have hp0 := Lib.pop8_int a0 h0 h2; unfold wrap64; exact hp0
      rw [he, ← hp]; clear he h1 hp; go_enter Try.func86, Try.ntmps86
      go_wp2
      go_ret
      exact ⟨rfl, Drawn0.refl _⟩
    · rw [if_neg h1] at h
      exact absurd h (by simp)
  · rw [if_neg h0] at h
    exact absurd h (by simp)

/-! ### mask_Count: function 45 -/
def mask_Count.l0 : Nat → Int → List Int → Int → Int → Option (Int)
 | 0, _, _, _, _ => none
 | k + 1, x3, x6, x7, x8 => if x8 < x7 then (if 0 ≤ x8 then (if x8 < (x6.length : Int) then ((Ones8.f (rd x6 x8)).bind fun t107 => (mask_Count.l0 k (wrap64 (x3 + t107)) x6 x7 (wrap64 (x8 + 1)))) else (none)) else (none)) else (some x3)
def mask_Count.f (k : Nat) (l0 : List Int) : Option (Int) := mask_Count.l0 k 0 l0 (l0.length : Int) 0
theorem mask_Count.mono_l : ∀ k, (∀ y0 y1 y2 y3, LeO (mask_Count.l0 k y0 y1 y2 y3) (mask_Count.l0 (k + 1) y0 y1 y2 y3))
 | 0 => fun _ _ _ _ r h => by simp [mask_Count.l0] at h
 | k + 1 => by
  have ih0 := mask_Count.mono_l k
  ·
   intro y0 y1 y2 y3; unfold mask_Count.l0
   repeat' first
   | (with_reducible exact ih0 _ _ _ _)
   | (with_reducible exact LeO.refl _)
   | (with_reducible exact LeO.none _)
   | (with_reducible refine LeO.ite ?_ ?_)
   | (with_reducible refine LeO.bind ?_ (fun _ => ?_))
   | exact ih0 _ _ _ _
   | exact LeO.none _
   | refine LeO.ite ?_ ?_
   | refine LeO.bind ?_ (fun _ => ?_)
theorem mask_Count.mono : ∀ a0 k, LeO (mask_Count.f k a0) (mask_Count.f (k + 1) a0) := by
 intro a0 k; have ih0 := mask_Count.mono_l k; unfold mask_Count.f
 repeat' first
   | (with_reducible exact ih0 _ _ _ _)
   | (with_reducible exact LeO.refl _)
   | (with_reducible exact LeO.none _)
   | (with_reducible refine LeO.ite ?_ ?_)
   | (with_reducible refine LeO.bind ?_ (fun _ => ?_))
   | exact ih0 _ _ _ _
   | exact LeO.none _
   | refine LeO.ite ?_ ?_
   | refine LeO.bind ?_ (fun _ => ?_)
set_option maxHeartbeats 8000000 in
set_option maxRecDepth 100000 in
theorem mask_Count.calls (k : Nat) (A0 : Option Addr) (c0 : Nat) (l0 : List Int) (r : Int) (w : World) (hr0 : Kd.C (Kd.int .u8) w A0 l0.length l0) (hc0 : l0.length ≤ c0) (h : mask_Count.f k l0 = some r) :
  Calls Try.prog 45 #[.slice A0 l0.length c0] w fun e w' => e = .returned (.int .i64 r) ∧ Drawn0 w w' := by
 have HR0 := Aside0.mk hr0; have HC0 := Aside0.mk hc0; clear hr0 hc0; have H : (mask_Count.l0 k 0 l0 (l0.length : Int) 0) = some r := h; clear h; have H' := Aside0.mk H; clear H; go_enter Try.func45, Try.ntmps45
 go_wp2
 go_loopg [3, 8] k (fun kq v3 v8 w' => ∃ (x3_1 : Int) (x8_1 : Int), v3 = .int .i64 x3_1 ∧ v8 = .int .i64 x8_1 ∧ Aside0 (mask_Count.l0 kq x3_1 l0 (l0.length : Int) x8_1 = some r) ∧ Aside0 (kq ≤ k) ∧ Drawn0 w w')
 case atStart => exact ⟨(0), (0), rf_, rf_, H', ⟨Nat.le_refl _⟩, by repeat (first | exact Drawn0.refl _ | apply Drawn0.step)⟩
 case round =>
  clear H'; obtain ⟨x3_1, x8_1, rfl, rfl, HA, HK1, ⟨m1, rfl⟩⟩ := hrel; cases gk with
  | zero => exact absurd HA.out (by simp [mask_Count.l0])
  | succ k1 =>
   have H := HA.out; clear HA; simp only [mask_Count.l0] at H; by_cases c2 : x8_1 < (l0.length : Int)
   ·
    rw [if_pos c2] at H; have c2b0 : decide (x8_1 < (l0.length : Int)) = true := decide_eq_true c2; clear c2; by_cases c3 : 0 ≤ x8_1
    rotate_left
    ·
     rw [if_neg c3] at H; exact absurd H (by simp)
    rw [if_pos c3] at H; have c3b0 : decide (0 ≤ x8_1) = true := decide_eq_true c3; clear c3; by_cases c4 : x8_1 < (l0.length : Int)
    rotate_left
    ·
     rw [if_neg c4] at H; exact absurd H (by simp)
    rw [if_pos c4] at H; have c4b0 : decide (x8_1 < (l0.length : Int)) = true := decide_eq_true c4; clear c4; replace H := Option.bind_eq_some_iff.mp H; obtain ⟨t107, A50, H⟩ := H; (try dsimp only at H); have A5 := Aside0.mk A50; clear A50; have H' := Aside0.mk H; clear H; have p106 : 0 ≤ (x8_1 : Int) := od_; have q106 : x8_1 < (l0.length : Int) := od_; obtain ⟨ad106, e106, hx106_0⟩ := Kd.at_int HR0.out x8_1 p106 q106; cases e106; replace p106 := eq_true p106; replace q106 := eq_true q106; go_wp2_with (first | ((with_reducible refine gate_callee (f := 86) rfl ?_); refine goesL_ (some 14) rfl rfl Try.func86 (by kernel_rfl) rfl #[.int .u8 (rd l0 x8_1)] rfl lm_ ?_; (with_reducible refine (Ones8.calls (rd l0 x8_1) t107 _ A5.out).mono ?_); rintro e w' ⟨rfl, ⟨nd, rfl⟩⟩; refine ⟨_, rfl, ?_⟩))
    go_roundg k1
    case measure => have := HK1.out; omega
    case rel => exact ⟨(wrap64 (x3_1 + t107)), (wrap64 (x8_1 + 1)), rf_, rf_, H', ⟨by have := HK1.out; omega⟩, by repeat (first | exact Drawn0.refl _ | apply Drawn0.step)⟩
   ·
    rw [if_neg c2] at H; have c2b0 : decide (x8_1 < (l0.length : Int)) = false := decide_eq_false c2; clear c2; obtain rfl := Option.some.inj H; go_wp2
    go_ret
    exact ⟨rf_, by repeat (first | exact Drawn0.refl _ | apply Drawn0.step)⟩

/-! ### mask_get: function 85 -/
def mask_get.f (l0 : List Int) (a1 : Int) : Option (Bool) := if a1 ≥ 0 then (if (wrap64 (Int.tdiv a1 8)) < (l0.length : Int) then (if 0 ≤ (wrap64 (Int.tdiv a1 8)) then (if 0 ≤ (Int.tmod a1 8) then (some ((Go.bits .and .u8 (shr .u8 (rd l0 (wrap64 (Int.tdiv a1 8))) (Int.tmod a1 8)) 1) == 1)) else (none)) else (none)) else (some false)) else (some false)
set_option maxHeartbeats 8000000 in
set_option maxRecDepth 100000 in
theorem mask_get.calls (A0 : Option Addr) (c0 : Nat) (l0 : List Int) (a1 : Int) (r : Bool) (w : World) (hr0 : Kd.C (Kd.int .u8) w A0 l0.length l0) (hc0 : l0.length ≤ c0) (h : mask_get.f l0 a1 = some r) :
  Calls Try.prog 85 #[.slice A0 l0.length c0, .int .i64 a1] w fun e w' => e = .returned (.bool r) ∧ Drawn0 w w' := by
 have HR0 := Aside0.mk hr0; have HC0 := Aside0.mk hc0; clear hr0 hc0; have H : (if a1 ≥ 0 then (if (wrap64 (Int.tdiv a1 8)) < (l0.length : Int) then (if 0 ≤ (wrap64 (Int.tdiv a1 8)) then (if 0 ≤ (Int.tmod a1 8) then (some ((Go.bits .and .u8 (shr .u8 (rd l0 (wrap64 (Int.tdiv a1 8))) (Int.tmod a1 8)) 1) == 1)) else (none)) else (none)) else (some false)) else (some false)) = some r := h; clear h; by_cases c3 : a1 ≥ 0
 ·
  rw [if_pos c3] at H; have c3b0 : decide (0 ≤ a1) = true := decide_eq_true c3; clear c3; by_cases c4 : (wrap64 (Int.tdiv a1 8)) < (l0.length : Int)
  ·
   rw [if_pos c4] at H; have c4b0 : decide ((wrap64 (Int.tdiv a1 8)) < (l0.length : Int)) = true := decide_eq_true c4; clear c4; obtain ⟨ji5, hji5⟩ : ∃ j_ : Int, (wrap64 (Int.tdiv a1 8)) = j_ := ⟨_, rfl⟩; replace H : (if 0 ≤ (ji5) then (if 0 ≤ (Int.tmod a1 8) then (some ((Go.bits .and .u8 (shr .u8 (rd l0 (ji5)) (Int.tmod a1 8)) 1) == 1)) else (none)) else (none)) = some r := by first | (rw [hji5] at H; exact H) | (simp only [hji5] at H ⊢; exact H)
   (try rw [hji5] at c4b0)
   have hji5w : (IntKind.i64.wrap (Int.tdiv a1 8)) = ji5 := (i64_w _).trans hji5; by_cases c6 : 0 ≤ (ji5)
   rotate_left
   ·
    rw [if_neg c6] at H; exact absurd H (by simp)
   rw [if_pos c6] at H; have c6b0 : decide (0 ≤ (ji5)) = true := decide_eq_true c6; clear c6; obtain ⟨ji7, hji7⟩ : ∃ j_ : Int, (Int.tmod a1 8) = j_ := ⟨_, rfl⟩; replace H : (if 0 ≤ (ji7) then (some ((Go.bits .and .u8 (shr .u8 (rd l0 (ji5)) (ji7)) 1) == 1)) else (none)) = some r := by first | (rw [hji7] at H; exact H) | (simp only [hji7] at H ⊢; exact H)
   by_cases c8 : 0 ≤ (ji7)
   rotate_left
   ·
    rw [if_neg c8] at H; exact absurd H (by simp)
   rw [if_pos c8] at H; have c8b0 := eq_true c8; have c8b1 : decide (0 ≤ (ji7)) = true := decide_eq_true c8; clear c8; obtain ⟨ji9, hji9⟩ : ∃ j_ : Int, (shr .u8 (rd l0 (ji5)) (ji7)) = j_ := ⟨_, rfl⟩; replace H : (some ((Go.bits .and .u8 (ji9) 1) == 1)) = some r := by first | (rw [hji9] at H; exact H) | (simp only [hji9] at H ⊢; exact H)
   have hji9_ : ((rd l0 (ji5)) / 2 ^ min (ji7).toNat 8) = ji9 := hji9; have hji9z : (ji7) ≤ 8 → ((rd l0 (ji5)) / 2 ^ (ji7).toNat) = ji9 := shr_small hji9; obtain rfl := Option.some.inj H; have p108 : 0 ≤ ((ji5) : Int) := od_; have q108 : (ji5) < (l0.length : Int) := od_; obtain ⟨ad108, e108, hx108_0⟩ := Kd.at_int HR0.out (ji5) p108 q108; cases e108; replace p108 := eq_true p108; replace q108 := eq_true q108; go_enter Try.func85, Try.ntmps85
   go_wp2
   go_ret
   exact ⟨by first | rfl | (simp; done) | (simp only [← hji5, ← hji7, ← hji9] <;> (first | rfl | simp)) | (simp [*]; done), by repeat (first | exact Drawn0.refl _ | apply Drawn0.step)⟩
  ·
   rw [if_neg c4] at H; have c4b0 : decide ((wrap64 (Int.tdiv a1 8)) < (l0.length : Int)) = false := decide_eq_false c4; clear c4; obtain rfl := Option.some.inj H; go_enter Try.func85, Try.ntmps85
   go_wp2
   go_ret
   exact ⟨rf_, by repeat (first | exact Drawn0.refl _ | apply Drawn0.step)⟩
 ·
  rw [if_neg c3] at H; have c3b0 : decide (0 ≤ a1) = false := decide_eq_false c3; clear c3; obtain rfl := Option.some.inj H; go_enter Try.func85, Try.ntmps85
  go_wp2
  go_ret
  exact ⟨rf_, by repeat (first | exact Drawn0.refl _ | apply Drawn0.step)⟩

/-! ### mask_Bits: function 44 -/
mutual
def mask_Bits.j0 : Nat → List Int → Int → Bool → Option (List Int × Bool)
 | 0, _, _, _ => none
 | k + 1, x0, x1, x15 => if x15 = true then (some (([] : List Int), false)) else (mask_Bits.l0 k x0 x1 ([] : List Int) 0)
def mask_Bits.l0 : Nat → List Int → Int → List Int → Int → Option (List Int × Bool)
 | 0, _, _, _, _ => none
 | k + 1, x0, x1, x6, x7 => if (x6.length : Int) < x1 then ((mask_get.f x0 x7).bind fun t110 => (if t110 = true then (if x6.length < 17592186044416 then (mask_Bits.l0 k x0 x1 (x6 ++ [x7]) (wrap64 (x7 + 1))) else (none)) else (mask_Bits.l0 k x0 x1 x6 (wrap64 (x7 + 1))))) else (some (x6, true))
end
def mask_Bits.f (k : Nat) (l0 : List Int) (a1 : Int) : Option (List Int × Bool) := if a1 < 0 then (mask_Bits.j0 k l0 a1 true) else ((mask_Count.f k l0).bind fun t109 => (mask_Bits.j0 k l0 a1 (decide (a1 > t109))))
theorem mask_Bits.mono_l : ∀ k, (∀ y0 y1 y2, LeO (mask_Bits.j0 k y0 y1 y2) (mask_Bits.j0 (k + 1) y0 y1 y2)) ∧ (∀ y0 y1 y2 y3, LeO (mask_Bits.l0 k y0 y1 y2 y3) (mask_Bits.l0 (k + 1) y0 y1 y2 y3))
 | 0 => ⟨fun _ _ _ r h => by simp [mask_Bits.j0] at h, fun _ _ _ _ r h => by simp [mask_Bits.l0] at h⟩
 | k + 1 => by
  obtain ⟨ih0, ih1⟩ := mask_Bits.mono_l k; refine ⟨?_, ?_⟩
  ·
   intro y0 y1 y2; unfold mask_Bits.j0
   repeat' first
   | (with_reducible exact ih0 _ _ _)
   | (with_reducible exact ih1 _ _ _ _)
   | (with_reducible exact mask_Count.mono _ _)
   | (with_reducible exact LeO.refl _)
   | (with_reducible exact LeO.none _)
   | (with_reducible refine LeO.ite ?_ ?_)
   | (with_reducible refine LeO.bind ?_ (fun _ => ?_))
   | exact ih0 _ _ _
   | exact ih1 _ _ _ _
   | exact mask_Count.mono _ _
   | exact LeO.none _
   | refine LeO.ite ?_ ?_
   | refine LeO.bind ?_ (fun _ => ?_)
  ·
   intro y0 y1 y2 y3; unfold mask_Bits.l0
   repeat' first
   | (with_reducible exact ih0 _ _ _)
   | (with_reducible exact ih1 _ _ _ _)
   | (with_reducible exact mask_Count.mono _ _)
   | (with_reducible exact LeO.refl _)
   | (with_reducible exact LeO.none _)
   | (with_reducible refine LeO.ite ?_ ?_)
   | (with_reducible refine LeO.bind ?_ (fun _ => ?_))
   | exact ih0 _ _ _
   | exact ih1 _ _ _ _
   | exact mask_Count.mono _ _
   | exact LeO.none _
   | refine LeO.ite ?_ ?_
   | refine LeO.bind ?_ (fun _ => ?_)
theorem mask_Bits.mono : ∀ a0 a1 k, LeO (mask_Bits.f k a0 a1) (mask_Bits.f (k + 1) a0 a1) := by
 intro a0 a1 k; obtain ⟨ih0, ih1⟩ := mask_Bits.mono_l k; unfold mask_Bits.f
 repeat' first
   | (with_reducible exact ih0 _ _ _)
   | (with_reducible exact ih1 _ _ _ _)
   | (with_reducible exact mask_Count.mono _ _)
   | (with_reducible exact LeO.refl _)
   | (with_reducible exact LeO.none _)
   | (with_reducible refine LeO.ite ?_ ?_)
   | (with_reducible refine LeO.bind ?_ (fun _ => ?_))
   | exact ih0 _ _ _
   | exact ih1 _ _ _ _
   | exact mask_Count.mono _ _
   | exact LeO.none _
   | refine LeO.ite ?_ ?_
   | refine LeO.bind ?_ (fun _ => ?_)
set_option maxHeartbeats 8000000 in
set_option maxRecDepth 100000 in
theorem mask_Bits.calls (k : Nat) (A0 : Option Addr) (c0 : Nat) (l0 : List Int) (a1 : Int) (r1 : List Int) (r2 : Bool) (w : World) (hr0 : Kd.C (Kd.int .u8) w A0 l0.length l0) (hc0 : l0.length ≤ c0) (h : mask_Bits.f k l0 a1 = some (r1, r2)) :
  Calls Try.prog 44 #[.slice A0 l0.length c0, .int .i64 a1] w fun e w' => ∃ v0_ : Value, e = .returned (.tuple #[v0_, .bool r2]) ∧ Kd.R (Kd.int .i64) 3 w' w.heap.size (fun _ => True) v0_ r1 ∧ Below w.heap.size w w' := by
 have HR0 := Aside0.mk hr0; have HC0 := Aside0.mk hc0; clear hr0 hc0; have HB := Aside0.mk (Below.refl w.heap.size w); have H : (if a1 < 0 then (mask_Bits.j0 k l0 a1 true) else ((mask_Count.f k l0).bind fun t109 => (mask_Bits.j0 k l0 a1 (decide (a1 > t109))))) = some (r1, r2) := h; clear h; have HC3 := Aside0.mk H; clear H; go_enter Try.func44, Try.ntmps44
 go_upto_region 1 with (fail)
 go_cut [15] (fun v15 wc => ∃ (kq : Nat) (x15_2 : Bool), v15 = .bool x15_2 ∧ Aside0 (mask_Bits.j0 kq l0 a1 x15_2 = some (r1, r2)) ∧ Aside0 (kq ≤ k) ∧ Aside0 (Below w.heap.size w wc))
 case first =>
  have H := HC3.out; clear HC3; by_cases c4 : a1 < 0
  ·
   rw [if_pos c4] at H; have c4b0 : decide (a1 < 0) = true := decide_eq_true c4; clear c4; (first | rw [c4b0] | (simp only [i64_w, i32_w]; rw [c4b0]) | skip)
   have H' := Aside0.mk H; clear H; go_wp2
   go_meet
   case rel => exact ⟨_, (true), rf_, H', ⟨om_⟩, ⟨(hb0_ HB.out)⟩⟩
  ·
   rw [if_neg c4] at H; have c4b0 : decide (a1 < 0) = false := decide_eq_false c4; clear c4; (first | rw [c4b0] | (simp only [i64_w, i32_w]; rw [c4b0]) | skip)
   replace H := Option.bind_eq_some_iff.mp H; obtain ⟨t109, A50, H⟩ := H; (try dsimp only at H); have A5 := Aside0.mk A50; clear A50; have H' := Aside0.mk H; clear H; go_wp2_with (first | (go_at_call 45; (with_reducible refine (mask_Count.calls k _ _ l0 t109 _ ?side1 ?side2 A5.out).mono ?_); (case side1 => exact kD_ (Kd.C_below HR0.out HB.out)); (case side2 => exact HC0.out); rintro e w' ⟨rfl, ⟨nd, rfl⟩⟩))
   go_meet
   case rel => exact ⟨_, (decide (a1 > t109)), rf_, H', ⟨om_⟩, ⟨(hb0_ HB.out)⟩⟩
 case rest =>
  clear HC3; try clear p2
  try clear c4
  try clear c4b0
  obtain ⟨kq, x15_2, rfl, HA, HJ2, HB⟩ := hcut; cases kq with
  | zero => exact absurd HA.out (by simp [mask_Bits.j0])
  | succ kj2 =>
   have H := HA.out; clear HA; simp only [mask_Bits.j0] at H; by_cases c6 : x15_2 = true
   ·
    subst c6; have H1 : (some (([] : List Int), false)) = some (r1, r2) := by rw [if_pos rfl] at H; exact H
    clear H; have H := H1; clear H1; simp only [Option.some.injEq, Prod.mk.injEq] at H; obtain ⟨rfl, rfl⟩ := H; go_wp2
    go_ret2
    exact ⟨_, by first | rfl | (simp [errW_none, errW_some] <;> rfl) | (simp [*, errW_none, errW_some] <;> rfl), by first | exact Kd.R_nil _ _ _ _ _ | exact Kd.N_nil _ _ _ _ _ | exact Kd.V_nil _ _ _ _ _ | exact Kd.Q_nil _ _ _ _ _ | exact Kd.S_nil _ _ _ _ _, (hb0_ HB.out)⟩
   ·
    replace c6 := Bool.eq_false_iff.mpr c6; subst c6; have H1 : (mask_Bits.l0 kj2 l0 a1 ([] : List Int) 0) = some (r1, r2) := by rw [if_neg (show ¬ (false = true) by decide)] at H; exact H
    clear H; have H := H1; clear H1; have H' := Aside0.mk H; clear H; go_wp2
    go_loopg [6, 7] kj2 (fun kq v6 v7 w' => ∃ (x6_2 : List Int) (x7_2 : Int), v7 = .int .i64 x7_2 ∧ Aside0 (mask_Bits.l0 kq l0 a1 x6_2 x7_2 = some (r1, r2)) ∧ Aside0 (kq ≤ kj2) ∧ Aside0 (Kd.R (Kd.int .i64) 3 w' w.heap.size (fun _ => True) v6 x6_2) ∧ Aside0 (Below w.heap.size w w'))
    case atStart => exact ⟨(([] : List Int)), (0), rf_, H', ⟨Nat.le_refl _⟩, ⟨by first | exact Kd.R_nil _ _ _ _ _ | exact Kd.N_nil _ _ _ _ _ | exact Kd.V_nil _ _ _ _ _ | exact Kd.Q_nil _ _ _ _ _ | exact Kd.S_nil _ _ _ _ _⟩, ⟨(hb0_ HB.out)⟩⟩
    case round =>
     clear H'; try clear p2
     try clear c4
     try clear c4b0
     try clear c6
     try clear p2
     obtain ⟨x6_2, x7_2, rfl, HA, HK2, HO_6, HB⟩ := hrel; cases gk with
     | zero => exact absurd HA.out (by simp [mask_Bits.l0])
     | succ k2 =>
      have H := HA.out; clear HA; simp only [mask_Bits.l0] at H; by_cases c7 : (x6_2.length : Int) < a1
      ·
       rw [if_pos c7] at H; have c7b0 : decide ((x6_2.length : Int) < a1) = true := decide_eq_true c7; clear c7; replace H := Option.bind_eq_some_iff.mp H; obtain ⟨t110, A80, H⟩ := H; (try dsimp only at H); have A8 := Aside0.mk A80; clear A80; by_cases c9 : t110 = true
       ·
        subst c9; have H1 : (if x6_2.length < 17592186044416 then (mask_Bits.l0 k2 l0 a1 (x6_2 ++ [x7_2]) (wrap64 (x7_2 + 1))) else (none)) = some (r1, r2) := by rw [if_pos rfl] at H; exact H
        clear H; have H := H1; clear H1; by_cases c10 : x6_2.length < 17592186044416
        rotate_left
        ·
         rw [if_neg c10] at H; exact absurd H (by simp)
        rw [if_pos c10] at H; have LMc10 := Aside0.mk c10; clear c10; obtain ⟨y111, hy111⟩ : ∃ y_ : List Int, y_ = (x6_2 ++ [x7_2]) := ⟨_, rfl⟩; replace H : (mask_Bits.l0 k2 l0 a1 y111 (wrap64 (x7_2 + 1))) = some (r1, r2) := by first | (rw [hy111]; with_reducible exact H) | (have H2_ := (Option.bind_some _ _).symm.trans H; rw [hy111]; with_reducible exact H2_) | (have H2_ := (Option.bind_some _ _).symm.trans H; with_reducible exact H2_) | with_reducible exact H | (rw [hy111]; exact H) | exact H
        have Ny111 := Aside0.mk hy111; clear hy111; have H' := Aside0.mk H; clear H; obtain ⟨Ao11, co11, eo11⟩ := Kd.R_slice HO_6.out; subst eo11; go_wp2_with (first | ((with_reducible refine gate_callee (f := 85) rfl ?_); refine goesL_ (some 24) rfl rfl Try.func85 (by kernel_rfl) rfl #[.slice A0 l0.length c0, .int .i64 x7_2] rfl lm_ ?_; (with_reducible refine (mask_get.calls _ _ l0 x7_2 true _ ?side1 ?side2 A8.out).mono ?_); (case side1 => exact kD_ (Kd.C_below HR0.out HB.out)); (case side2 => exact HC0.out); rintro e w' ⟨rfl, ⟨nd, rfl⟩⟩; refine ⟨_, rfl, ?_⟩) | ((with_reducible refine gate_builtin (b := .append) (xs := #[.tmp 25, .tmp 27]) rfl ?_); at_builtin; refine Kd.R_append (Kd.int .i64) (w0 := w) w.heap.size rfl (.tmp 25) (.tmp 27) 23 3 (.int .i64 0) 8 rfl Try.underlying23 info3 rfl (by decide) (by omega) (.slice Ao11 x6_2.length co11) x6_2 x7_2 [.int .i64 x7_2] (fun _ => True) (fun _ => False) rfl rfl ?aP (fun _ hk => hk.elim) ?aF ?aO ?aB ?aS ?aL ?_; (case aP => exact rfl); (case aB => exact (hb0_ HB.out)); (case aF => exact (fun _ _ => trivial)); (case aO => exact (kR_ HO_6.out)); (case aS => exact (below_size (hb0_ HB.out))); (case aL => have := LMc10.out; omega); intro v112 w12 ho hb hg hat; rw [← Ny111.out] at ho; have n0_ := Aside0.mk (hb); have n1_ := Aside0.mk (ho); clear HB HO_6; revert n0_ n1_; intro HB HO113; clear ho hb hg hat))
        go_roundg k2
        case measure => have := HJ2.out; have := HK2.out; omega
        case rel => exact ⟨(y111), (wrap64 (x7_2 + 1)), rf_, H', ⟨by have := HJ2.out; have := HK2.out; omega⟩, ⟨by (with_reducible repeat (first | apply Kd.R_alloc | apply Kd.R_drewN | apply Kd.R_drew)); exact HO113.out⟩, ⟨(hb0_ HB.out)⟩⟩
       ·
        replace c9 := Bool.eq_false_iff.mpr c9; subst c9; have H1 : (mask_Bits.l0 k2 l0 a1 x6_2 (wrap64 (x7_2 + 1))) = some (r1, r2) := by rw [if_neg (show ¬ (false = true) by decide)] at H; exact H
        clear H; have H := H1; clear H1; have H' := Aside0.mk H; clear H; obtain ⟨Ao13, co13, eo13⟩ := Kd.R_slice HO_6.out; subst eo13; go_wp2_with (first | ((with_reducible refine gate_callee (f := 85) rfl ?_); refine goesL_ (some 24) rfl rfl Try.func85 (by kernel_rfl) rfl #[.slice A0 l0.length c0, .int .i64 x7_2] rfl lm_ ?_; (with_reducible refine (mask_get.calls _ _ l0 x7_2 false _ ?side1 ?side2 A8.out).mono ?_); (case side1 => exact kD_ (Kd.C_below HR0.out HB.out)); (case side2 => exact HC0.out); rintro e w' ⟨rfl, ⟨nd, rfl⟩⟩; refine ⟨_, rfl, ?_⟩))
        go_roundg k2
        case measure => have := HJ2.out; have := HK2.out; omega
        case rel => exact ⟨(x6_2), (wrap64 (x7_2 + 1)), rf_, H', ⟨by have := HJ2.out; have := HK2.out; omega⟩, ⟨by (with_reducible repeat (first | apply Kd.R_alloc | apply Kd.R_drewN | apply Kd.R_drew)); exact HO_6.out⟩, ⟨(hb0_ HB.out)⟩⟩
      ·
       rw [if_neg c7] at H; have c7b0 : decide ((x6_2.length : Int) < a1) = false := decide_eq_false c7; clear c7; simp only [Option.some.injEq, Prod.mk.injEq] at H; obtain ⟨rfl, rfl⟩ := H; obtain ⟨Ao14, co14, eo14⟩ := Kd.R_slice HO_6.out; subst eo14; go_wp2
       go_ret2
       exact ⟨_, by first | rfl | (simp [errW_none, errW_some] <;> rfl) | (simp [*, errW_none, errW_some] <;> rfl), by (with_reducible repeat (first | apply Kd.R_alloc | apply Kd.R_drewN | apply Kd.R_drew)); exact HO_6.out, (hb0_ HB.out)⟩

/-! ### CloneB: function 81 (by hand) -/
def CloneB.f (l0 : List Int) : Option (List Int) := if l0.length < 140737488355328 then some l0 else none
theorem CloneB.nilrun (A : Option Addr) (n c : Nat) (W : World) : (binOp .eql 27 (.slice A n c) (.slice none 0 0)).run Try.prog W = .ok (.bool A.isNone) W := Lib.run_eql_slice_nil W 27 5 A n c 0 0 Try.underlying27
set_option maxHeartbeats 8000000 in
set_option maxRecDepth 100000 in
theorem CloneB.calls (A0 : Option Addr) (c0 : Nat) (l0 : List Int) (r : List Int) (w : World) (hr0 : Kd.C (Kd.int .u8) w A0 l0.length l0) (hc0 : l0.length ≤ c0) (h : CloneB.f l0 = some r) :
    Calls Try.prog 81 #[.slice A0 l0.length c0] w fun e w' => ∃ v0_ : Value, e = .returned (v0_) ∧ Kd.R (Kd.int .u8) 5 w' w.heap.size (fun _ => True) v0_ r ∧ Below w.heap.size w w' := by
  have HR0 := Aside0.mk hr0; have HC0 := Aside0.mk hc0; clear hc0; have HB := Aside0.mk (Below.refl w.heap.size w); unfold CloneB.f at h; by_cases c2 : l0.length < 140737488355328
  · rw [if_pos c2] at h
    obtain rfl := Option.some.inj h; clear h; cases A0 with
    | none =>
      have h0 : l0 = [] := by
        rcases Nat.eq_zero_or_pos l0.length with h0 | h0
        · exact List.eq_nil_of_length_eq_zero h0
        · obtain ⟨ad, c, e, _⟩ := Kd.C_get hr0 (0 : Int) 0 (by omega) (by omega)
          cases e
      subst h0; clear hr0 c2; have hn := CloneB.nilrun none 0 c0; simp only [List.length_nil]; simp only [Option.isNone_none] at hn; go_enter Try.func81, Try.ntmps81
      go_wp2
      go_ret
      exact ⟨_, rfl, Kd.R_nil _ _ _ _ _, HB.out⟩
    | some ad =>
      clear hr0; have hn := CloneB.nilrun (some ad) l0.length c0; simp only [Option.isNone_some] at hn; have LMc2 := Aside0.mk c2; clear c2; obtain ⟨y109, hy109⟩ : ∃ y_ : List Int, y_ = (([] : List Int)) := ⟨_, rfl⟩; have Ny109 := Aside0.mk hy109; clear hy109; obtain ⟨y112, hy112⟩ : ∃ y_ : List Int, y_ = (y109 ++ l0) := ⟨_, rfl⟩; have Ny112 := Aside0.mk hy112; clear hy112; go_enter Try.func81, Try.ntmps81
      go_wp2_with (first | ((with_reducible refine gate_dst (N := 5) rfl ?_); refine Kd.R_lit (Kd.int .u8) _ 5 ?hg (N := 5) ?hd (xs := ([] : List Int)) (inner := []) (ok := fun _ => True) (okp := fun _ => True) ?hr ?hp (fun _ hk => hk) trivial (Below.refl _ _) (Nat.le_refl _) (by simp) ?_; (case hd => rfl); (case hg => rfl); (case hr => first | (go_simp; done) | (go_simp; rfl)); (case hp => exact (Reps.none _ _)); intro v110 w3 ho4 hb hg_ hnew_; clear hg_ hnew_; (first | rw [← Ny109.out] at ho4 | (simp only [Int.reduceToNat] at ho4; rw [← Ny109.out] at ho4)); have n0_ := Aside0.mk (Kd.R_lower ho4 (below_size (hb0_ HB.out))); have n1_ := Aside0.mk (below_step (hb0_ HB.out) hb); clear HB; revert n0_ n1_; intro HO111 HB; clear hb ho4) | ((with_reducible refine gate_builtin (b := .append) (xs := #[.tmp 5, .tmp 6]) rfl ?_); at_builtin; refine Kd.R_append_rows (Kd.int .u8) (w0 := w) w.heap.size rfl (.tmp 5) (.tmp 6) 27 5 (.int .u8 0) 1 rfl Try.underlying27 info5 rfl (by decide) (by omega) v110 y109 l0 _ _ _ (fun _ => True) (fun _ => False) rfl rfl ?aO ?aR (fun _ _ h => h) (fun _ h => h.elim) ?aF ?aB ?aS ?aL ?_; (case aR => repeat (first | exact (Kd.C_below HR0.out HB.out) | (with_reducible refine Kd.C_alloc ?_ _) | (with_reducible refine Kd.C_drewN ?_ _) | (with_reducible refine Kd.C_drew ?_))); (case aB => exact (hb0_ HB.out)); (case aF => exact (fun _ _ => trivial)); (case aO => exact (kR_ HO111.out)); (case aS => exact (below_size (hb0_ HB.out))); (case aL => have := LMc2.out; have h1_ := Ny109.out; (rw [h1_]); simp only [List.length_nil]; omega); intro v113 w5 ho hb hg hat; rw [← Ny112.out] at ho; have n0_ := Aside0.mk (hb); have n1_ := Aside0.mk (ho); clear HB HO111; revert n0_ n1_; intro HB HO114; clear ho hb hg hat))
      have hl0 : y112 = l0 := by rw [Ny112.out, Ny109.out]; rfl
      rw [hl0] at HO114; go_ret
      exact ⟨_, rfl, by (with_reducible repeat (first | apply Kd.R_alloc | apply Kd.R_drewN | apply Kd.R_drew)); exact HO114.out, (hb0_ HB.out)⟩
  · rw [if_neg c2] at h
    exact absurd h (by simp)

open List (setIfInBounds_toArray set_cons_zero set_cons_succ)
/-! ### mask_set: function 88 -/
def mask_set.j0 : Nat → List Int → Int → Bool → Bool → Option (List Int)
 | 0, _, _, _, _ => none
 | k + 1, x0, x1, x2, x14 => if x14 = true then (some x0) else (if 0 ≤ (wrap64 (Int.tdiv x1 8)) then (if (wrap64 (Int.tdiv x1 8)) < (x0.length : Int) then (if 0 ≤ (Int.tmod x1 8) then ((some (x0.set ((wrap64 (Int.tdiv x1 8)) : Int).toNat (Go.bits .andNot .u8 (rd x0 (wrap64 (Int.tdiv x1 8))) (shl .u8 1 (Int.tmod x1 8))) : List Int)).bind fun y115 => (if x2 = true then (some (y115.set ((wrap64 (Int.tdiv x1 8)) : Int).toNat (Go.bits .or .u8 (rd y115 (wrap64 (Int.tdiv x1 8))) (shl .u8 1 (Int.tmod x1 8))))) else (some y115))) else (none)) else (none)) else (none))
def mask_set.f (k : Nat) (l0 : List Int) (a1 : Int) (a2 : Bool) : Option (List Int) := if a1 < 0 then (mask_set.j0 k l0 a1 a2 true) else (mask_set.j0 k l0 a1 a2 (decide ((wrap64 (Int.tdiv a1 8)) ≥ (l0.length : Int))))
theorem mask_set.mono_l : ∀ k, (∀ y0 y1 y2 y3, LeO (mask_set.j0 k y0 y1 y2 y3) (mask_set.j0 (k + 1) y0 y1 y2 y3))
 | 0 => fun _ _ _ _ r h => by simp [mask_set.j0] at h
 | k + 1 => by
  have ih0 := mask_set.mono_l k
  ·
   intro y0 y1 y2 y3; unfold mask_set.j0
   repeat' first
   | (with_reducible exact ih0 _ _ _ _)
   | (with_reducible exact LeO.refl _)
   | (with_reducible exact LeO.none _)
   | (with_reducible refine LeO.ite ?_ ?_)
   | (with_reducible refine LeO.bind ?_ (fun _ => ?_))
   | exact ih0 _ _ _ _
   | exact LeO.none _
   | refine LeO.ite ?_ ?_
   | refine LeO.bind ?_ (fun _ => ?_)
theorem mask_set.mono : ∀ a0 a1 a2 k, LeO (mask_set.f k a0 a1 a2) (mask_set.f (k + 1) a0 a1 a2) := by
 intro a0 a1 a2 k; have ih0 := mask_set.mono_l k; unfold mask_set.f
 repeat' first
   | (with_reducible exact ih0 _ _ _ _)
   | (with_reducible exact LeO.refl _)
   | (with_reducible exact LeO.none _)
   | (with_reducible refine LeO.ite ?_ ?_)
   | (with_reducible refine LeO.bind ?_ (fun _ => ?_))
   | exact ih0 _ _ _ _
   | exact LeO.none _
   | refine LeO.ite ?_ ?_
   | refine LeO.bind ?_ (fun _ => ?_)
def mask_set.T1 : Bool × List (List Nat × List Nat) := (true, [([], []), ([], []), ([1], [1]), ([0, 2], [0, 2]), ([3], [3]), ([], []), ([5], [5]), ([6], [6]), ([4, 7], [4, 7]), ([0, 2, 0, 1, 2, 3, 4, 5, 6, 7, 8], [0, 2]), ([9, 8, 0, 1, 2, 3, 4, 5, 6, 7, 8], [8, 9])])
def mask_set.B1 : List Nat := [0, 0, 2, 7, 15, 0, 32, 96, 255, 511, 1023]
theorem mask_set.tab1 : rtab .any (opsOf Try.f88 1) = mask_set.T1 := by kernel_rfl
theorem mask_set.bits1 : waitsOk mask_set.T1.2 mask_set.B1 = true := by kernel_rfl
def mask_set.T3 : Bool × List (List Nat × List Nat) := (true, [([], []), ([], []), ([1], [1]), ([0, 2], [0, 2]), ([3], [3]), ([], []), ([5], [5]), ([6], [6]), ([4, 7], [4, 7]), ([0, 2, 0, 1, 2, 3, 4, 5, 6, 7, 8], [0, 2]), ([9, 8, 0, 1, 2, 3, 4, 5, 6, 7, 8], [8, 9])])
def mask_set.B3 : List Nat := [0, 0, 2, 7, 15, 0, 32, 96, 255, 511, 1023]
theorem mask_set.tab3 : rtab .any (opsOf Try.f88 3) = mask_set.T3 := by kernel_rfl
theorem mask_set.bits3 : waitsOk mask_set.T3.2 mask_set.B3 = true := by kernel_rfl
set_option maxHeartbeats 8000000 in
set_option maxRecDepth 100000 in
theorem mask_set.calls (k : Nat) (P0_ : Nat → Prop) (u9000_ : Value) (l0 : List Int) (a1 : Int) (a2 : Bool) (r : List Int) (w0 w : World) (hB : Below w0.heap.size w0 w) (ho0 : Kd.R (Kd.int .u8) 5 w w0.heap.size P0_ u9000_ l0) (h : mask_set.f k l0 a1 a2 = some r) :
  Calls Try.prog 88 #[u9000_, .int .i64 a1, .bool a2] w fun e w' => e = .returned (.tuple #[]) ∧ Kd.R (Kd.int .u8) 5 w' w0.heap.size (fun k_ => (P0_ k_ ∨ w.heap.size ≤ k_)) u9000_ r ∧ Below w0.heap.size w0 w' ∧ Kept w w' (fun k_ => P0_ k_) := by
 have HO0 := Aside0.mk (show Kd.R (Kd.int .u8) 5 w w0.heap.size (fun k_ => (P0_ k_ ∨ w.heap.size ≤ k_)) u9000_ l0 from Kd.R_mono ho0 (fun k_ hk => (.inl hk))); have HK := Aside0.mk (Kept.refl w (fun k_ => P0_ k_)); have HW0 := Aside0.mk hB.size; have HB := Aside0.mk hB; clear hB; have H : (if a1 < 0 then (mask_set.j0 k l0 a1 a2 true) else (mask_set.j0 k l0 a1 a2 (decide ((wrap64 (Int.tdiv a1 8)) ≥ (l0.length : Int))))) = some r := h; clear h; have HC4 := Aside0.mk H; clear H; go_enter Try.func88, Try.ntmps88
 go_upto_region 0 with (fail)
 go_cut [14] (fun v14 wc => ∃ (kq : Nat) (x14_3 : Bool), v14 = .bool x14_3 ∧ Aside0 (mask_set.j0 kq l0 a1 a2 x14_3 = some r) ∧ Aside0 (kq ≤ k) ∧ Aside0 (Kd.R (Kd.int .u8) 5 wc w0.heap.size (fun k_ => (P0_ k_ ∨ w.heap.size ≤ k_)) u9000_ l0) ∧ Aside0 (Kept w wc (fun k_ => P0_ k_)) ∧ Aside0 (Below w0.heap.size w0 wc))
 case first =>
  have H := HC4.out; clear HC4; by_cases c5 : a1 < 0
  ·
   rw [if_pos c5] at H; have c5b0 : decide (a1 < 0) = true := decide_eq_true c5; clear c5; (first | rw [c5b0] | (simp only [i64_w, i32_w]; rw [c5b0]) | skip)
   have H' := Aside0.mk H; clear H; go_wp2
   go_meet
   case rel => exact ⟨_, (true), rf_, H', ⟨om_⟩, ⟨by (with_reducible repeat (first | apply Kd.R_alloc | apply Kd.R_drewN | apply Kd.R_drew)); exact HO0.out⟩, ⟨by repeat (first | (with_reducible first | exact HK.out | apply Kept.alloc | apply Kept.drewN | apply Kept.drew) | exact HK.out)⟩, ⟨(hb0_ HB.out)⟩⟩
  ·
   rw [if_neg c5] at H; have c5b0 : decide (a1 < 0) = false := decide_eq_false c5; clear c5; (first | rw [c5b0] | (simp only [i64_w, i32_w]; rw [c5b0]) | skip)
   have H' := Aside0.mk H; clear H; obtain ⟨Ao6, co6, eo6⟩ := Kd.R_slice HO0.out; subst eo6; go_wp2
   go_meet
   case rel => exact ⟨_, (decide ((wrap64 (Int.tdiv a1 8)) ≥ (l0.length : Int))), rf_, H', ⟨om_⟩, ⟨by (with_reducible repeat (first | apply Kd.R_alloc | apply Kd.R_drewN | apply Kd.R_drew)); exact HO0.out⟩, ⟨by repeat (first | (with_reducible first | exact HK.out | apply Kept.alloc | apply Kept.drewN | apply Kept.drew) | exact HK.out)⟩, ⟨(hb0_ HB.out)⟩⟩
 case rest =>
  clear HC4; try clear p2
  try clear c5
  try clear c5b0
  try clear p6
  obtain ⟨kq, x14_3, rfl, HA, HJ3, HO_0, HK, HB⟩ := hcut; cases kq with
  | zero => exact absurd HA.out (by simp [mask_set.j0])
  | succ kj3 =>
   have H := HA.out; clear HA; simp only [mask_set.j0] at H; by_cases c7 : x14_3 = true
   ·
    subst c7; have H1 : (some l0) = some r := by rw [if_pos rfl] at H; exact H
    clear H; have H := H1; clear H1; obtain rfl := Option.some.inj H; go_wp2
    first | go_end0 | ((try simp only [Exit.inBlock, Exit.then]); refine bodyPost_ret (results_none rfl _ _ _) rfl ?_)
    exact ⟨by first | rfl | (simp [errW_none, errW_some] <;> rfl) | (simp [*, errW_none, errW_some] <;> rfl), by (with_reducible repeat (first | apply Kd.R_alloc | apply Kd.R_drewN | apply Kd.R_drew)); exact HO_0.out, (hb0_ HB.out), by repeat (first | (with_reducible first | exact HK.out | apply Kept.alloc | apply Kept.drewN | apply Kept.drew) | exact HK.out)⟩
   ·
    replace c7 := Bool.eq_false_iff.mpr c7; subst c7; have H1 : (if 0 ≤ (wrap64 (Int.tdiv a1 8)) then (if (wrap64 (Int.tdiv a1 8)) < (l0.length : Int) then (if 0 ≤ (Int.tmod a1 8) then ((some (l0.set ((wrap64 (Int.tdiv a1 8)) : Int).toNat (Go.bits .andNot .u8 (rd l0 (wrap64 (Int.tdiv a1 8))) (shl .u8 1 (Int.tmod a1 8))) : List Int)).bind fun y115 => (if a2 = true then (some (y115.set ((wrap64 (Int.tdiv a1 8)) : Int).toNat (Go.bits .or .u8 (rd y115 (wrap64 (Int.tdiv a1 8))) (shl .u8 1 (Int.tmod a1 8))))) else (some y115))) else (none)) else (none)) else (none)) = some r := by rw [if_neg (show ¬ (false = true) by decide)] at H; exact H
    clear H; have H := H1; clear H1; obtain ⟨ji8, hji8⟩ : ∃ j_ : Int, (wrap64 (Int.tdiv a1 8)) = j_ := ⟨_, rfl⟩; replace H : (if 0 ≤ (ji8) then (if (ji8) < (l0.length : Int) then (if 0 ≤ (Int.tmod a1 8) then ((some (l0.set ((ji8) : Int).toNat (Go.bits .andNot .u8 (rd l0 (ji8)) (shl .u8 1 (Int.tmod a1 8))) : List Int)).bind fun y115 => (if a2 = true then (some (y115.set ((ji8) : Int).toNat (Go.bits .or .u8 (rd y115 (ji8)) (shl .u8 1 (Int.tmod a1 8))))) else (some y115))) else (none)) else (none)) else (none)) = some r := by first | (rw [hji8] at H; exact H) | (simp only [hji8] at H ⊢; exact H)
    have hji8w : (IntKind.i64.wrap (Int.tdiv a1 8)) = ji8 := (i64_w _).trans hji8; by_cases c9 : 0 ≤ (ji8)
    ·
     rw [if_pos c9] at H; have c9b0 : decide (0 ≤ (ji8)) = true := decide_eq_true c9; clear c9; by_cases c10 : (ji8) < (l0.length : Int)
     rotate_left
     ·
      rw [if_neg c10] at H; exact absurd H (by simp)
     rw [if_pos c10] at H; have c10b0 : decide ((ji8) < (l0.length : Int)) = true := decide_eq_true c10; clear c10; obtain ⟨ji11, hji11⟩ : ∃ j_ : Int, (Int.tmod a1 8) = j_ := ⟨_, rfl⟩; replace H : (if 0 ≤ (ji11) then ((some (l0.set ((ji8) : Int).toNat (Go.bits .andNot .u8 (rd l0 (ji8)) (shl .u8 1 (ji11))) : List Int)).bind fun y115 => (if a2 = true then (some (y115.set ((ji8) : Int).toNat (Go.bits .or .u8 (rd y115 (ji8)) (shl .u8 1 (ji11))))) else (some y115))) else (none)) = some r := by first | (rw [hji11] at H; exact H) | (simp only [hji11] at H ⊢; exact H)
     by_cases c12 : 0 ≤ (ji11)
     rotate_left
     ·
      rw [if_neg c12] at H; exact absurd H (by simp)
     rw [if_pos c12] at H; have c12b0 := eq_true c12; have c12b1 : decide (0 ≤ (ji11)) = true := decide_eq_true c12; clear c12; obtain ⟨ji13, hji13⟩ : ∃ j_ : Int, (shl .u8 1 (ji11)) = j_ := ⟨_, rfl⟩; replace H : ((some (l0.set ((ji8) : Int).toNat (Go.bits .andNot .u8 (rd l0 (ji8)) (ji13)) : List Int)).bind fun y115 => (if a2 = true then (some (y115.set ((ji8) : Int).toNat (Go.bits .or .u8 (rd y115 (ji8)) (ji13)))) else (some y115))) = some r := by first | (rw [hji13] at H; exact H) | (simp only [hji13] at H ⊢; exact H)
     have hji13_ : (IntKind.u8.wrap (1 * 2 ^ min (ji11).toNat 8)) = ji13 := hji13; have hji13z : (ji11) ≤ 8 → (IntKind.u8.wrap (1 * 2 ^ (ji11).toNat)) = ji13 := shl_small hji13; have hji13u : (IntKind.u8.wrap (2 ^ min (ji11).toNat 8)) = ji13 := by have h_ := hji13_; rw [Int.one_mul] at h_; exact h_
     have hji13v : (ji11) ≤ 8 → (IntKind.u8.wrap (2 ^ (ji11).toNat)) = ji13 := fun hle_ => by have h_ := hji13z hle_; rw [Int.one_mul] at h_; exact h_
     obtain ⟨y115, hy115⟩ : ∃ y_ : List Int, y_ = (l0.set ((ji8) : Int).toNat (Go.bits .andNot .u8 (rd l0 (ji8)) (ji13))) := ⟨_, rfl⟩; replace H : (if a2 = true then (some (y115.set ((ji8) : Int).toNat (Go.bits .or .u8 (rd y115 (ji8)) (ji13)))) else (some y115)) = some r := by first | (rw [hy115]; with_reducible exact H) | (have H2_ := (Option.bind_some _ _).symm.trans H; rw [hy115]; with_reducible exact H2_) | (have H2_ := (Option.bind_some _ _).symm.trans H; with_reducible exact H2_) | with_reducible exact H | (rw [hy115]; exact H) | exact H
     have Ny115 := Aside0.mk hy115; clear hy115; by_cases c15 : a2 = true
     ·
      subst c15; have H1 : (some (y115.set ((ji8) : Int).toNat (Go.bits .or .u8 (rd y115 (ji8)) (ji13)))) = some r := by rw [if_pos rfl] at H; exact H
      clear H; have H := H1; clear H1; have c16b0 := eq_true (od_ : 0 ≤ (ji11)); obtain ⟨y117, hy117⟩ : ∃ y_ : List Int, y_ = (y115.set ((ji8) : Int).toNat (Go.bits .or .u8 (rd y115 (ji8)) (ji13))) := ⟨_, rfl⟩; replace H : (some y117) = some r := by first | (rw [hy117]; with_reducible exact H) | (have H2_ := (Option.bind_some _ _).symm.trans H; rw [hy117]; with_reducible exact H2_) | (have H2_ := (Option.bind_some _ _).symm.trans H; with_reducible exact H2_) | with_reducible exact H | (rw [hy117]; exact H) | exact H
      have Ny117 := Aside0.mk hy117; clear hy117; obtain rfl := Option.some.inj H; try go_wp2
      have n0_ := Aside0.mk (Kd.R_drew HO_0.out); have n1_ := Aside0.mk (Kept.drew HK.out); have n2_ := Aside0.mk (below_drew1 HB.out); clear HO_0; clear HK; clear HB; revert n0_ n1_ n2_; intro HO_0 HK HB; obtain ⟨Ao19, co19, eo19⟩ := Kd.R_slice HO_0.out; (first | subst eo19 | (injection eo19 with f1_ f2_ f3_; have f4_ := f1_.symm; have f5_ := f3_.symm; clear f1_ f2_ f3_; subst f4_; subst f5_))
      have p114 : 0 ≤ ((ji8) : Int) := od_; have q114 : (ji8) < (l0.length : Int) := od_; obtain ⟨ad114, e114, hx114_0⟩ := Kd.at_int (Kd.R_reads' HO_0.out).2.2 (ji8) p114 q114; cases e114; replace p114 := eq_true p114; replace q114 := eq_true q114; have p14 : 0 ≤ ((ji8) : Int) := od_; have q14 : ((ji8) : Int) < ((l0.length : Int) : Int) := od_; obtain ⟨go14, co14, eo14, gb14, gl14, cl14, HG14⟩ := Kd.R_form HO_0.out (by omega); (first | cases eo14 | (injection eo14 with ea_ en_ ec_; (first | subst ea_ | (injection ea_ with ea_; subst ea_)); subst ec_; clear en_))
      have GB14 := Aside0.mk gb14; have GG14 := Aside0.mk HG14; clear gb14 gl14 HG14; have HMgo14 := Aside0.mk (show (P0_ go14 ∨ w.heap.size ≤ go14) from (HO_0.out.1 _ rfl)); (first | simp only [add_plain] at hx114_0 | skip)
      obtain ⟨hx14_0, hf14_0⟩ := Kd.R_celln 0 HO_0.out ((ji8) : Int) p14 q14; replace p14 := eq_true p14; replace q14 := eq_true q14; have HP20 := Kd.R_putn HO_0.out ((ji8) : Int) (Go.bits .andNot .u8 (rd l0 (ji8)) (ji13)); rw [← Ny115.out] at HP20; have HQ20 := Aside0.mk HP20; clear HP20; refine start_ (n := 11) (S := fun w' => w'.cell? ⟨go14, ((ji8)).toNat, none⟩ = some (.int .u8 (rd l0 (ji8)))) (ds := [10]) (mk_ 0 11) (by kernel_rfl) rfl rfl (hx114_0) (fun hHeld => ?_); refine with_tabW mask_set.tab1 mask_set.bits1 (fun HT_ HW_ => ?_); generalize wc.drew = w18 at HO_0 HK HB GG14 HQ20 hf14_0 hx114_0 hx14_0 hHeld ⊢; refine pu_ 0 (some 15) (mk_ 1 11) HT_ ?_; refine pu_ 1 (some 16) (mk_ 2 11) HT_ ?_; refine pu_ 2 (some 17) (mk_ 3 11) HT_ ?_; refine pu_ 3 (some 18) (mk_ 4 11) HT_ ?_; refine pu_ 5 (some 20) (bm_ 11 47) HT_ ?_; refine pu_ 6 (some 21) (bm_ 11 111) HT_ ?_; refine pu_ 7 (some 22) (bm_ 11 239) HT_ ?_; refine take_ (i := 4) (N := some 19) (v := ?_) (a' := ?_) (mk_ 8 11) rfl rfl (take_ofW HT_.out HW_.out (by kernel_rfl)) (fun _ _ _ h => h) (Or.inl ⟨by rfl, ?_⟩) hHeld ?_ ?_; rotate_left
      ·
       intro w' s0; go_simp
       with_reducible rfl
      rotate_left
      ·
       simp only [Act.put, setIfInBounds_toArray, set_cons_zero, set_cons_succ, i64_w, i32_w]; rfl
      refine pu_ 8 (some 23) (mk_ 9 11) HT_ ?_; refine pu_ 9 (some 24) (mk_ 10 11) HT_ ?_; refine last_ (i := 10) (N := none) (mk_ 11 11) rfl rfl (one_of HT_.out (by kernel_rfl)) (by decide) (fun K hK => ?_); refine skip_ (w1 := ?_) (by rfl) rfl ?_ ?_; rotate_left
      ·
       go_simp
       rfl
      refine hK.out _ _ ?_; clear hK K; refine done_ (done_of HT_.out (by kernel_rfl)) ?_; try go_wp2
      have n0_ : Aside0 (Kd.R (Kd.int .u8) 5 (w18.setCell ⟨go14, ((ji8) : Int).toNat, none⟩ (.int .u8 (Go.bits .andNot .u8 (rd l0 (ji8)) (ji13)))) w0.heap.size (fun k_ => (P0_ k_ ∨ w.heap.size ≤ k_)) (.slice (some ⟨go14, 0, none⟩) l0.length co19) y115) := ⟨by (with_reducible repeat (first | apply Kd.R_alloc | apply Kd.R_drewN | apply Kd.R_drew)); exact HQ20.out⟩; have n1_ : Aside0 (Kept w (w18.setCell ⟨go14, ((ji8) : Int).toNat, none⟩ (.int .u8 (Go.bits .andNot .u8 (rd l0 (ji8)) (ji13)))) (fun k_ => P0_ k_)) := ⟨by repeat (first | (with_reducible first | exact HK.out | apply Kept.alloc | apply Kept.drewN | apply Kept.drew | refine Kept.setCell ?_ HMgo14.out _) | exact HK.out)⟩; have n2_ : Aside0 (Below w0.heap.size w0 (w18.setCell ⟨go14, ((ji8) : Int).toNat, none⟩ (.int .u8 (Go.bits .andNot .u8 (rd l0 (ji8)) (ji13))))) := ⟨(hb1_ HB.out GB14.out)⟩; (try clear HO_0)
      (try clear HK)
      (try clear HB)
      generalize (w18.setCell ⟨go14, ((ji8) : Int).toNat, none⟩ (.int .u8 (Go.bits .andNot .u8 (rd l0 (ji8)) (ji13)))) = w21 at n0_ n1_ n2_ ⊢; revert n0_ n1_ n2_; intro HO_0 HK HB; have n0_ := Aside0.mk (Kd.R_drew HO_0.out); have n1_ := Aside0.mk (Kept.drew HK.out); have n2_ := Aside0.mk (below_drew1 HB.out); clear HO_0; clear HK; clear HB; revert n0_ n1_ n2_; intro HO_0 HK HB; have p116 : 0 ≤ ((ji8) : Int) := od_; have q116 : (ji8) < (y115.length : Int) := (by have h_ : ((ji8) : Int) < ((l0.length : Int) : Int) := od_; first | (have e_ := (Kd.R_reads' HO_0.out).1; omega) | simpa only [Ny115.out, List.length_set] using h_); have ql116 : (((ji8) : Int) < ((l0.length : Int) : Int)) = True := eq_true od_; obtain ⟨ad116, e116, hx116_0⟩ := Kd.at_int (Kd.R_reads' HO_0.out).2.2 (ji8) p116 q116; obtain rfl : (⟨go14, 0, none⟩ : Addr) = ad116 := (by injection e116); (first | simp only [add_plain] at hx116_0 | simp only [add_at] at hx116_0 | simp only [Addr.add, Nat.zero_add] at hx116_0 | skip)
      replace p116 := eq_true p116; replace q116 := eq_true q116; have p17 : 0 ≤ ((ji8) : Int) := od_; have q17 : ((ji8) : Int) < ((l0.length : Int) : Int) := od_; obtain ⟨hx17_0, hf17_0⟩ := Kd.R_celln 0 HO_0.out ((ji8) : Int) p17 q17; replace p17 := eq_true p17; replace q17 := eq_true q17; have HP23 := Kd.R_putn HO_0.out ((ji8) : Int) (Go.bits .or .u8 (rd y115 (ji8)) (ji13)); rw [← Ny117.out] at HP23; have HQ23 := Aside0.mk HP23; clear HP23; refine start_ (n := 11) (S := fun w' => w'.cell? ⟨go14, ((ji8)).toNat, none⟩ = some (.int .u8 (rd y115 (ji8)))) (ds := [10]) (mk_ 0 11) (by kernel_rfl) rfl rfl (hx116_0) (fun hHeld => ?_); refine with_tabW mask_set.tab3 mask_set.bits3 (fun HT_ HW_ => ?_); generalize w21.drew = w22 at HO_0 HK HB HQ20 HQ23 hf17_0 hx116_0 hx17_0 hHeld ⊢; refine pu_ 0 (some 26) (mk_ 1 11) HT_ ?_; refine pu_ 1 (some 27) (mk_ 2 11) HT_ ?_; refine pu_ 2 (some 28) (mk_ 3 11) HT_ ?_; refine pu_ 3 (some 29) (mk_ 4 11) HT_ ?_; refine pu_ 5 (some 31) (bm_ 11 47) HT_ ?_; refine pu_ 6 (some 32) (bm_ 11 111) HT_ ?_; refine pu_ 7 (some 33) (bm_ 11 239) HT_ ?_; refine take_ (i := 4) (N := some 30) (v := ?_) (a' := ?_) (mk_ 8 11) rfl rfl (take_ofW HT_.out HW_.out (by kernel_rfl)) (fun _ _ _ h => h) (Or.inl ⟨by rfl, ?_⟩) hHeld ?_ ?_; rotate_left
      ·
       intro w' s0; go_simp
       with_reducible rfl
      rotate_left
      ·
       simp only [Act.put, setIfInBounds_toArray, set_cons_zero, set_cons_succ, i64_w, i32_w]; rfl
      refine pu_ 8 (some 34) (mk_ 9 11) HT_ ?_; refine pu_ 9 (some 35) (mk_ 10 11) HT_ ?_; refine last_ (i := 10) (N := none) (mk_ 11 11) rfl rfl (one_of HT_.out (by kernel_rfl)) (by decide) (fun K hK => ?_); refine skip_ (w1 := ?_) (by rfl) rfl ?_ ?_; rotate_left
      ·
       go_simp
       rfl
      refine hK.out _ _ ?_; clear hK K; refine done_ (done_of HT_.out (by kernel_rfl)) ?_; try go_wp2
      first | go_end0 | ((try simp only [Exit.inBlock, Exit.then]); refine bodyPost_ret (results_none rfl _ _ _) rfl ?_)
      exact ⟨by first | rfl | (simp [errW_none, errW_some] <;> rfl) | (simp only [← hji8, ← hji11, ← hji13]; first | rfl | (simp [errW_none, errW_some] <;> rfl)) | (simp [*, errW_none, errW_some] <;> rfl), by (with_reducible repeat (first | apply Kd.R_alloc | apply Kd.R_drewN | apply Kd.R_drew)); exact HQ23.out, (hb1_ HB.out GB14.out), by repeat (first | (with_reducible first | exact HK.out | apply Kept.alloc | apply Kept.drewN | apply Kept.drew | refine Kept.setCell ?_ HMgo14.out _) | exact HK.out)⟩
     ·
      replace c15 := Bool.eq_false_iff.mpr c15; subst c15; have H1 : (some y115) = some r := by rw [if_neg (show ¬ (false = true) by decide)] at H; exact H
      clear H; have H := H1; clear H1; obtain rfl := Option.some.inj H; try go_wp2
      have n0_ := Aside0.mk (Kd.R_drew HO_0.out); have n1_ := Aside0.mk (Kept.drew HK.out); have n2_ := Aside0.mk (below_drew1 HB.out); clear HO_0; clear HK; clear HB; revert n0_ n1_ n2_; intro HO_0 HK HB; obtain ⟨Ao25, co25, eo25⟩ := Kd.R_slice HO_0.out; (first | subst eo25 | (injection eo25 with f1_ f2_ f3_; have f4_ := f1_.symm; have f5_ := f3_.symm; clear f1_ f2_ f3_; subst f4_; subst f5_))
      have p114 : 0 ≤ ((ji8) : Int) := od_; have q114 : (ji8) < (l0.length : Int) := od_; obtain ⟨ad114, e114, hx114_0⟩ := Kd.at_int (Kd.R_reads' HO_0.out).2.2 (ji8) p114 q114; cases e114; replace p114 := eq_true p114; replace q114 := eq_true q114; have p14 : 0 ≤ ((ji8) : Int) := od_; have q14 : ((ji8) : Int) < ((l0.length : Int) : Int) := od_; obtain ⟨go14, co14, eo14, gb14, gl14, cl14, HG14⟩ := Kd.R_form HO_0.out (by omega); (first | cases eo14 | (injection eo14 with ea_ en_ ec_; (first | subst ea_ | (injection ea_ with ea_; subst ea_)); subst ec_; clear en_))
      have GB14 := Aside0.mk gb14; have GG14 := Aside0.mk HG14; clear gb14 gl14 HG14; have HMgo14 := Aside0.mk (show (P0_ go14 ∨ w.heap.size ≤ go14) from (HO_0.out.1 _ rfl)); (first | simp only [add_plain] at hx114_0 | skip)
      obtain ⟨hx14_0, hf14_0⟩ := Kd.R_celln 0 HO_0.out ((ji8) : Int) p14 q14; replace p14 := eq_true p14; replace q14 := eq_true q14; have HP26 := Kd.R_putn HO_0.out ((ji8) : Int) (Go.bits .andNot .u8 (rd l0 (ji8)) (ji13)); rw [← Ny115.out] at HP26; have HQ26 := Aside0.mk HP26; clear HP26; refine start_ (n := 11) (S := fun w' => w'.cell? ⟨go14, ((ji8)).toNat, none⟩ = some (.int .u8 (rd l0 (ji8)))) (ds := [10]) (mk_ 0 11) (by kernel_rfl) rfl rfl (hx114_0) (fun hHeld => ?_); refine with_tabW mask_set.tab1 mask_set.bits1 (fun HT_ HW_ => ?_); generalize wc.drew = w24 at HO_0 HK HB GG14 HQ26 hf14_0 hx114_0 hx14_0 hHeld ⊢; refine pu_ 0 (some 15) (mk_ 1 11) HT_ ?_; refine pu_ 1 (some 16) (mk_ 2 11) HT_ ?_; refine pu_ 2 (some 17) (mk_ 3 11) HT_ ?_; refine pu_ 3 (some 18) (mk_ 4 11) HT_ ?_; refine pu_ 5 (some 20) (bm_ 11 47) HT_ ?_; refine pu_ 6 (some 21) (bm_ 11 111) HT_ ?_; refine pu_ 7 (some 22) (bm_ 11 239) HT_ ?_; refine take_ (i := 4) (N := some 19) (v := ?_) (a' := ?_) (mk_ 8 11) rfl rfl (take_ofW HT_.out HW_.out (by kernel_rfl)) (fun _ _ _ h => h) (Or.inl ⟨by rfl, ?_⟩) hHeld ?_ ?_; rotate_left
      ·
       intro w' s0; go_simp
       with_reducible rfl
      rotate_left
      ·
       simp only [Act.put, setIfInBounds_toArray, set_cons_zero, set_cons_succ, i64_w, i32_w]; rfl
      refine pu_ 8 (some 23) (mk_ 9 11) HT_ ?_; refine pu_ 9 (some 24) (mk_ 10 11) HT_ ?_; refine last_ (i := 10) (N := none) (mk_ 11 11) rfl rfl (one_of HT_.out (by kernel_rfl)) (by decide) (fun K hK => ?_); refine skip_ (w1 := ?_) (by rfl) rfl ?_ ?_; rotate_left
      ·
       go_simp
       rfl
      refine hK.out _ _ ?_; clear hK K; refine done_ (done_of HT_.out (by kernel_rfl)) ?_; try go_wp2
      first | go_end0 | ((try simp only [Exit.inBlock, Exit.then]); refine bodyPost_ret (results_none rfl _ _ _) rfl ?_)
      exact ⟨by first | rfl | (simp [errW_none, errW_some] <;> rfl) | (simp only [← hji8, ← hji11, ← hji13]; first | rfl | (simp [errW_none, errW_some] <;> rfl)) | (simp [*, errW_none, errW_some] <;> rfl), by (with_reducible repeat (first | apply Kd.R_alloc | apply Kd.R_drewN | apply Kd.R_drew)); exact HQ26.out, (hb1_ HB.out GB14.out), by repeat (first | (with_reducible first | exact HK.out | apply Kept.alloc | apply Kept.drewN | apply Kept.drew | refine Kept.setCell ?_ HMgo14.out _) | exact HK.out)⟩
    ·
     rw [if_neg c9] at H; exact absurd H (by simp)

/-! ### mask_Put: function 47 -/
def mask_Put.l0 : Nat → Int → List Int → List Int → Int → Int → Option (List Int)
 | 0, _, _, _, _, _ => none
 | k + 1, x2, x7, x12, x13, x14 => if x14 < x13 then (if 0 ≤ x14 then (if x14 < (x12.length : Int) then (if x14 < 63 then ((mask_set.f k x7 (rd x12 x14) ((Go.bits .and .i64 (shr .i64 x2 x14) 1) == 1)).bind fun t122 => (mask_Put.l0 k x2 t122 x12 x13 (wrap64 (x14 + 1)))) else ((mask_set.f k x7 (rd x12 x14) false).bind fun t123 => (mask_Put.l0 k x2 t123 x12 x13 (wrap64 (x14 + 1))))) else (none)) else (none)) else (some x7)
def mask_Put.f (k : Nat) (l0 : List Int) (l1 : List Int) (a2 : Int) : Option (List Int) := (CloneB.f l0).bind fun t118 => (mask_Put.l0 k a2 t118 l1 (l1.length : Int) 0)
theorem mask_Put.mono_l : ∀ k, (∀ y0 y1 y2 y3 y4, LeO (mask_Put.l0 k y0 y1 y2 y3 y4) (mask_Put.l0 (k + 1) y0 y1 y2 y3 y4))
 | 0 => fun _ _ _ _ _ r h => by simp [mask_Put.l0] at h
 | k + 1 => by
  have ih0 := mask_Put.mono_l k
  ·
   intro y0 y1 y2 y3 y4; unfold mask_Put.l0
   repeat' first
   | (with_reducible exact ih0 _ _ _ _ _)
   | (with_reducible exact mask_set.mono _ _ _ _)
   | (with_reducible exact LeO.refl _)
   | (with_reducible exact LeO.none _)
   | (with_reducible refine LeO.ite ?_ ?_)
   | (with_reducible refine LeO.bind ?_ (fun _ => ?_))
   | exact ih0 _ _ _ _ _
   | exact mask_set.mono _ _ _ _
   | exact LeO.none _
   | refine LeO.ite ?_ ?_
   | refine LeO.bind ?_ (fun _ => ?_)
theorem mask_Put.mono : ∀ a0 a1 a2 k, LeO (mask_Put.f k a0 a1 a2) (mask_Put.f (k + 1) a0 a1 a2) := by
 intro a0 a1 a2 k; have ih0 := mask_Put.mono_l k; unfold mask_Put.f
 repeat' first
   | (with_reducible exact ih0 _ _ _ _ _)
   | (with_reducible exact mask_set.mono _ _ _ _)
   | (with_reducible exact LeO.refl _)
   | (with_reducible exact LeO.none _)
   | (with_reducible refine LeO.ite ?_ ?_)
   | (with_reducible refine LeO.bind ?_ (fun _ => ?_))
   | exact ih0 _ _ _ _ _
   | exact mask_set.mono _ _ _ _
   | exact LeO.none _
   | refine LeO.ite ?_ ?_
   | refine LeO.bind ?_ (fun _ => ?_)
set_option maxHeartbeats 8000000 in
set_option maxRecDepth 100000 in
theorem mask_Put.calls (k : Nat) (A0 : Option Addr) (c0 : Nat) (l0 : List Int) (A1 : Option Addr) (c1 : Nat) (l1 : List Int) (a2 : Int) (r : List Int) (w : World) (hr0 : Kd.C (Kd.int .u8) w A0 l0.length l0) (hc0 : l0.length ≤ c0) (hr1 : Kd.C (Kd.int .i64) w A1 l1.length l1) (hc1 : l1.length ≤ c1) (h : mask_Put.f k l0 l1 a2 = some r) :
  Calls Try.prog 47 #[.slice A0 l0.length c0, .slice A1 l1.length c1, .int .i64 a2] w fun e w' => ∃ v0_ : Value, e = .returned (v0_) ∧ Kd.R (Kd.int .u8) 5 w' w.heap.size (fun _ => True) v0_ r ∧ Below w.heap.size w w' := by
 have HR0 := Aside0.mk hr0; have HC0 := Aside0.mk hc0; clear hr0 hc0; have HR1 := Aside0.mk hr1; have HC1 := Aside0.mk hc1; clear hr1 hc1; have HB := Aside0.mk (Below.refl w.heap.size w); have H : ((CloneB.f l0).bind fun t118 => (mask_Put.l0 k a2 t118 l1 (l1.length : Int) 0)) = some r := h; clear h; replace H := Option.bind_eq_some_iff.mp H; obtain ⟨t118, A40, H⟩ := H; (try dsimp only at H); have A4 := Aside0.mk A40; clear A40; have H' := Aside0.mk H; clear H; go_enter Try.func47, Try.ntmps47
 go_wp2_with (first | ((with_reducible refine gate_callee (f := 81) rfl ?_); refine goesL_ (some 11) rfl rfl Try.func81 (by kernel_rfl) rfl #[.slice A0 l0.length c0] rfl lm_ ?_; (with_reducible refine (CloneB.calls _ _ l0 t118 _ ?side1 ?side2 A4.out).mono ?_); (case side1 => exact kD_ HR0.out); (case side2 => exact HC0.out); rintro e w5 ⟨v119, rfl, ho0, hb⟩; refine ⟨_, rfl, ?_⟩; have n0_ := Aside0.mk (Kd.R_lower ho0 (below_size (hb0_ HB.out))); have n1_ := Aside0.mk (below_step (hb0_ HB.out) hb); clear HB; revert n0_ n1_; intro HO120 HB; (try clear hb); (try clear hb2); (try clear hk); (try clear hi); (try clear ho0)))
 go_loopg [14] k (fun kq v14 w' => ∃ (x7_1 : List Int) (x14_1 : Int), v14 = .int .i64 x14_1 ∧ Aside0 (mask_Put.l0 kq a2 x7_1 l1 (l1.length : Int) x14_1 = some r) ∧ Aside0 (kq ≤ k) ∧ Aside0 (Kd.R (Kd.int .u8) 5 w' w.heap.size (fun _ => True) v119 x7_1) ∧ Aside0 (Below w.heap.size w w'))
 case atStart => exact ⟨(t118), (0), rf_, H', ⟨Nat.le_refl _⟩, ⟨by (with_reducible repeat (first | apply Kd.R_alloc | apply Kd.R_drewN | apply Kd.R_drew)); exact HO120.out⟩, ⟨(hb0_ HB.out)⟩⟩
 case round =>
  clear H'; try clear c1
  try clear p2
  try clear c4
  obtain ⟨x7_1, x14_1, rfl, HA, HK1, HO_7, HB⟩ := hrel; cases gk with
  | zero => exact absurd HA.out (by simp [mask_Put.l0])
  | succ k1 =>
   have H := HA.out; clear HA; simp only [mask_Put.l0] at H; by_cases c6 : x14_1 < (l1.length : Int)
   ·
    rw [if_pos c6] at H; have c6b0 : decide (x14_1 < (l1.length : Int)) = true := decide_eq_true c6; clear c6; by_cases c7 : 0 ≤ x14_1
    rotate_left
    ·
     rw [if_neg c7] at H; exact absurd H (by simp)
    rw [if_pos c7] at H; have c7b0 : decide (0 ≤ x14_1) = true := decide_eq_true c7; clear c7; by_cases c8 : x14_1 < (l1.length : Int)
    rotate_left
    ·
     rw [if_neg c8] at H; exact absurd H (by simp)
    rw [if_pos c8] at H; have c8b0 : decide (x14_1 < (l1.length : Int)) = true := decide_eq_true c8; clear c8; by_cases c9 : x14_1 < 63
    ·
     rw [if_pos c9] at H; have c9b0 : decide (x14_1 < 63) = true := decide_eq_true c9; clear c9; have c10b0 := eq_true (od_ : 0 ≤ x14_1); obtain ⟨ji11, hji11⟩ : ∃ j_ : Int, (shr .i64 a2 x14_1) = j_ := ⟨_, rfl⟩; replace H : ((mask_set.f k1 x7_1 (rd l1 x14_1) ((Go.bits .and .i64 (ji11) 1) == 1)).bind fun t122 => (mask_Put.l0 k1 a2 t122 l1 (l1.length : Int) (wrap64 (x14_1 + 1)))) = some r := by first | (rw [hji11] at H; exact H) | (simp only [hji11] at H ⊢; exact H)
     have hji11_ : (a2 / 2 ^ min x14_1.toNat 64) = ji11 := hji11; have hji11z : x14_1 ≤ 64 → (a2 / 2 ^ x14_1.toNat) = ji11 := shr_small hji11; replace H := Option.bind_eq_some_iff.mp H; obtain ⟨t122, A120, H⟩ := H; (try dsimp only at H); have A12 := Aside0.mk A120; clear A120; have H' := Aside0.mk H; clear H; have p121 : 0 ≤ (x14_1 : Int) := od_; have q121 : x14_1 < (l1.length : Int) := od_; obtain ⟨ad121, e121, hx121_0⟩ := Kd.at_int HR1.out x14_1 p121 q121; cases e121; replace hx121_0 := (HB.out.cell (World.block_lt_of_cell? w _ hx121_0)).trans hx121_0; replace p121 := eq_true p121; replace q121 := eq_true q121; obtain ⟨Ao13, co13, eo13⟩ := Kd.R_slice HO_7.out; subst eo13; go_wp2_with (first | ((with_reducible refine gate_callee (f := 88) rfl ?_); refine goesL_ (some 30) rfl rfl Try.func88 (by kernel_rfl) rfl #[.slice Ao13 x7_1.length co13, .int .i64 (rd l1 x14_1), .bool ((Go.bits .and .i64 (ji11) 1) == 1)] rfl (by (try simp only [List.map_toArray, List.map_cons, List.map_nil]); first | done | (simp only [hji11]; rfl) | rfl | (simp only [List.length_drop, List.length_take]; rfl)) ?_; (with_reducible refine (mask_set.calls k1 (fun k_ => some k_ = (.slice Ao13 x7_1.length co13 : Value).ownBlock) (.slice Ao13 x7_1.length co13) x7_1 (rd l1 x14_1) ((Go.bits .and .i64 (ji11) 1) == 1) t122 w _ ?side1 ?side2 A12.out).mono ?_); (case side1 => exact (hb0_ HB.out)); (case side2 => exact Kd.R_tight rfl HO_7.out); rintro e w14 ⟨rfl, hy0, hb, hkp⟩; refine ⟨_, rfl, ?_⟩; have n0_ := Aside0.mk (Kd.R_reok rfl hy0 (fun k_ e_ => HO_7.out.1 k_ e_)); have n1_ := Aside0.mk (hb); clear HO_7 HB; revert n0_ n1_; intro HO_7 HB; (try clear hb); (try clear hkp); (try clear hy0)))
     go_roundg k1
     case measure => have := HK1.out; omega
     case rel => exact ⟨(t122), (wrap64 (x14_1 + 1)), rf_, H', ⟨by have := HK1.out; omega⟩, ⟨by (with_reducible repeat (first | apply Kd.R_alloc | apply Kd.R_drewN | apply Kd.R_drew)); exact HO_7.out⟩, ⟨(hb0_ HB.out)⟩⟩
    ·
     rw [if_neg c9] at H; have c9b0 : decide (x14_1 < 63) = false := decide_eq_false c9; clear c9; replace H := Option.bind_eq_some_iff.mp H; obtain ⟨t123, A150, H⟩ := H; (try dsimp only at H); have A15 := Aside0.mk A150; clear A150; have H' := Aside0.mk H; clear H; have p121 : 0 ≤ (x14_1 : Int) := od_; have q121 : x14_1 < (l1.length : Int) := od_; obtain ⟨ad121, e121, hx121_0⟩ := Kd.at_int HR1.out x14_1 p121 q121; cases e121; replace hx121_0 := (HB.out.cell (World.block_lt_of_cell? w _ hx121_0)).trans hx121_0; replace p121 := eq_true p121; replace q121 := eq_true q121; obtain ⟨Ao16, co16, eo16⟩ := Kd.R_slice HO_7.out; subst eo16; go_wp2_with (first | ((with_reducible refine gate_callee (f := 88) rfl ?_); refine goesL_ (some 30) rfl rfl Try.func88 (by kernel_rfl) rfl #[.slice Ao16 x7_1.length co16, .int .i64 (rd l1 x14_1), .bool false] rfl lm_ ?_; (with_reducible refine (mask_set.calls k1 (fun k_ => some k_ = (.slice Ao16 x7_1.length co16 : Value).ownBlock) (.slice Ao16 x7_1.length co16) x7_1 (rd l1 x14_1) false t123 w _ ?side1 ?side2 A15.out).mono ?_); (case side1 => exact (hb0_ HB.out)); (case side2 => exact Kd.R_tight rfl HO_7.out); rintro e w17 ⟨rfl, hy0, hb, hkp⟩; refine ⟨_, rfl, ?_⟩; have n0_ := Aside0.mk (Kd.R_reok rfl hy0 (fun k_ e_ => HO_7.out.1 k_ e_)); have n1_ := Aside0.mk (hb); clear HO_7 HB; revert n0_ n1_; intro HO_7 HB; (try clear hb); (try clear hkp); (try clear hy0)))
     go_roundg k1
     case measure => have := HK1.out; omega
     case rel => exact ⟨(t123), (wrap64 (x14_1 + 1)), rf_, H', ⟨by have := HK1.out; omega⟩, ⟨by (with_reducible repeat (first | apply Kd.R_alloc | apply Kd.R_drewN | apply Kd.R_drew)); exact HO_7.out⟩, ⟨(hb0_ HB.out)⟩⟩
   ·
    rw [if_neg c6] at H; have c6b0 : decide (x14_1 < (l1.length : Int)) = false := decide_eq_false c6; clear c6; obtain rfl := Option.some.inj H; go_wp2
    go_ret
    exact ⟨_, by first | rfl | (simp [errW_none, errW_some] <;> rfl) | (simp [*, errW_none, errW_some] <;> rfl), by (with_reducible repeat (first | apply Kd.R_alloc | apply Kd.R_drewN | apply Kd.R_drew)); exact HO_7.out, (hb0_ HB.out)⟩

/-! ### mask_Get: function 48 -/
def mask_Get.l0 : Nat → List Int → Int → List Int → Int → Int → Option (Int)
 | 0, _, _, _, _, _ => none
 | k + 1, x0, x5, x12, x13, x14 => if x14 < x13 then (if 0 ≤ x14 then (if x14 < (x12.length : Int) then ((mask_get.f x0 (rd x12 x14)).bind fun t126 => (if t126 = true then (mask_Get.l0 k x0 (Go.bits .or .i64 x5 (shl .i64 1 x14)) x12 x13 (wrap64 (x14 + 1))) else (mask_Get.l0 k x0 x5 x12 x13 (wrap64 (x14 + 1))))) else (none)) else (none)) else (some x5)
def mask_Get.f (k : Nat) (l0 : List Int) (l1 : List Int) : Option (Int) := if 0 ≤ (mn (l1.length : Int) 62) then (if (mn (l1.length : Int) 62) ≤ (l1.length : Int) then (mask_Get.l0 k l0 0 (l1.take ((mn (l1.length : Int) 62) : Int).toNat) ((l1.take ((mn (l1.length : Int) 62) : Int).toNat).length : Int) 0) else (none)) else (none)
theorem mask_Get.mono_l : ∀ k, (∀ y0 y1 y2 y3 y4, LeO (mask_Get.l0 k y0 y1 y2 y3 y4) (mask_Get.l0 (k + 1) y0 y1 y2 y3 y4))
 | 0 => fun _ _ _ _ _ r h => by simp [mask_Get.l0] at h
 | k + 1 => by
  have ih0 := mask_Get.mono_l k
  ·
   intro y0 y1 y2 y3 y4; unfold mask_Get.l0
   repeat' first
   | (with_reducible exact ih0 _ _ _ _ _)
   | (with_reducible exact LeO.refl _)
   | (with_reducible exact LeO.none _)
   | (with_reducible refine LeO.ite ?_ ?_)
   | (with_reducible refine LeO.bind ?_ (fun _ => ?_))
   | exact ih0 _ _ _ _ _
   | exact LeO.none _
   | refine LeO.ite ?_ ?_
   | refine LeO.bind ?_ (fun _ => ?_)
theorem mask_Get.mono : ∀ a0 a1 k, LeO (mask_Get.f k a0 a1) (mask_Get.f (k + 1) a0 a1) := by
 intro a0 a1 k; have ih0 := mask_Get.mono_l k; unfold mask_Get.f
 repeat' first
   | (with_reducible exact ih0 _ _ _ _ _)
   | (with_reducible exact LeO.refl _)
   | (with_reducible exact LeO.none _)
   | (with_reducible refine LeO.ite ?_ ?_)
   | (with_reducible refine LeO.bind ?_ (fun _ => ?_))
   | exact ih0 _ _ _ _ _
   | exact LeO.none _
   | refine LeO.ite ?_ ?_
   | refine LeO.bind ?_ (fun _ => ?_)
set_option maxHeartbeats 8000000 in
set_option maxRecDepth 100000 in
theorem mask_Get.calls (k : Nat) (A0 : Option Addr) (c0 : Nat) (l0 : List Int) (A1 : Option Addr) (c1 : Nat) (l1 : List Int) (r : Int) (w : World) (hr0 : Kd.C (Kd.int .u8) w A0 l0.length l0) (hc0 : l0.length ≤ c0) (hr1 : Kd.C (Kd.int .i64) w A1 l1.length l1) (hc1 : l1.length ≤ c1) (h : mask_Get.f k l0 l1 = some r) :
  Calls Try.prog 48 #[.slice A0 l0.length c0, .slice A1 l1.length c1] w fun e w' => e = .returned (.int .i64 r) ∧ Below w.heap.size w w' := by
 have HR0 := Aside0.mk hr0; have HC0 := Aside0.mk hc0; clear hr0 hc0; have HR1 := Aside0.mk hr1; have HC1 := Aside0.mk hc1; clear hr1 hc1; have HB := Aside0.mk (Below.refl w.heap.size w); have H : (if 0 ≤ (mn (l1.length : Int) 62) then (if (mn (l1.length : Int) 62) ≤ (l1.length : Int) then (mask_Get.l0 k l0 0 (l1.take ((mn (l1.length : Int) 62) : Int).toNat) ((l1.take ((mn (l1.length : Int) 62) : Int).toNat).length : Int) 0) else (none)) else (none)) = some r := h; clear h; obtain ⟨ji3, hji3⟩ : ∃ j_ : Int, (mn (l1.length : Int) 62) = j_ := ⟨_, rfl⟩; replace H : (if 0 ≤ (ji3) then (if (ji3) ≤ (l1.length : Int) then (mask_Get.l0 k l0 0 (l1.take ((ji3) : Int).toNat) ((l1.take ((ji3) : Int).toNat).length : Int) 0) else (none)) else (none)) = some r := by first | (rw [hji3] at H; exact H) | (simp only [hji3] at H ⊢; exact H)
 (try (have hji3h : ji3 ≤ 62 := by (rw [← hji3]; unfold mn; (repeat' split) <;> omega)))
 (try (have hji3g : ji3 ≤ 64 := by omega))
 (try (have hji3l : 0 ≤ ji3 := by (rw [← hji3]; unfold mn; (repeat' split) <;> omega)))
 (try (have hji3m : 0 ≤ ji3 := by omega))
 have hji3_ : (if 62 < (l1.length : Int) then 62 else (l1.length : Int)) = ji3 := hji3; by_cases c4 : 0 ≤ (ji3)
 ·
  rw [if_pos c4] at H; have c4b0 := eq_true c4; have c4b1 : decide (0 ≤ (ji3)) = true := decide_eq_true c4; clear c4; by_cases c5 : (ji3) ≤ (l1.length : Int)
  rotate_left
  ·
   rw [if_neg c5] at H; exact absurd H (by simp)
  rw [if_pos c5] at H; have c5b0 := eq_true c5; have c5b1 : decide ((ji3) ≤ (l1.length : Int)) = true := decide_eq_true c5; clear c5; have H' := Aside0.mk H; clear H; obtain ⟨i06, hi06, _, hsz6, _⟩ := info_parts info3; obtain ⟨hcut6, hA6, hC6⟩ := print_take_of (P := Try.prog) (Value.int .i64) 0 23 3 .i64 Try.underlying23 hi06 hsz6 A1 c1 l1 (ji3) od_ od_ HC1.out; have HR124 := Aside0.mk (Kd.C_of_reads (h1 := fun _ => rfl) (hA6 _ (Kd.reads_of_C HR1.out))); have HC124 := Aside0.mk hC6; clear hA6 hC6 hi06 hsz6; go_enter Try.func48, Try.ntmps48
  go_wp2
  go_loopg [5, 14] k (fun kq v5 v14 w' => ∃ (x5_1 : Int) (x14_1 : Int), v5 = .int .i64 x5_1 ∧ v14 = .int .i64 x14_1 ∧ Aside0 (mask_Get.l0 kq l0 x5_1 (l1.take ((ji3) : Int).toNat) ((l1.take ((ji3) : Int).toNat).length : Int) x14_1 = some r) ∧ Aside0 (kq ≤ k) ∧ Aside0 (Below w.heap.size w w'))
  case atStart => exact ⟨(0), (0), rf_, rf_, H', ⟨Nat.le_refl _⟩, ⟨(hb0_ HB.out)⟩⟩
  case round =>
   clear H'; try clear c1
   try clear p2
   try clear c4
   try clear c4b0
   try clear c4b1
   try clear c5
   try clear c5b0
   try clear c5b1
   obtain ⟨x5_1, x14_1, rfl, rfl, HA, HK1, HB⟩ := hrel; cases gk with
   | zero => exact absurd HA.out (by simp [mask_Get.l0])
   | succ k1 =>
    have H := HA.out; clear HA; simp only [mask_Get.l0] at H; by_cases c7 : x14_1 < ((l1.take ((ji3) : Int).toNat).length : Int)
    ·
     rw [if_pos c7] at H; have c7b0 : decide (x14_1 < ((l1.take ((ji3) : Int).toNat).length : Int)) = true := decide_eq_true c7; (try (have c7t0 := c7b0; rw [show (((l1.take ((ji3) : Int).toNat).length : Nat) : Int) = max ji3 0 from (by have h1_ := hji3_; have h2_ : 0 ≤ ji3 := (by assumption); rw [List.length_take]; split at h1_ <;> omega)] at c7t0; (try (have c7tp0 := eq_true (of_decide_eq_true c7t0)))))
     (try (have c7u0 := c7b0; rw [show (((l1.take ((ji3) : Int).toNat).length : Nat) : Int) = ji3 from (by have h1_ := hji3_; have h2_ : 0 ≤ ji3 := (by assumption); rw [List.length_take]; split at h1_ <;> omega)] at c7u0; (try (have c7up0 := eq_true (of_decide_eq_true c7u0)))))
     clear c7; by_cases c8 : 0 ≤ x14_1
     rotate_left
     ·
      rw [if_neg c8] at H; exact absurd H (by simp)
     rw [if_pos c8] at H; have c8b0 : decide (0 ≤ x14_1) = true := decide_eq_true c8; clear c8; by_cases c9 : x14_1 < ((l1.take ((ji3) : Int).toNat).length : Int)
     rotate_left
     ·
      rw [if_neg c9] at H; exact absurd H (by simp)
     rw [if_pos c9] at H; have c9b0 : decide (x14_1 < ((l1.take ((ji3) : Int).toNat).length : Int)) = true := decide_eq_true c9; (try (have c9t0 := c9b0; rw [show (((l1.take ((ji3) : Int).toNat).length : Nat) : Int) = max ji3 0 from (by have h1_ := hji3_; have h2_ : 0 ≤ ji3 := (by assumption); rw [List.length_take]; split at h1_ <;> omega)] at c9t0; (try (have c9tp0 := eq_true (of_decide_eq_true c9t0)))))
     (try (have c9u0 := c9b0; rw [show (((l1.take ((ji3) : Int).toNat).length : Nat) : Int) = ji3 from (by have h1_ := hji3_; have h2_ : 0 ≤ ji3 := (by assumption); rw [List.length_take]; split at h1_ <;> omega)] at c9u0; (try (have c9up0 := eq_true (of_decide_eq_true c9u0)))))
     clear c9; replace H := Option.bind_eq_some_iff.mp H; obtain ⟨t126, A100, H⟩ := H; (try dsimp only at H); have A10 := Aside0.mk A100; clear A100; by_cases c11 : t126 = true
     ·
      subst c11; have H1 : (mask_Get.l0 k1 l0 (Go.bits .or .i64 x5_1 (shl .i64 1 x14_1)) (l1.take ((ji3) : Int).toNat) ((l1.take ((ji3) : Int).toNat).length : Int) (wrap64 (x14_1 + 1))) = some r := by rw [if_pos rfl] at H; exact H
      clear H; have H := H1; clear H1; have c12b0 := eq_true (od_ : 0 ≤ x14_1); obtain ⟨ji13, hji13⟩ : ∃ j_ : Int, (shl .i64 1 x14_1) = j_ := ⟨_, rfl⟩; replace H : (mask_Get.l0 k1 l0 (Go.bits .or .i64 x5_1 (ji13)) (l1.take ((ji3) : Int).toNat) ((l1.take ((ji3) : Int).toNat).length : Int) (wrap64 (x14_1 + 1))) = some r := by first | (rw [hji13] at H; exact H) | (simp only [hji13] at H ⊢; exact H)
      (try rw [hji13] at A10)
      have hji13_ : (IntKind.i64.wrap (1 * 2 ^ min x14_1.toNat 64)) = ji13 := hji13; have hji13z : x14_1 ≤ 64 → (IntKind.i64.wrap (1 * 2 ^ x14_1.toNat)) = ji13 := shl_small hji13; have hji13u : (IntKind.i64.wrap (2 ^ min x14_1.toNat 64)) = ji13 := by have h_ := hji13_; rw [Int.one_mul] at h_; exact h_
      have hji13v : x14_1 ≤ 64 → (IntKind.i64.wrap (2 ^ x14_1.toNat)) = ji13 := fun hle_ => by have h_ := hji13z hle_; rw [Int.one_mul] at h_; exact h_
      have hji13y : (wrap64 (1 * 2 ^ min x14_1.toNat 64)) = ji13 := (i64_w _).symm.trans hji13_; have hji13x : x14_1 ≤ 64 → (wrap64 (1 * 2 ^ x14_1.toNat)) = ji13 := fun h_ => (i64_w _).symm.trans (hji13z h_); have H' := Aside0.mk H; clear H; have p125 : 0 ≤ (x14_1 : Int) := od_; have q125 : x14_1 < ((l1.take ((ji3) : Int).toNat).length : Int) := od_; obtain ⟨ad125, e125, hx125_0⟩ := Kd.at_int HR124.out x14_1 p125 q125; cases e125; replace hx125_0 := (HB.out.cell (World.block_lt_of_cell? w _ hx125_0)).trans hx125_0; replace p125 := eq_true p125; replace q125 := eq_true q125; go_wp2_with (first | ((with_reducible refine gate_callee (f := 85) rfl ?_); refine goesL_ (some 21) rfl rfl Try.func85 (by kernel_rfl) rfl #[.slice A0 l0.length c0, .int .i64 (rd (l1.take ((ji3) : Int).toNat) x14_1)] rfl (by (try simp only [List.map_toArray, List.map_cons, List.map_nil]); first | done | (simp only [hji3]; rfl) | rfl | (simp only [List.length_drop, List.length_take]; rfl)) ?_; (with_reducible refine (mask_get.calls _ _ l0 (rd (l1.take ((ji3) : Int).toNat) x14_1) true _ ?side1 ?side2 A10.out).mono ?_); (case side1 => exact kD_ (Kd.C_below HR0.out HB.out)); (case side2 => exact HC0.out); rintro e w' ⟨rfl, ⟨nd, rfl⟩⟩; refine ⟨_, rfl, ?_⟩))
      go_roundg k1
      case measure => have := HK1.out; omega
      case rel => exact ⟨(Go.bits .or .i64 x5_1 (ji13)), (wrap64 (x14_1 + 1)), (by first | rfl | (simp; done) | (simp only [← hji13] <;> (first | rfl | simp)) | (simp [*]; done)), rf_, H', ⟨by have := HK1.out; omega⟩, ⟨(hb0_ HB.out)⟩⟩
     ·
      replace c11 := Bool.eq_false_iff.mpr c11; subst c11; have H1 : (mask_Get.l0 k1 l0 x5_1 (l1.take ((ji3) : Int).toNat) ((l1.take ((ji3) : Int).toNat).length : Int) (wrap64 (x14_1 + 1))) = some r := by rw [if_neg (show ¬ (false = true) by decide)] at H; exact H
      clear H; have H := H1; clear H1; have H' := Aside0.mk H; clear H; have p125 : 0 ≤ (x14_1 : Int) := od_; have q125 : x14_1 < ((l1.take ((ji3) : Int).toNat).length : Int) := od_; obtain ⟨ad125, e125, hx125_0⟩ := Kd.at_int HR124.out x14_1 p125 q125; cases e125; replace hx125_0 := (HB.out.cell (World.block_lt_of_cell? w _ hx125_0)).trans hx125_0; replace p125 := eq_true p125; replace q125 := eq_true q125; go_wp2_with (first | ((with_reducible refine gate_callee (f := 85) rfl ?_); refine goesL_ (some 21) rfl rfl Try.func85 (by kernel_rfl) rfl #[.slice A0 l0.length c0, .int .i64 (rd (l1.take ((ji3) : Int).toNat) x14_1)] rfl (by (try simp only [List.map_toArray, List.map_cons, List.map_nil]); first | done | (simp only [hji3]; rfl) | rfl | (simp only [List.length_drop, List.length_take]; rfl)) ?_; (with_reducible refine (mask_get.calls _ _ l0 (rd (l1.take ((ji3) : Int).toNat) x14_1) false _ ?side1 ?side2 A10.out).mono ?_); (case side1 => exact kD_ (Kd.C_below HR0.out HB.out)); (case side2 => exact HC0.out); rintro e w' ⟨rfl, ⟨nd, rfl⟩⟩; refine ⟨_, rfl, ?_⟩))
      go_roundg k1
      case measure => have := HK1.out; omega
      case rel => exact ⟨(x5_1), (wrap64 (x14_1 + 1)), rf_, rf_, H', ⟨by have := HK1.out; omega⟩, ⟨(hb0_ HB.out)⟩⟩
    ·
     rw [if_neg c7] at H; have c7b0 : decide (x14_1 < ((l1.take ((ji3) : Int).toNat).length : Int)) = false := decide_eq_false c7; (try (have c7t0 := c7b0; rw [show (((l1.take ((ji3) : Int).toNat).length : Nat) : Int) = max ji3 0 from (by have h1_ := hji3_; have h2_ : 0 ≤ ji3 := (by assumption); rw [List.length_take]; split at h1_ <;> omega)] at c7t0; (try (have c7tp0 := eq_true (of_decide_eq_true c7t0)))))
     (try (have c7u0 := c7b0; rw [show (((l1.take ((ji3) : Int).toNat).length : Nat) : Int) = ji3 from (by have h1_ := hji3_; have h2_ : 0 ≤ ji3 := (by assumption); rw [List.length_take]; split at h1_ <;> omega)] at c7u0; (try (have c7up0 := eq_true (of_decide_eq_true c7u0)))))
     clear c7; obtain rfl := Option.some.inj H; go_wp2
     go_ret
     exact ⟨by first | rfl | (simp [errW_none, errW_some] <;> rfl) | (simp only [← hji3]; first | rfl | (simp [errW_none, errW_some] <;> rfl)) | (simp [*, errW_none, errW_some] <;> rfl), (hb0_ HB.out)⟩
 ·
  rw [if_neg c4] at H; exact absurd H (by simp)

end Go.Proofs.Ytpcephbhnbfcmaa.M
