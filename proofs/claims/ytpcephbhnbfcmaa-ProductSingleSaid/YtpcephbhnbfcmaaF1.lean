-- Written by this session's program fork.py: a Lean function for each Go function and its walk. Not trusted: Lean checks it.
import Derived.Test.YtpcephbhnbfcmaaF0
namespace Go.Proofs.Ytpcephbhnbfcmaa.F
open Go.RowKit Go.Proofs.YtpcephbhnbfcmaaW.PrintWords Go.Proofs.YtpcephbhnbfcmaaW.PrintLast Go.Proofs.YtpcephbhnbfcmaaW.PrintMore
attribute [local go_sem] max2_int min2_int max_two min_two max_three min_three max_four min_four   -- for this text's walks alone
set_option linter.unusedVariables false
set_option linter.unusedSimpArgs false

/-! ### made_Light: function 18 -/
def made_Light.f (l0 : List Int) : Option (Bool) := some (decide ((l0.length : Int) ≤ 700))
set_option maxHeartbeats 8000000 in
set_option maxRecDepth 100000 in
theorem made_Light.calls (A0 : Option Addr) (c0 : Nat) (l0 : List Int) (r : Bool) (w : World) (hr0 : Kd.C (Kd.int .i64) w A0 l0.length l0) (hc0 : l0.length ≤ c0) (h : made_Light.f l0 = some r) :
  Calls Try.prog 18 #[.slice A0 l0.length c0] w fun e w' => e = .returned (.bool r) ∧ Drawn0 w w' := by
 have HR0 := Aside0.mk hr0
 have HC0 := Aside0.mk hc0
 clear hr0 hc0
 have H : (some (decide ((l0.length : Int) ≤ 700))) = some r := h
 clear h
 obtain rfl := Option.some.inj H
 go_enter Try.func18, Try.ntmps18
 go_wp2
 go_ret
 exact ⟨by first | rfl | (simp; done) | (simp [*]; done), by repeat (first | exact Drawn0.refl _ | apply Drawn0.step)⟩

/-! ### product_Align: function 30 -/
def product_Align.f (a0 : Int) (a1 : Int) : Option (Int) := if a1 < 1 then (some a0) else (if a1 = 0 then (none) else (if (Int.tmod a0 a1) < 0 then (if (wrap64 ((Int.tmod a0 a1) + a1)) = 0 then (some a0) else (some (wrap64 (a0 + (wrap64 (a1 - (wrap64 ((Int.tmod a0 a1) + a1)))))))) else (if (Int.tmod a0 a1) = 0 then (some a0) else (some (wrap64 (a0 + (wrap64 (a1 - (Int.tmod a0 a1)))))))))
set_option maxHeartbeats 8000000 in
set_option maxRecDepth 100000 in
theorem product_Align.calls (a0 : Int) (a1 : Int) (r : Int) (w : World) (h : product_Align.f a0 a1 = some r) :
  Calls Try.prog 30 #[.int .i64 a0, .int .i64 a1] w fun e w' => e = .returned (.int .i64 r) ∧ Drawn0 w w' := by
 have H : (if a1 < 1 then (some a0) else (if a1 = 0 then (none) else (if (Int.tmod a0 a1) < 0 then (if (wrap64 ((Int.tmod a0 a1) + a1)) = 0 then (some a0) else (some (wrap64 (a0 + (wrap64 (a1 - (wrap64 ((Int.tmod a0 a1) + a1)))))))) else (if (Int.tmod a0 a1) = 0 then (some a0) else (some (wrap64 (a0 + (wrap64 (a1 - (Int.tmod a0 a1)))))))))) = some r := h
 clear h
 by_cases c3 : a1 < 1
 ·
  rw [if_pos c3] at H
  have c3b0 : decide (a1 < 1) = true := decide_eq_true c3
  clear c3
  obtain rfl := Option.some.inj H
  go_enter Try.func30, Try.ntmps30
  go_wp2
  go_ret
  exact ⟨by first | rfl | (simp; done) | (simp [*]; done), by repeat (first | exact Drawn0.refl _ | apply Drawn0.step)⟩
 ·
  rw [if_neg c3] at H
  have c3b0 : decide (a1 < 1) = false := decide_eq_false c3
  clear c3
  by_cases c4 : a1 = 0
  ·
   rw [if_pos c4] at H
   exact absurd H (by simp)
  rw [if_neg c4] at H
  have c4b0 : (a1 == 0) = false := beq_eq_false_iff_ne.mpr c4
  have c4b1 : (a1 != 0) = true := bne_iff_ne.mpr c4
  by_cases c5 : (Int.tmod a0 a1) < 0
  ·
   rw [if_pos c5] at H
   have c5b0 : decide ((Int.tmod a0 a1) < 0) = true := decide_eq_true c5
   clear c5
   by_cases c6 : (wrap64 ((Int.tmod a0 a1) + a1)) = 0
   ·
    rw [if_pos c6] at H
    have c6b0 : ((wrap64 ((Int.tmod a0 a1) + a1)) == 0) = true := beq_iff_eq.mpr c6
    have c6b1 : ((wrap64 ((Int.tmod a0 a1) + a1)) != 0) = false := bne_eq_false_iff_eq.mpr c6
    clear c6
    obtain rfl := Option.some.inj H
    go_enter Try.func30, Try.ntmps30
    go_wp2
    go_ret
    exact ⟨by first | rfl | (simp; done) | (simp [*]; done), by repeat (first | exact Drawn0.refl _ | apply Drawn0.step)⟩
   ·
    rw [if_neg c6] at H
    have c6b0 : ((wrap64 ((Int.tmod a0 a1) + a1)) == 0) = false := beq_eq_false_iff_ne.mpr c6
    have c6b1 : ((wrap64 ((Int.tmod a0 a1) + a1)) != 0) = true := bne_iff_ne.mpr c6
    obtain rfl := Option.some.inj H
    go_enter Try.func30, Try.ntmps30
    go_wp2
    go_ret
    exact ⟨by first | rfl | (simp; done) | (simp [*]; done), by repeat (first | exact Drawn0.refl _ | apply Drawn0.step)⟩
  ·
   rw [if_neg c5] at H
   have c5b0 : decide ((Int.tmod a0 a1) < 0) = false := decide_eq_false c5
   clear c5
   by_cases c7 : (Int.tmod a0 a1) = 0
   ·
    rw [if_pos c7] at H
    have c7b0 : ((Int.tmod a0 a1) == 0) = true := beq_iff_eq.mpr c7
    have c7b1 : ((Int.tmod a0 a1) != 0) = false := bne_eq_false_iff_eq.mpr c7
    clear c7
    obtain rfl := Option.some.inj H
    go_enter Try.func30, Try.ntmps30
    go_wp2
    go_ret
    exact ⟨by first | rfl | (simp; done) | (simp [*]; done), by repeat (first | exact Drawn0.refl _ | apply Drawn0.step)⟩
   ·
    rw [if_neg c7] at H
    have c7b0 : ((Int.tmod a0 a1) == 0) = false := beq_eq_false_iff_ne.mpr c7
    have c7b1 : ((Int.tmod a0 a1) != 0) = true := bne_iff_ne.mpr c7
    obtain rfl := Option.some.inj H
    go_enter Try.func30, Try.ntmps30
    go_wp2
    go_ret
    exact ⟨by first | rfl | (simp; done) | (simp [*]; done), by repeat (first | exact Drawn0.refl _ | apply Drawn0.step)⟩

/-! ### mask_Valid: function 56 -/
def mask_Valid.f (a0_0 : Int) (a0_1 : Int) (l0_2 : List Int) (l0_3 : List Int) (l0_4 : List (S101)) (l0_5 : List (S79)) (l0_6 : List Int) (a0_7 : Bool) : Option (Bool) := if a0_0 ≥ 0 then (if a0_0 ≤ 1024 then (if a0_1 = 1 then (some ((l0_2.length : Int) == a0_0)) else (if a0_1 = 8 then (some ((l0_2.length : Int) == a0_0)) else (some false))) else (some false)) else (some false)
set_option maxHeartbeats 8000000 in
set_option maxRecDepth 100000 in
theorem mask_Valid.calls (a0_0 : Int) (a0_1 : Int) (A0_2 : Option Addr) (c0_2 : Nat) (l0_2 : List Int) (A0_3 : Option Addr) (c0_3 : Nat) (l0_3 : List Int) (A0_4 : Option Addr) (c0_4 : Nat) (l0_4 : List (S101)) (A0_5 : Option Addr) (c0_5 : Nat) (l0_5 : List (S79)) (A0_6 : Option Addr) (c0_6 : Nat) (l0_6 : List Int) (a0_7 : Bool) (r : Bool) (w : World) (hr0_2 : Kd.C (Kd.int .u8) w A0_2 l0_2.length l0_2) (hc0_2 : l0_2.length ≤ c0_2) (hr0_3 : Kd.C (Kd.int .i64) w A0_3 l0_3.length l0_3) (hc0_3 : l0_3.length ≤ c0_3) (hr0_4 : Kd.C k101 w A0_4 l0_4.length l0_4) (hc0_4 : l0_4.length ≤ c0_4) (hr0_5 : Kd.C k79 w A0_5 l0_5.length l0_5) (hc0_5 : l0_5.length ≤ c0_5) (hr0_6 : Kd.C (Kd.int .i64) w A0_6 l0_6.length l0_6) (hc0_6 : l0_6.length ≤ c0_6) (h : mask_Valid.f a0_0 a0_1 l0_2 l0_3 l0_4 l0_5 l0_6 a0_7 = some r) :
  Calls Try.prog 56 #[.agg #[.int .i64 a0_0, .int .i64 a0_1, .slice A0_2 l0_2.length c0_2, .slice A0_3 l0_3.length c0_3, .slice A0_4 l0_4.length c0_4, .slice A0_5 l0_5.length c0_5, .slice A0_6 l0_6.length c0_6, .bool a0_7]] w fun e w' => e = .returned (.bool r) ∧ Below w.heap.size w w' := by
 have hu31 := Try.underlying31
 have HR0_2 := Aside0.mk hr0_2
 have HC0_2 := Aside0.mk hc0_2
 clear hr0_2 hc0_2
 have HR0_3 := Aside0.mk hr0_3
 have HC0_3 := Aside0.mk hc0_3
 clear hr0_3 hc0_3
 have HR0_4 := Aside0.mk hr0_4
 have HC0_4 := Aside0.mk hc0_4
 clear hr0_4 hc0_4
 have HR0_5 := Aside0.mk hr0_5
 have HC0_5 := Aside0.mk hc0_5
 clear hr0_5 hc0_5
 have HR0_6 := Aside0.mk hr0_6
 have HC0_6 := Aside0.mk hc0_6
 clear hr0_6 hc0_6
 have HB := Aside0.mk (Below.refl w.heap.size w)
 have H : (if a0_0 ≥ 0 then (if a0_0 ≤ 1024 then (if a0_1 = 1 then (some ((l0_2.length : Int) == a0_0)) else (if a0_1 = 8 then (some ((l0_2.length : Int) == a0_0)) else (some false))) else (some false)) else (some false)) = some r := h
 clear h
 by_cases c2 : a0_0 ≥ 0
 ·
  rw [if_pos c2] at H
  have c2b0 : decide (0 ≤ a0_0) = true := decide_eq_true c2
  clear c2
  by_cases c3 : a0_0 ≤ 1024
  ·
   rw [if_pos c3] at H
   have c3b0 : decide (a0_0 ≤ 1024) = true := decide_eq_true c3
   clear c3
   by_cases c4 : a0_1 = 1
   ·
    rw [if_pos c4] at H
    have c4b0 : (a0_1 == 1) = true := beq_iff_eq.mpr c4
    have c4b1 : (a0_1 != 1) = false := bne_eq_false_iff_eq.mpr c4
    clear c4
    obtain rfl := Option.some.inj H
    go_enter Try.func56, Try.ntmps56
    go_wp2_with (first | ((with_reducible refine gate_dst (N := 1) rfl ?_); (try (refine gate_guard (by rfl) ?_; dsimp only)); refine box_event ?hg (N := 1) ?hd (cs := #[.int .i64 a0_0, .int .i64 a0_1, .slice A0_2 l0_2.length c0_2, .slice A0_3 l0_3.length c0_3, .slice A0_4 l0_4.length c0_4, .slice A0_5 l0_5.length c0_5, .slice A0_6 l0_6.length c0_6, .bool a0_7]) (t := 31) ?hr ?_; (case hd => rfl); (case hg => rfl); (case hr => first | (go_simp; done) | (go_simp; rfl)); intro gb101 hg w5 hbox hb; have n0_ := Aside0.mk (below_step (hb0_ HB.out) hb); have n1_ := Aside0.mk (hbox); have n2_ := Aside0.mk ((by rw [hg]; exact (below_size (hb0_ HB.out)) : w.heap.size ≤ gb101)); have n3_ := Aside0.mk ((by rw [hg]; exact (below_size (hb0_ HB.out)) : w.heap.size ≤ gb101)); clear HB; have HB := n0_; have BK101 := n1_; have GW101 := n2_; have GE101 := n3_; clear n0_ n1_ n2_ n3_ hb hbox hg; have hcz6_0 : w5.cell? ⟨gb101, 0, none⟩ = some (.int .i64 a0_0) := (blk_cell BK101.out 0).trans rfl; have hcz6_1 : w5.cell? ⟨gb101, 1, none⟩ = some (.int .i64 a0_1) := (blk_cell BK101.out 1).trans rfl; have hcz6_2 : w5.cell? ⟨gb101, 2, none⟩ = some (.slice A0_2 l0_2.length c0_2) := (blk_cell BK101.out 2).trans rfl; have hcz6_3 : w5.cell? ⟨gb101, 3, none⟩ = some (.slice A0_3 l0_3.length c0_3) := (blk_cell BK101.out 3).trans rfl; have hcz6_4 : w5.cell? ⟨gb101, 4, none⟩ = some (.slice A0_4 l0_4.length c0_4) := (blk_cell BK101.out 4).trans rfl; have hcz6_5 : w5.cell? ⟨gb101, 5, none⟩ = some (.slice A0_5 l0_5.length c0_5) := (blk_cell BK101.out 5).trans rfl; have hcz6_6 : w5.cell? ⟨gb101, 6, none⟩ = some (.slice A0_6 l0_6.length c0_6) := (blk_cell BK101.out 6).trans rfl; have hcz6_7 : w5.cell? ⟨gb101, 7, none⟩ = some (.bool a0_7) := (blk_cell BK101.out 7).trans rfl; have hfz6_0 := blk_frozen BK101.out 0; have hfz6_1 := blk_frozen BK101.out 1; have hfz6_2 := blk_frozen BK101.out 2; have hfz6_3 := blk_frozen BK101.out 3; have hfz6_4 := blk_frozen BK101.out 4; have hfz6_5 := blk_frozen BK101.out 5; have hfz6_6 := blk_frozen BK101.out 6; have hfz6_7 := blk_frozen BK101.out 7))
    go_ret
    exact ⟨by first | rfl | (simp [errW_none, errW_some] <;> rfl) | (simp [*, errW_none, errW_some] <;> rfl), by repeat (first | (with_reducible first | exact HB.out | apply below_alloc | apply pw_below_drewN | apply below_drew1 | refine below_set ?_ GE101.out) | exact HB.out)⟩
   ·
    rw [if_neg c4] at H
    have c4b0 : (a0_1 == 1) = false := beq_eq_false_iff_ne.mpr c4
    have c4b1 : (a0_1 != 1) = true := bne_iff_ne.mpr c4
    by_cases c7 : a0_1 = 8
    ·
     rw [if_pos c7] at H
     have c7b0 : (a0_1 == 8) = true := beq_iff_eq.mpr c7
     have c7b1 : (a0_1 != 8) = false := bne_eq_false_iff_eq.mpr c7
     clear c7
     obtain rfl := Option.some.inj H
     go_enter Try.func56, Try.ntmps56
     go_wp2_with (first | ((with_reducible refine gate_dst (N := 1) rfl ?_); (try (refine gate_guard (by rfl) ?_; dsimp only)); refine box_event ?hg (N := 1) ?hd (cs := #[.int .i64 a0_0, .int .i64 a0_1, .slice A0_2 l0_2.length c0_2, .slice A0_3 l0_3.length c0_3, .slice A0_4 l0_4.length c0_4, .slice A0_5 l0_5.length c0_5, .slice A0_6 l0_6.length c0_6, .bool a0_7]) (t := 31) ?hr ?_; (case hd => rfl); (case hg => rfl); (case hr => first | (go_simp; done) | (go_simp; rfl)); intro gb101 hg w8 hbox hb; have n0_ := Aside0.mk (below_step (hb0_ HB.out) hb); have n1_ := Aside0.mk (hbox); have n2_ := Aside0.mk ((by rw [hg]; exact (below_size (hb0_ HB.out)) : w.heap.size ≤ gb101)); have n3_ := Aside0.mk ((by rw [hg]; exact (below_size (hb0_ HB.out)) : w.heap.size ≤ gb101)); clear HB; have HB := n0_; have BK101 := n1_; have GW101 := n2_; have GE101 := n3_; clear n0_ n1_ n2_ n3_ hb hbox hg; have hcz9_0 : w8.cell? ⟨gb101, 0, none⟩ = some (.int .i64 a0_0) := (blk_cell BK101.out 0).trans rfl; have hcz9_1 : w8.cell? ⟨gb101, 1, none⟩ = some (.int .i64 a0_1) := (blk_cell BK101.out 1).trans rfl; have hcz9_2 : w8.cell? ⟨gb101, 2, none⟩ = some (.slice A0_2 l0_2.length c0_2) := (blk_cell BK101.out 2).trans rfl; have hcz9_3 : w8.cell? ⟨gb101, 3, none⟩ = some (.slice A0_3 l0_3.length c0_3) := (blk_cell BK101.out 3).trans rfl; have hcz9_4 : w8.cell? ⟨gb101, 4, none⟩ = some (.slice A0_4 l0_4.length c0_4) := (blk_cell BK101.out 4).trans rfl; have hcz9_5 : w8.cell? ⟨gb101, 5, none⟩ = some (.slice A0_5 l0_5.length c0_5) := (blk_cell BK101.out 5).trans rfl; have hcz9_6 : w8.cell? ⟨gb101, 6, none⟩ = some (.slice A0_6 l0_6.length c0_6) := (blk_cell BK101.out 6).trans rfl; have hcz9_7 : w8.cell? ⟨gb101, 7, none⟩ = some (.bool a0_7) := (blk_cell BK101.out 7).trans rfl; have hfz9_0 := blk_frozen BK101.out 0; have hfz9_1 := blk_frozen BK101.out 1; have hfz9_2 := blk_frozen BK101.out 2; have hfz9_3 := blk_frozen BK101.out 3; have hfz9_4 := blk_frozen BK101.out 4; have hfz9_5 := blk_frozen BK101.out 5; have hfz9_6 := blk_frozen BK101.out 6; have hfz9_7 := blk_frozen BK101.out 7))
     go_ret
     exact ⟨by first | rfl | (simp [errW_none, errW_some] <;> rfl) | (simp [*, errW_none, errW_some] <;> rfl), by repeat (first | (with_reducible first | exact HB.out | apply below_alloc | apply pw_below_drewN | apply below_drew1 | refine below_set ?_ GE101.out) | exact HB.out)⟩
    ·
     rw [if_neg c7] at H
     have c7b0 : (a0_1 == 8) = false := beq_eq_false_iff_ne.mpr c7
     have c7b1 : (a0_1 != 8) = true := bne_iff_ne.mpr c7
     obtain rfl := Option.some.inj H
     go_enter Try.func56, Try.ntmps56
     go_wp2_with (first | ((with_reducible refine gate_dst (N := 1) rfl ?_); (try (refine gate_guard (by rfl) ?_; dsimp only)); refine box_event ?hg (N := 1) ?hd (cs := #[.int .i64 a0_0, .int .i64 a0_1, .slice A0_2 l0_2.length c0_2, .slice A0_3 l0_3.length c0_3, .slice A0_4 l0_4.length c0_4, .slice A0_5 l0_5.length c0_5, .slice A0_6 l0_6.length c0_6, .bool a0_7]) (t := 31) ?hr ?_; (case hd => rfl); (case hg => rfl); (case hr => first | (go_simp; done) | (go_simp; rfl)); intro gb101 hg w10 hbox hb; have n0_ := Aside0.mk (below_step (hb0_ HB.out) hb); have n1_ := Aside0.mk (hbox); have n2_ := Aside0.mk ((by rw [hg]; exact (below_size (hb0_ HB.out)) : w.heap.size ≤ gb101)); have n3_ := Aside0.mk ((by rw [hg]; exact (below_size (hb0_ HB.out)) : w.heap.size ≤ gb101)); clear HB; have HB := n0_; have BK101 := n1_; have GW101 := n2_; have GE101 := n3_; clear n0_ n1_ n2_ n3_ hb hbox hg; have hcz11_0 : w10.cell? ⟨gb101, 0, none⟩ = some (.int .i64 a0_0) := (blk_cell BK101.out 0).trans rfl; have hcz11_1 : w10.cell? ⟨gb101, 1, none⟩ = some (.int .i64 a0_1) := (blk_cell BK101.out 1).trans rfl; have hcz11_2 : w10.cell? ⟨gb101, 2, none⟩ = some (.slice A0_2 l0_2.length c0_2) := (blk_cell BK101.out 2).trans rfl; have hcz11_3 : w10.cell? ⟨gb101, 3, none⟩ = some (.slice A0_3 l0_3.length c0_3) := (blk_cell BK101.out 3).trans rfl; have hcz11_4 : w10.cell? ⟨gb101, 4, none⟩ = some (.slice A0_4 l0_4.length c0_4) := (blk_cell BK101.out 4).trans rfl; have hcz11_5 : w10.cell? ⟨gb101, 5, none⟩ = some (.slice A0_5 l0_5.length c0_5) := (blk_cell BK101.out 5).trans rfl; have hcz11_6 : w10.cell? ⟨gb101, 6, none⟩ = some (.slice A0_6 l0_6.length c0_6) := (blk_cell BK101.out 6).trans rfl; have hcz11_7 : w10.cell? ⟨gb101, 7, none⟩ = some (.bool a0_7) := (blk_cell BK101.out 7).trans rfl; have hfz11_0 := blk_frozen BK101.out 0; have hfz11_1 := blk_frozen BK101.out 1; have hfz11_2 := blk_frozen BK101.out 2; have hfz11_3 := blk_frozen BK101.out 3; have hfz11_4 := blk_frozen BK101.out 4; have hfz11_5 := blk_frozen BK101.out 5; have hfz11_6 := blk_frozen BK101.out 6; have hfz11_7 := blk_frozen BK101.out 7))
     go_ret
     exact ⟨by first | rfl | (simp [errW_none, errW_some] <;> rfl) | (simp [*, errW_none, errW_some] <;> rfl), by repeat (first | (with_reducible first | exact HB.out | apply below_alloc | apply pw_below_drewN | apply below_drew1 | refine below_set ?_ GE101.out) | exact HB.out)⟩
  ·
   rw [if_neg c3] at H
   have c3b0 : decide (a0_0 ≤ 1024) = false := decide_eq_false c3
   clear c3
   obtain rfl := Option.some.inj H
   go_enter Try.func56, Try.ntmps56
   go_wp2_with (first | ((with_reducible refine gate_dst (N := 1) rfl ?_); (try (refine gate_guard (by rfl) ?_; dsimp only)); refine box_event ?hg (N := 1) ?hd (cs := #[.int .i64 a0_0, .int .i64 a0_1, .slice A0_2 l0_2.length c0_2, .slice A0_3 l0_3.length c0_3, .slice A0_4 l0_4.length c0_4, .slice A0_5 l0_5.length c0_5, .slice A0_6 l0_6.length c0_6, .bool a0_7]) (t := 31) ?hr ?_; (case hd => rfl); (case hg => rfl); (case hr => first | (go_simp; done) | (go_simp; rfl)); intro gb101 hg w12 hbox hb; have n0_ := Aside0.mk (below_step (hb0_ HB.out) hb); have n1_ := Aside0.mk (hbox); have n2_ := Aside0.mk ((by rw [hg]; exact (below_size (hb0_ HB.out)) : w.heap.size ≤ gb101)); have n3_ := Aside0.mk ((by rw [hg]; exact (below_size (hb0_ HB.out)) : w.heap.size ≤ gb101)); clear HB; have HB := n0_; have BK101 := n1_; have GW101 := n2_; have GE101 := n3_; clear n0_ n1_ n2_ n3_ hb hbox hg; have hcz13_0 : w12.cell? ⟨gb101, 0, none⟩ = some (.int .i64 a0_0) := (blk_cell BK101.out 0).trans rfl; have hcz13_1 : w12.cell? ⟨gb101, 1, none⟩ = some (.int .i64 a0_1) := (blk_cell BK101.out 1).trans rfl; have hcz13_2 : w12.cell? ⟨gb101, 2, none⟩ = some (.slice A0_2 l0_2.length c0_2) := (blk_cell BK101.out 2).trans rfl; have hcz13_3 : w12.cell? ⟨gb101, 3, none⟩ = some (.slice A0_3 l0_3.length c0_3) := (blk_cell BK101.out 3).trans rfl; have hcz13_4 : w12.cell? ⟨gb101, 4, none⟩ = some (.slice A0_4 l0_4.length c0_4) := (blk_cell BK101.out 4).trans rfl; have hcz13_5 : w12.cell? ⟨gb101, 5, none⟩ = some (.slice A0_5 l0_5.length c0_5) := (blk_cell BK101.out 5).trans rfl; have hcz13_6 : w12.cell? ⟨gb101, 6, none⟩ = some (.slice A0_6 l0_6.length c0_6) := (blk_cell BK101.out 6).trans rfl; have hcz13_7 : w12.cell? ⟨gb101, 7, none⟩ = some (.bool a0_7) := (blk_cell BK101.out 7).trans rfl; have hfz13_0 := blk_frozen BK101.out 0; have hfz13_1 := blk_frozen BK101.out 1; have hfz13_2 := blk_frozen BK101.out 2; have hfz13_3 := blk_frozen BK101.out 3; have hfz13_4 := blk_frozen BK101.out 4; have hfz13_5 := blk_frozen BK101.out 5; have hfz13_6 := blk_frozen BK101.out 6; have hfz13_7 := blk_frozen BK101.out 7))
   go_ret
   exact ⟨by first | rfl | (simp [errW_none, errW_some] <;> rfl) | (simp [*, errW_none, errW_some] <;> rfl), by repeat (first | (with_reducible first | exact HB.out | apply below_alloc | apply pw_below_drewN | apply below_drew1 | refine below_set ?_ GE101.out) | exact HB.out)⟩
 ·
  rw [if_neg c2] at H
  have c2b0 : decide (0 ≤ a0_0) = false := decide_eq_false c2
  clear c2
  obtain rfl := Option.some.inj H
  go_enter Try.func56, Try.ntmps56
  go_wp2_with (first | ((with_reducible refine gate_dst (N := 1) rfl ?_); (try (refine gate_guard (by rfl) ?_; dsimp only)); refine box_event ?hg (N := 1) ?hd (cs := #[.int .i64 a0_0, .int .i64 a0_1, .slice A0_2 l0_2.length c0_2, .slice A0_3 l0_3.length c0_3, .slice A0_4 l0_4.length c0_4, .slice A0_5 l0_5.length c0_5, .slice A0_6 l0_6.length c0_6, .bool a0_7]) (t := 31) ?hr ?_; (case hd => rfl); (case hg => rfl); (case hr => first | (go_simp; done) | (go_simp; rfl)); intro gb101 hg w14 hbox hb; have n0_ := Aside0.mk (below_step (hb0_ HB.out) hb); have n1_ := Aside0.mk (hbox); have n2_ := Aside0.mk ((by rw [hg]; exact (below_size (hb0_ HB.out)) : w.heap.size ≤ gb101)); have n3_ := Aside0.mk ((by rw [hg]; exact (below_size (hb0_ HB.out)) : w.heap.size ≤ gb101)); clear HB; have HB := n0_; have BK101 := n1_; have GW101 := n2_; have GE101 := n3_; clear n0_ n1_ n2_ n3_ hb hbox hg; have hcz15_0 : w14.cell? ⟨gb101, 0, none⟩ = some (.int .i64 a0_0) := (blk_cell BK101.out 0).trans rfl; have hcz15_1 : w14.cell? ⟨gb101, 1, none⟩ = some (.int .i64 a0_1) := (blk_cell BK101.out 1).trans rfl; have hcz15_2 : w14.cell? ⟨gb101, 2, none⟩ = some (.slice A0_2 l0_2.length c0_2) := (blk_cell BK101.out 2).trans rfl; have hcz15_3 : w14.cell? ⟨gb101, 3, none⟩ = some (.slice A0_3 l0_3.length c0_3) := (blk_cell BK101.out 3).trans rfl; have hcz15_4 : w14.cell? ⟨gb101, 4, none⟩ = some (.slice A0_4 l0_4.length c0_4) := (blk_cell BK101.out 4).trans rfl; have hcz15_5 : w14.cell? ⟨gb101, 5, none⟩ = some (.slice A0_5 l0_5.length c0_5) := (blk_cell BK101.out 5).trans rfl; have hcz15_6 : w14.cell? ⟨gb101, 6, none⟩ = some (.slice A0_6 l0_6.length c0_6) := (blk_cell BK101.out 6).trans rfl; have hcz15_7 : w14.cell? ⟨gb101, 7, none⟩ = some (.bool a0_7) := (blk_cell BK101.out 7).trans rfl; have hfz15_0 := blk_frozen BK101.out 0; have hfz15_1 := blk_frozen BK101.out 1; have hfz15_2 := blk_frozen BK101.out 2; have hfz15_3 := blk_frozen BK101.out 3; have hfz15_4 := blk_frozen BK101.out 4; have hfz15_5 := blk_frozen BK101.out 5; have hfz15_6 := blk_frozen BK101.out 6; have hfz15_7 := blk_frozen BK101.out 7))
  go_ret
  exact ⟨by first | rfl | (simp [errW_none, errW_some] <;> rfl) | (simp [*, errW_none, errW_some] <;> rfl), by repeat (first | (with_reducible first | exact HB.out | apply below_alloc | apply pw_below_drewN | apply below_drew1 | refine below_set ?_ GE101.out) | exact HB.out)⟩

/-! ### product_Lay_1: function 73 -/
def product_Lay_1.f (a0_0 : Int) (a0_1 : Int) (l0_2 : List Int) (l0_3 : List Int) (l0_4 : List (S101)) (l0_5 : List (S79)) (l0_6 : List Int) (a0_7 : Bool) : Option (Bool) := (mask_Valid.f a0_0 a0_1 l0_2 l0_3 l0_4 l0_5 l0_6 a0_7).bind fun t103 => (some (!t103))
set_option maxHeartbeats 8000000 in
set_option maxRecDepth 100000 in
theorem product_Lay_1.calls (a0_0 : Int) (a0_1 : Int) (A0_2 : Option Addr) (c0_2 : Nat) (l0_2 : List Int) (A0_3 : Option Addr) (c0_3 : Nat) (l0_3 : List Int) (A0_4 : Option Addr) (c0_4 : Nat) (l0_4 : List (S101)) (A0_5 : Option Addr) (c0_5 : Nat) (l0_5 : List (S79)) (A0_6 : Option Addr) (c0_6 : Nat) (l0_6 : List Int) (a0_7 : Bool) (r : Bool) (w : World) (hr0_2 : Kd.C (Kd.int .u8) w A0_2 l0_2.length l0_2) (hc0_2 : l0_2.length ≤ c0_2) (hr0_3 : Kd.C (Kd.int .i64) w A0_3 l0_3.length l0_3) (hc0_3 : l0_3.length ≤ c0_3) (hr0_4 : Kd.C k101 w A0_4 l0_4.length l0_4) (hc0_4 : l0_4.length ≤ c0_4) (hr0_5 : Kd.C k79 w A0_5 l0_5.length l0_5) (hc0_5 : l0_5.length ≤ c0_5) (hr0_6 : Kd.C (Kd.int .i64) w A0_6 l0_6.length l0_6) (hc0_6 : l0_6.length ≤ c0_6) (h : product_Lay_1.f a0_0 a0_1 l0_2 l0_3 l0_4 l0_5 l0_6 a0_7 = some r) :
  Calls Try.prog 73 #[.agg #[.int .i64 a0_0, .int .i64 a0_1, .slice A0_2 l0_2.length c0_2, .slice A0_3 l0_3.length c0_3, .slice A0_4 l0_4.length c0_4, .slice A0_5 l0_5.length c0_5, .slice A0_6 l0_6.length c0_6, .bool a0_7]] w fun e w' => e = .returned (.bool r) ∧ Below w.heap.size w w' := by
 have hu31 := Try.underlying31
 have HR0_2 := Aside0.mk hr0_2
 have HC0_2 := Aside0.mk hc0_2
 clear hr0_2 hc0_2
 have HR0_3 := Aside0.mk hr0_3
 have HC0_3 := Aside0.mk hc0_3
 clear hr0_3 hc0_3
 have HR0_4 := Aside0.mk hr0_4
 have HC0_4 := Aside0.mk hc0_4
 clear hr0_4 hc0_4
 have HR0_5 := Aside0.mk hr0_5
 have HC0_5 := Aside0.mk hc0_5
 clear hr0_5 hc0_5
 have HR0_6 := Aside0.mk hr0_6
 have HC0_6 := Aside0.mk hc0_6
 clear hr0_6 hc0_6
 have HB := Aside0.mk (Below.refl w.heap.size w)
 have H : ((mask_Valid.f a0_0 a0_1 l0_2 l0_3 l0_4 l0_5 l0_6 a0_7).bind fun t103 => (some (!t103))) = some r := h
 clear h
 replace H := Option.bind_eq_some_iff.mp H
 obtain ⟨t103, A20, H⟩ := H
 replace H : (some (!t103)) = some r := H
 have A2 := Aside0.mk A20
 clear A20
 obtain rfl := Option.some.inj H
 go_enter Try.func73, Try.ntmps73
 go_wp2_with (first | ((with_reducible refine gate_dst (N := 1) rfl ?_); refine box_event ?hg (N := 1) ?hd (cs := #[.int .i64 a0_0, .int .i64 a0_1, .slice A0_2 l0_2.length c0_2, .slice A0_3 l0_3.length c0_3, .slice A0_4 l0_4.length c0_4, .slice A0_5 l0_5.length c0_5, .slice A0_6 l0_6.length c0_6, .bool a0_7]) (t := 31) ?hr ?_; (case hd => rfl); (case hg => rfl); (case hr => first | (go_simp; done) | (go_simp; rfl)); intro gb102 hg w3 hbox hb; have n0_ := Aside0.mk (below_step (hb0_ HB.out) hb); have n1_ := Aside0.mk (hbox); have n2_ := Aside0.mk ((by rw [hg]; exact (below_size (hb0_ HB.out)) : w.heap.size ≤ gb102)); have n3_ := Aside0.mk ((by rw [hg]; exact (below_size (hb0_ HB.out)) : w.heap.size ≤ gb102)); clear HB; have HB := n0_; have BK102 := n1_; have GW102 := n2_; have GE102 := n3_; clear n0_ n1_ n2_ n3_ hb hbox hg; have hcz4_0 : w3.cell? ⟨gb102, 0, none⟩ = some (.int .i64 a0_0) := (blk_cell BK102.out 0).trans rfl; have hcz4_1 : w3.cell? ⟨gb102, 1, none⟩ = some (.int .i64 a0_1) := (blk_cell BK102.out 1).trans rfl; have hcz4_2 : w3.cell? ⟨gb102, 2, none⟩ = some (.slice A0_2 l0_2.length c0_2) := (blk_cell BK102.out 2).trans rfl; have hcz4_3 : w3.cell? ⟨gb102, 3, none⟩ = some (.slice A0_3 l0_3.length c0_3) := (blk_cell BK102.out 3).trans rfl; have hcz4_4 : w3.cell? ⟨gb102, 4, none⟩ = some (.slice A0_4 l0_4.length c0_4) := (blk_cell BK102.out 4).trans rfl; have hcz4_5 : w3.cell? ⟨gb102, 5, none⟩ = some (.slice A0_5 l0_5.length c0_5) := (blk_cell BK102.out 5).trans rfl; have hcz4_6 : w3.cell? ⟨gb102, 6, none⟩ = some (.slice A0_6 l0_6.length c0_6) := (blk_cell BK102.out 6).trans rfl; have hcz4_7 : w3.cell? ⟨gb102, 7, none⟩ = some (.bool a0_7) := (blk_cell BK102.out 7).trans rfl; have hfz4_0 := blk_frozen BK102.out 0; have hfz4_1 := blk_frozen BK102.out 1; have hfz4_2 := blk_frozen BK102.out 2; have hfz4_3 := blk_frozen BK102.out 3; have hfz4_4 := blk_frozen BK102.out 4; have hfz4_5 := blk_frozen BK102.out 5; have hfz4_6 := blk_frozen BK102.out 6; have hfz4_7 := blk_frozen BK102.out 7) | ((with_reducible refine gate_callee (f := 56) rfl ?_); refine goesL_ (some 4) rfl rfl Try.func56 (by kernel_rfl) rfl #[.agg #[.int .i64 a0_0, .int .i64 a0_1, .slice A0_2 l0_2.length c0_2, .slice A0_3 l0_3.length c0_3, .slice A0_4 l0_4.length c0_4, .slice A0_5 l0_5.length c0_5, .slice A0_6 l0_6.length c0_6, .bool a0_7]] rfl (by (try simp only [List.map_toArray, List.map_cons, List.map_nil]); first | done | rfl | (simp only [List.length_drop, List.length_take]; rfl)) ?_; (with_reducible refine (mask_Valid.calls a0_0 a0_1 _ _ l0_2 _ _ l0_3 _ _ l0_4 _ _ l0_5 _ _ l0_6 a0_7 t103 _ ?side1 ?side2 ?side3 ?side4 ?side5 ?side6 ?side7 ?side8 ?side9 ?side10 A2.out).mono ?_); (case side1 => repeat (first | exact (Kd.C_below HR0_2.out HB.out) | (with_reducible refine Kd.C_alloc ?_ _) | (with_reducible refine Kd.C_drewN ?_ _) | (with_reducible refine Kd.C_drew ?_))); (case side2 => exact HC0_2.out); (case side3 => repeat (first | exact (Kd.C_below HR0_3.out HB.out) | (with_reducible refine Kd.C_alloc ?_ _) | (with_reducible refine Kd.C_drewN ?_ _) | (with_reducible refine Kd.C_drew ?_))); (case side4 => exact HC0_3.out); (case side5 => repeat (first | exact (Kd.C_below HR0_4.out HB.out) | (with_reducible refine Kd.C_alloc ?_ _) | (with_reducible refine Kd.C_drewN ?_ _) | (with_reducible refine Kd.C_drew ?_))); (case side6 => exact HC0_4.out); (case side7 => repeat (first | exact (Kd.C_below HR0_5.out HB.out) | (with_reducible refine Kd.C_alloc ?_ _) | (with_reducible refine Kd.C_drewN ?_ _) | (with_reducible refine Kd.C_drew ?_))); (case side8 => exact HC0_5.out); (case side9 => repeat (first | exact (Kd.C_below HR0_6.out HB.out) | (with_reducible refine Kd.C_alloc ?_ _) | (with_reducible refine Kd.C_drewN ?_ _) | (with_reducible refine Kd.C_drew ?_))); (case side10 => exact HC0_6.out); rintro e w5 ⟨rfl, hb⟩; refine ⟨_, rfl, ?_⟩; have n0_ := Aside0.mk (blk_below (g := gb102) (o := .cells #[.int .i64 a0_0, .int .i64 a0_1, .slice A0_2 l0_2.length c0_2, .slice A0_3 l0_3.length c0_3, .slice A0_4 l0_4.length c0_4, .slice A0_5 l0_5.length c0_5, .slice A0_6 l0_6.length c0_6, .bool a0_7] 31 (0, 0)) (bk_ BK102.out) hb); have n1_ := Aside0.mk (below_step (hb1_ HB.out GE102.out) hb); clear BK102 HB; have BK102 := n0_; have HB := n1_; clear n0_ n1_; (try clear hb); (try clear hb2); (try clear hk); (try clear hi)))
 go_ret
 exact ⟨by first | rfl | (simp [errW_none, errW_some] <;> rfl) | (simp [*, errW_none, errW_some] <;> rfl), by repeat (first | (with_reducible first | exact HB.out | apply below_alloc | apply pw_below_drewN | apply below_drew1 | refine below_set ?_ GE102.out) | exact HB.out)⟩

/-! ### sum_Lay_1: function 77 -/
def sum_Lay_1.f (a0_0 : Int) (a0_1 : Int) (l0_2 : List Int) (l0_3 : List Int) (l0_4 : List (S101)) (l0_5 : List (S79)) (l0_6 : List Int) (a0_7 : Bool) : Option (Bool) := (mask_Valid.f a0_0 a0_1 l0_2 l0_3 l0_4 l0_5 l0_6 a0_7).bind fun t105 => (some (!t105))
set_option maxHeartbeats 8000000 in
set_option maxRecDepth 100000 in
theorem sum_Lay_1.calls (a0_0 : Int) (a0_1 : Int) (A0_2 : Option Addr) (c0_2 : Nat) (l0_2 : List Int) (A0_3 : Option Addr) (c0_3 : Nat) (l0_3 : List Int) (A0_4 : Option Addr) (c0_4 : Nat) (l0_4 : List (S101)) (A0_5 : Option Addr) (c0_5 : Nat) (l0_5 : List (S79)) (A0_6 : Option Addr) (c0_6 : Nat) (l0_6 : List Int) (a0_7 : Bool) (r : Bool) (w : World) (hr0_2 : Kd.C (Kd.int .u8) w A0_2 l0_2.length l0_2) (hc0_2 : l0_2.length ≤ c0_2) (hr0_3 : Kd.C (Kd.int .i64) w A0_3 l0_3.length l0_3) (hc0_3 : l0_3.length ≤ c0_3) (hr0_4 : Kd.C k101 w A0_4 l0_4.length l0_4) (hc0_4 : l0_4.length ≤ c0_4) (hr0_5 : Kd.C k79 w A0_5 l0_5.length l0_5) (hc0_5 : l0_5.length ≤ c0_5) (hr0_6 : Kd.C (Kd.int .i64) w A0_6 l0_6.length l0_6) (hc0_6 : l0_6.length ≤ c0_6) (h : sum_Lay_1.f a0_0 a0_1 l0_2 l0_3 l0_4 l0_5 l0_6 a0_7 = some r) :
  Calls Try.prog 77 #[.agg #[.int .i64 a0_0, .int .i64 a0_1, .slice A0_2 l0_2.length c0_2, .slice A0_3 l0_3.length c0_3, .slice A0_4 l0_4.length c0_4, .slice A0_5 l0_5.length c0_5, .slice A0_6 l0_6.length c0_6, .bool a0_7]] w fun e w' => e = .returned (.bool r) ∧ Below w.heap.size w w' := by
 have hu31 := Try.underlying31
 have HR0_2 := Aside0.mk hr0_2
 have HC0_2 := Aside0.mk hc0_2
 clear hr0_2 hc0_2
 have HR0_3 := Aside0.mk hr0_3
 have HC0_3 := Aside0.mk hc0_3
 clear hr0_3 hc0_3
 have HR0_4 := Aside0.mk hr0_4
 have HC0_4 := Aside0.mk hc0_4
 clear hr0_4 hc0_4
 have HR0_5 := Aside0.mk hr0_5
 have HC0_5 := Aside0.mk hc0_5
 clear hr0_5 hc0_5
 have HR0_6 := Aside0.mk hr0_6
 have HC0_6 := Aside0.mk hc0_6
 clear hr0_6 hc0_6
 have HB := Aside0.mk (Below.refl w.heap.size w)
 have H : ((mask_Valid.f a0_0 a0_1 l0_2 l0_3 l0_4 l0_5 l0_6 a0_7).bind fun t105 => (some (!t105))) = some r := h
 clear h
 replace H := Option.bind_eq_some_iff.mp H
 obtain ⟨t105, A20, H⟩ := H
 replace H : (some (!t105)) = some r := H
 have A2 := Aside0.mk A20
 clear A20
 obtain rfl := Option.some.inj H
 go_enter Try.func77, Try.ntmps77
 go_wp2_with (first | ((with_reducible refine gate_dst (N := 1) rfl ?_); refine box_event ?hg (N := 1) ?hd (cs := #[.int .i64 a0_0, .int .i64 a0_1, .slice A0_2 l0_2.length c0_2, .slice A0_3 l0_3.length c0_3, .slice A0_4 l0_4.length c0_4, .slice A0_5 l0_5.length c0_5, .slice A0_6 l0_6.length c0_6, .bool a0_7]) (t := 31) ?hr ?_; (case hd => rfl); (case hg => rfl); (case hr => first | (go_simp; done) | (go_simp; rfl)); intro gb104 hg w3 hbox hb; have n0_ := Aside0.mk (below_step (hb0_ HB.out) hb); have n1_ := Aside0.mk (hbox); have n2_ := Aside0.mk ((by rw [hg]; exact (below_size (hb0_ HB.out)) : w.heap.size ≤ gb104)); have n3_ := Aside0.mk ((by rw [hg]; exact (below_size (hb0_ HB.out)) : w.heap.size ≤ gb104)); clear HB; have HB := n0_; have BK104 := n1_; have GW104 := n2_; have GE104 := n3_; clear n0_ n1_ n2_ n3_ hb hbox hg; have hcz4_0 : w3.cell? ⟨gb104, 0, none⟩ = some (.int .i64 a0_0) := (blk_cell BK104.out 0).trans rfl; have hcz4_1 : w3.cell? ⟨gb104, 1, none⟩ = some (.int .i64 a0_1) := (blk_cell BK104.out 1).trans rfl; have hcz4_2 : w3.cell? ⟨gb104, 2, none⟩ = some (.slice A0_2 l0_2.length c0_2) := (blk_cell BK104.out 2).trans rfl; have hcz4_3 : w3.cell? ⟨gb104, 3, none⟩ = some (.slice A0_3 l0_3.length c0_3) := (blk_cell BK104.out 3).trans rfl; have hcz4_4 : w3.cell? ⟨gb104, 4, none⟩ = some (.slice A0_4 l0_4.length c0_4) := (blk_cell BK104.out 4).trans rfl; have hcz4_5 : w3.cell? ⟨gb104, 5, none⟩ = some (.slice A0_5 l0_5.length c0_5) := (blk_cell BK104.out 5).trans rfl; have hcz4_6 : w3.cell? ⟨gb104, 6, none⟩ = some (.slice A0_6 l0_6.length c0_6) := (blk_cell BK104.out 6).trans rfl; have hcz4_7 : w3.cell? ⟨gb104, 7, none⟩ = some (.bool a0_7) := (blk_cell BK104.out 7).trans rfl; have hfz4_0 := blk_frozen BK104.out 0; have hfz4_1 := blk_frozen BK104.out 1; have hfz4_2 := blk_frozen BK104.out 2; have hfz4_3 := blk_frozen BK104.out 3; have hfz4_4 := blk_frozen BK104.out 4; have hfz4_5 := blk_frozen BK104.out 5; have hfz4_6 := blk_frozen BK104.out 6; have hfz4_7 := blk_frozen BK104.out 7) | ((with_reducible refine gate_callee (f := 56) rfl ?_); refine goesL_ (some 4) rfl rfl Try.func56 (by kernel_rfl) rfl #[.agg #[.int .i64 a0_0, .int .i64 a0_1, .slice A0_2 l0_2.length c0_2, .slice A0_3 l0_3.length c0_3, .slice A0_4 l0_4.length c0_4, .slice A0_5 l0_5.length c0_5, .slice A0_6 l0_6.length c0_6, .bool a0_7]] rfl (by (try simp only [List.map_toArray, List.map_cons, List.map_nil]); first | done | rfl | (simp only [List.length_drop, List.length_take]; rfl)) ?_; (with_reducible refine (mask_Valid.calls a0_0 a0_1 _ _ l0_2 _ _ l0_3 _ _ l0_4 _ _ l0_5 _ _ l0_6 a0_7 t105 _ ?side1 ?side2 ?side3 ?side4 ?side5 ?side6 ?side7 ?side8 ?side9 ?side10 A2.out).mono ?_); (case side1 => repeat (first | exact (Kd.C_below HR0_2.out HB.out) | (with_reducible refine Kd.C_alloc ?_ _) | (with_reducible refine Kd.C_drewN ?_ _) | (with_reducible refine Kd.C_drew ?_))); (case side2 => exact HC0_2.out); (case side3 => repeat (first | exact (Kd.C_below HR0_3.out HB.out) | (with_reducible refine Kd.C_alloc ?_ _) | (with_reducible refine Kd.C_drewN ?_ _) | (with_reducible refine Kd.C_drew ?_))); (case side4 => exact HC0_3.out); (case side5 => repeat (first | exact (Kd.C_below HR0_4.out HB.out) | (with_reducible refine Kd.C_alloc ?_ _) | (with_reducible refine Kd.C_drewN ?_ _) | (with_reducible refine Kd.C_drew ?_))); (case side6 => exact HC0_4.out); (case side7 => repeat (first | exact (Kd.C_below HR0_5.out HB.out) | (with_reducible refine Kd.C_alloc ?_ _) | (with_reducible refine Kd.C_drewN ?_ _) | (with_reducible refine Kd.C_drew ?_))); (case side8 => exact HC0_5.out); (case side9 => repeat (first | exact (Kd.C_below HR0_6.out HB.out) | (with_reducible refine Kd.C_alloc ?_ _) | (with_reducible refine Kd.C_drewN ?_ _) | (with_reducible refine Kd.C_drew ?_))); (case side10 => exact HC0_6.out); rintro e w5 ⟨rfl, hb⟩; refine ⟨_, rfl, ?_⟩; have n0_ := Aside0.mk (blk_below (g := gb104) (o := .cells #[.int .i64 a0_0, .int .i64 a0_1, .slice A0_2 l0_2.length c0_2, .slice A0_3 l0_3.length c0_3, .slice A0_4 l0_4.length c0_4, .slice A0_5 l0_5.length c0_5, .slice A0_6 l0_6.length c0_6, .bool a0_7] 31 (0, 0)) (bk_ BK104.out) hb); have n1_ := Aside0.mk (below_step (hb1_ HB.out GE104.out) hb); clear BK104 HB; have BK104 := n0_; have HB := n1_; clear n0_ n1_; (try clear hb); (try clear hb2); (try clear hk); (try clear hi)))
 go_ret
 exact ⟨by first | rfl | (simp [errW_none, errW_some] <;> rfl) | (simp [*, errW_none, errW_some] <;> rfl), by repeat (first | (with_reducible first | exact HB.out | apply below_alloc | apply pw_below_drewN | apply below_drew1 | refine below_set ?_ GE104.out) | exact HB.out)⟩

/-! ### AnyBadP: function 72 (by hand) -/
/-- Is a layout none that could be? -/
def badS (p : S31) : Bool := !(decide (0 ≤ p.f0) && decide (p.f0 ≤ 1024) && (decide (p.f1 = 1) || decide (p.f1 = 8)) && decide ((p.f2.length : Int) = p.f0))
theorem mask_Valid_eq (p : S31) : mask_Valid.f p.f0 p.f1 p.f2 p.f3 p.f4 p.f5 p.f6 p.f7 = some (!(badS p)) := by
  unfold mask_Valid.f badS
  by_cases h0 : 0 ≤ p.f0
  · by_cases h1 : p.f0 ≤ 1024
    · by_cases h2 : p.f1 = 1
      · rw [if_pos h0, if_pos h1, if_pos h2]; simp [h0, h1, h2]
        by_cases h4 : (p.f2.length : Int) = p.f0 <;> simp [h4]
      · by_cases h3 : p.f1 = 8
        · rw [if_pos h0, if_pos h1, if_neg h2, if_pos h3]; simp [h0, h1, h3]
          by_cases h4 : (p.f2.length : Int) = p.f0 <;> simp [h4]
        · rw [if_pos h0, if_pos h1, if_neg h2, if_neg h3]; simp [h2, h3]
    · rw [if_pos h0, if_neg h1]; simp [h1]
  · rw [if_neg h0]; simp [h0]
/-- The first place of a list at which p answers yes, from place k on; -1 if there is none. -/
def firstIx {α : Type} (p : α → Bool) : List α → Int → Int
  | [], _ => -1
  | x :: xs, k => if p x = true then k else firstIx p xs (k + 1)
theorem firstIx_ge {α : Type} (p : α → Bool) : ∀ (l : List α) (k : Int), 0 ≤ k → decide (firstIx p l k ≥ 0) = l.any p
  | [], k, _ => by simp [firstIx]
  | x :: xs, k, h => by
    by_cases hx : p x = true
    · simp [firstIx, hx, h]
    · have := firstIx_ge p xs (k + 1) (by omega)
      simp only [firstIx, hx, List.any_cons]
      simpa using this
theorem firstIx_drop {α : Type} (p : α → Bool) (l : List α) (z : α) (i : Int) (h0 : 0 ≤ i) (h1 : i < l.length) :
    firstIx p (l.drop i.toNat) i = if p (l.getD i.toNat z) = true then i else firstIx p (l.drop (i + 1).toNat) (i + 1) := by
  have h : i.toNat < l.length := by omega
  rw [List.drop_eq_getElem_cons h]
  have e : (i + 1).toNat = i.toNat + 1 := by omega
  rw [e, List.getD_eq_getElem?_getD, List.getElem?_eq_getElem h]
  rfl
theorem wrap_step {i : Int} {n : Nat} (h0 : 0 ≤ i) (h : i < n) (hn : n ≤ 9223372036854775807) : wrap64 (i + 1) = i + 1 := by
  unfold wrap64
  omega
set_option maxHeartbeats 2000000 in
theorem AnyBadPIx.calls (A0 : Option Addr) (c0 : Nat) (l0 : List S31) (w : World) (hr0 : Kd.C k31 w A0 l0.length l0) (hn : l0.length ≤ 9223372036854775807) :
    Calls Try.prog 92 #[.slice A0 l0.length c0, .func (.func 73) #[] #[]] w fun e w' => e = .returned (.int .i64 (firstIx badS l0 0)) ∧ Below w.heap.size w w' := by
  have hu31 := Try.underlying31
  have HR0 := Aside0.mk hr0
  have HN := Aside0.mk hn
  clear hr0 hn
  obtain ⟨r, hr⟩ : ∃ r : Int, firstIx badS l0 0 = r := ⟨_, rfl⟩
  rw [hr]
  have HI : Aside0 (firstIx badS (l0.drop (0 : Int).toNat) 0 = r) := ⟨hr⟩
  clear hr
  go_enter Try.func92, Try.ntmps92
  go_wp2
  go_loopg [8] l0.length (fun kq v8 w' => ∃ (x : Int), v8 = .int .i64 x ∧ Aside0 (0 ≤ x ∧ x + kq = l0.length) ∧ Aside0 (firstIx badS (l0.drop x.toNat) x = r) ∧ Aside0 (Below w.heap.size w w'))
  case atStart => exact ⟨0, rfl, ⟨by omega, by omega⟩, HI, ⟨Below.refl _ _⟩⟩
  case round =>
    clear HI
    obtain ⟨x, rfl, HX, HI, HB⟩ := hrel
    cases gk with
    | zero =>
      have c3b0 : decide (x < (l0.length : Int)) = false := decide_eq_false (by have := HX.out; omega)
      have hr : r = -1 := by
        have h1 := HI.out
        rw [List.drop_of_length_le (by have := HX.out; omega)] at h1
        exact h1.symm
      subst hr
      go_wp2
      go_ret
      exact ⟨rfl, HB.out⟩
    | succ k1 =>
      have c3 : x < (l0.length : Int) := by have := HX.out; omega
      have c30 : 0 ≤ x := HX.out.1
      have HD := Aside0.mk (firstIx_drop badS l0 z31 x c30 c3)
      have c3b0 : decide (x < (l0.length : Int)) = true := decide_eq_true c3
      obtain ⟨ad, A2, c2, A3, c3_, A4, c4, A5, c5, A6, c6, e, hx0, hx1, hx2, hx3, hx4, hx5, hx6, hx7, hl2, hi2, hl3, hi3, hl4, hi4, hl5, hi5, hl6, hi6⟩ := at_T31 HR0.out x c30 c3
      cases e
      replace hx0 := (HB.out.cell (World.block_lt_of_cell? w _ hx0)).trans hx0
      replace hx1 := (HB.out.cell (World.block_lt_of_cell? w _ hx1)).trans hx1
      replace hx2 := (HB.out.cell (World.block_lt_of_cell? w _ hx2)).trans hx2
      replace hx3 := (HB.out.cell (World.block_lt_of_cell? w _ hx3)).trans hx3
      replace hx4 := (HB.out.cell (World.block_lt_of_cell? w _ hx4)).trans hx4
      replace hx5 := (HB.out.cell (World.block_lt_of_cell? w _ hx5)).trans hx5
      replace hx6 := (HB.out.cell (World.block_lt_of_cell? w _ hx6)).trans hx6
      replace hx7 := (HB.out.cell (World.block_lt_of_cell? w _ hx7)).trans hx7
      have HL2 := Aside0.mk hl2; have HL3 := Aside0.mk hl3; have HL4 := Aside0.mk hl4; have HL5 := Aside0.mk hl5; have HL6 := Aside0.mk hl6
      have HI2 := Aside0.mk (Kd.C_below hi2 HB.out); have HI3 := Aside0.mk (Kd.C_below hi3 HB.out); have HI4 := Aside0.mk (Kd.C_below hi4 HB.out); have HI5 := Aside0.mk (Kd.C_below hi5 HB.out); have HI6 := Aside0.mk (Kd.C_below hi6 HB.out)
      clear hl2 hl3 hl4 hl5 hl6 hi2 hi3 hi4 hi5 hi6
      have HW := Aside0.mk (wrap_step c30 c3 HN.out)
      replace c30 := eq_true c30
      replace c3 := eq_true c3
      have HV : Aside0 (product_Lay_1.f (rd_T31 l0 x).f0 (rd_T31 l0 x).f1 (rd_T31 l0 x).f2 (rd_T31 l0 x).f3 (rd_T31 l0 x).f4 (rd_T31 l0 x).f5 (rd_T31 l0 x).f6 (rd_T31 l0 x).f7 = some (badS (rd_T31 l0 x))) := ⟨by unfold product_Lay_1.f; rw [mask_Valid_eq]; simp⟩
      by_cases hz : badS (rd_T31 l0 x) = true
      · have hr : r = x := by
          have h1 := HI.out
          rw [HD.out] at h1
          have hz2 : badS (l0.getD x.toNat z31) = true := hz
          rw [if_pos hz2] at h1
          exact h1.symm
        subst hr
        go_wp2_with (go_at_call 73; (with_reducible refine (product_Lay_1.calls _ _ _ _ (rd_T31 l0 r).f2 _ _ (rd_T31 l0 r).f3 _ _ (rd_T31 l0 r).f4 _ _ (rd_T31 l0 r).f5 _ _ (rd_T31 l0 r).f6 _ _ _ HI2.out HL2.out HI3.out HL3.out HI4.out HL4.out HI5.out HL5.out HI6.out HL6.out HV.out).mono ?_); rintro e w2 ⟨rfl, hb2⟩)
        have HB2 := Aside0.mk (below_step HB.out hb2)
        clear hb2
        go_wp2
        go_ret
        exact ⟨rfl, HB2.out⟩
      · have hz1 : badS (rd_T31 l0 x) = false := by simpa using hz
        have HJ : Aside0 (firstIx badS (l0.drop (x + 1).toNat) (x + 1) = r) := ⟨by
          have h1 := HI.out
          rw [HD.out] at h1
          have hz2 : ¬ badS (l0.getD x.toNat z31) = true := hz
          rw [if_neg hz2] at h1
          exact h1⟩
        clear hz
        go_wp2_with (go_at_call 73; (with_reducible refine (product_Lay_1.calls _ _ _ _ (rd_T31 l0 x).f2 _ _ (rd_T31 l0 x).f3 _ _ (rd_T31 l0 x).f4 _ _ (rd_T31 l0 x).f5 _ _ (rd_T31 l0 x).f6 _ _ _ HI2.out HL2.out HI3.out HL3.out HI4.out HL4.out HI5.out HL5.out HI6.out HL6.out HV.out).mono ?_); rintro e w2 ⟨rfl, hb2⟩)
        have HB2 := Aside0.mk (below_step HB.out hb2)
        clear hb2
        go_wp2
        go_roundg k1
        case measure => omega
        case rel => exact ⟨x + 1, by first | rfl | rw [HW.out] | (rw [← HW.out]), ⟨by have := HX.out; omega, by have := HX.out; omega⟩, HJ, HB2⟩
def AnyBadP.f (l0 : List S31) : Option Bool := some (l0.any badS)
theorem AnyBadP.calls (A0 : Option Addr) (c0 : Nat) (l0 : List S31) (r : Bool) (w : World) (hr0 : Kd.C k31 w A0 l0.length l0) (hc0 : l0.length ≤ c0) (h : AnyBadP.f l0 = some r) :
    Calls Try.prog 72 #[.slice A0 l0.length c0, .func (.func 73) #[] #[]] w fun e w' => e = .returned (.bool r) ∧ Below w.heap.size w w' := by
  have hn : l0.length ≤ 9223372036854775807 := (Kd.C_max hr0)
  have hg := firstIx_ge badS l0 0 (by omega)
  unfold AnyBadP.f at h
  obtain rfl := Option.some.inj h
  rw [← hg]
  clear hg h
  go_enter Try.func72, Try.ntmps72
  go_wp2_with (go_at_call 92; refine (AnyBadPIx.calls _ _ _ _ hr0 hn).mono ?_; rintro e w2 ⟨rfl, hb2⟩)
  go_ret
  exact ⟨rfl, hb2⟩

/-! ### AnyBadS: function 72 (by hand) -/
set_option maxHeartbeats 2000000 in
theorem AnyBadSIx.calls (A0 : Option Addr) (c0 : Nat) (l0 : List S31) (w : World) (hr0 : Kd.C k31 w A0 l0.length l0) (hn : l0.length ≤ 9223372036854775807) :
    Calls Try.prog 92 #[.slice A0 l0.length c0, .func (.func 77) #[] #[]] w fun e w' => e = .returned (.int .i64 (firstIx badS l0 0)) ∧ Below w.heap.size w w' := by
  have hu31 := Try.underlying31
  have HR0 := Aside0.mk hr0
  have HN := Aside0.mk hn
  clear hr0 hn
  obtain ⟨r, hr⟩ : ∃ r : Int, firstIx badS l0 0 = r := ⟨_, rfl⟩
  rw [hr]
  have HI : Aside0 (firstIx badS (l0.drop (0 : Int).toNat) 0 = r) := ⟨hr⟩
  clear hr
  go_enter Try.func92, Try.ntmps92
  go_wp2
  go_loopg [8] l0.length (fun kq v8 w' => ∃ (x : Int), v8 = .int .i64 x ∧ Aside0 (0 ≤ x ∧ x + kq = l0.length) ∧ Aside0 (firstIx badS (l0.drop x.toNat) x = r) ∧ Aside0 (Below w.heap.size w w'))
  case atStart => exact ⟨0, rfl, ⟨by omega, by omega⟩, HI, ⟨Below.refl _ _⟩⟩
  case round =>
    clear HI
    obtain ⟨x, rfl, HX, HI, HB⟩ := hrel
    cases gk with
    | zero =>
      have c3b0 : decide (x < (l0.length : Int)) = false := decide_eq_false (by have := HX.out; omega)
      have hr : r = -1 := by
        have h1 := HI.out
        rw [List.drop_of_length_le (by have := HX.out; omega)] at h1
        exact h1.symm
      subst hr
      go_wp2
      go_ret
      exact ⟨rfl, HB.out⟩
    | succ k1 =>
      have c3 : x < (l0.length : Int) := by have := HX.out; omega
      have c30 : 0 ≤ x := HX.out.1
      have HD := Aside0.mk (firstIx_drop badS l0 z31 x c30 c3)
      have c3b0 : decide (x < (l0.length : Int)) = true := decide_eq_true c3
      obtain ⟨ad, A2, c2, A3, c3_, A4, c4, A5, c5, A6, c6, e, hx0, hx1, hx2, hx3, hx4, hx5, hx6, hx7, hl2, hi2, hl3, hi3, hl4, hi4, hl5, hi5, hl6, hi6⟩ := at_T31 HR0.out x c30 c3
      cases e
      replace hx0 := (HB.out.cell (World.block_lt_of_cell? w _ hx0)).trans hx0
      replace hx1 := (HB.out.cell (World.block_lt_of_cell? w _ hx1)).trans hx1
      replace hx2 := (HB.out.cell (World.block_lt_of_cell? w _ hx2)).trans hx2
      replace hx3 := (HB.out.cell (World.block_lt_of_cell? w _ hx3)).trans hx3
      replace hx4 := (HB.out.cell (World.block_lt_of_cell? w _ hx4)).trans hx4
      replace hx5 := (HB.out.cell (World.block_lt_of_cell? w _ hx5)).trans hx5
      replace hx6 := (HB.out.cell (World.block_lt_of_cell? w _ hx6)).trans hx6
      replace hx7 := (HB.out.cell (World.block_lt_of_cell? w _ hx7)).trans hx7
      have HL2 := Aside0.mk hl2; have HL3 := Aside0.mk hl3; have HL4 := Aside0.mk hl4; have HL5 := Aside0.mk hl5; have HL6 := Aside0.mk hl6
      have HI2 := Aside0.mk (Kd.C_below hi2 HB.out); have HI3 := Aside0.mk (Kd.C_below hi3 HB.out); have HI4 := Aside0.mk (Kd.C_below hi4 HB.out); have HI5 := Aside0.mk (Kd.C_below hi5 HB.out); have HI6 := Aside0.mk (Kd.C_below hi6 HB.out)
      clear hl2 hl3 hl4 hl5 hl6 hi2 hi3 hi4 hi5 hi6
      have HW := Aside0.mk (wrap_step c30 c3 HN.out)
      replace c30 := eq_true c30
      replace c3 := eq_true c3
      have HV : Aside0 (sum_Lay_1.f (rd_T31 l0 x).f0 (rd_T31 l0 x).f1 (rd_T31 l0 x).f2 (rd_T31 l0 x).f3 (rd_T31 l0 x).f4 (rd_T31 l0 x).f5 (rd_T31 l0 x).f6 (rd_T31 l0 x).f7 = some (badS (rd_T31 l0 x))) := ⟨by unfold sum_Lay_1.f; rw [mask_Valid_eq]; simp⟩
      by_cases hz : badS (rd_T31 l0 x) = true
      · have hr : r = x := by
          have h1 := HI.out
          rw [HD.out] at h1
          have hz2 : badS (l0.getD x.toNat z31) = true := hz
          rw [if_pos hz2] at h1
          exact h1.symm
        subst hr
        go_wp2_with (go_at_call 77; (with_reducible refine (sum_Lay_1.calls _ _ _ _ (rd_T31 l0 r).f2 _ _ (rd_T31 l0 r).f3 _ _ (rd_T31 l0 r).f4 _ _ (rd_T31 l0 r).f5 _ _ (rd_T31 l0 r).f6 _ _ _ HI2.out HL2.out HI3.out HL3.out HI4.out HL4.out HI5.out HL5.out HI6.out HL6.out HV.out).mono ?_); rintro e w2 ⟨rfl, hb2⟩)
        have HB2 := Aside0.mk (below_step HB.out hb2)
        clear hb2
        go_wp2
        go_ret
        exact ⟨rfl, HB2.out⟩
      · have hz1 : badS (rd_T31 l0 x) = false := by simpa using hz
        have HJ : Aside0 (firstIx badS (l0.drop (x + 1).toNat) (x + 1) = r) := ⟨by
          have h1 := HI.out
          rw [HD.out] at h1
          have hz2 : ¬ badS (l0.getD x.toNat z31) = true := hz
          rw [if_neg hz2] at h1
          exact h1⟩
        clear hz
        go_wp2_with (go_at_call 77; (with_reducible refine (sum_Lay_1.calls _ _ _ _ (rd_T31 l0 x).f2 _ _ (rd_T31 l0 x).f3 _ _ (rd_T31 l0 x).f4 _ _ (rd_T31 l0 x).f5 _ _ (rd_T31 l0 x).f6 _ _ _ HI2.out HL2.out HI3.out HL3.out HI4.out HL4.out HI5.out HL5.out HI6.out HL6.out HV.out).mono ?_); rintro e w2 ⟨rfl, hb2⟩)
        have HB2 := Aside0.mk (below_step HB.out hb2)
        clear hb2
        go_wp2
        go_roundg k1
        case measure => omega
        case rel => exact ⟨x + 1, by first | rfl | rw [HW.out] | (rw [← HW.out]), ⟨by have := HX.out; omega, by have := HX.out; omega⟩, HJ, HB2⟩
def AnyBadS.f (l0 : List S31) : Option Bool := some (l0.any badS)
theorem AnyBadS.calls (A0 : Option Addr) (c0 : Nat) (l0 : List S31) (r : Bool) (w : World) (hr0 : Kd.C k31 w A0 l0.length l0) (hc0 : l0.length ≤ c0) (h : AnyBadS.f l0 = some r) :
    Calls Try.prog 72 #[.slice A0 l0.length c0, .func (.func 77) #[] #[]] w fun e w' => e = .returned (.bool r) ∧ Below w.heap.size w w' := by
  have hn : l0.length ≤ 9223372036854775807 := (Kd.C_max hr0)
  have hg := firstIx_ge badS l0 0 (by omega)
  unfold AnyBadS.f at h
  obtain rfl := Option.some.inj h
  rw [← hg]
  clear hg h
  go_enter Try.func72, Try.ntmps72
  go_wp2_with (go_at_call 92; refine (AnyBadSIx.calls _ _ _ _ hr0 hn).mono ?_; rintro e w2 ⟨rfl, hb2⟩)
  go_ret
  exact ⟨rfl, hb2⟩

end Go.Proofs.Ytpcephbhnbfcmaa.F
