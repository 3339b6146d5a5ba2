-- Written by this session's program fork.py: a Lean function for each Go function and its walk. Not trusted: Lean checks it.
import Derived.Test.YtpcephbhnbfcmaaF0
import Derived.Test.YtpcephbhnbfcmaaF1
namespace Go.Proofs.Ytpcephbhnbfcmaa.F
open Go.RowKit Go.Proofs.YtpcephbhnbfcmaaW.PrintWords Go.Proofs.YtpcephbhnbfcmaaW.PrintLast Go.Proofs.YtpcephbhnbfcmaaW.PrintMore
attribute [local go_sem] max2_int min2_int max_two min_two max_three min_three max_four min_four   -- for this text's walks alone
set_option linter.unusedVariables false
set_option linter.unusedSimpArgs false

open List (setIfInBounds_toArray set_cons_zero set_cons_succ)
/-! ### product_Lay: function 24 -/
def product_Lay.l0 : Nat → List (S31) → Int → Int → Int → Int → List Int → List Int → Bool → Option (Int × Int × List Int × List Int × (List (S101)) × (List (S79)) × List Int × Bool × Int)
 | 0, _, _, _, _, _, _, _, _ => none
 | k + 1, x12, x13, x14, x109000, x109001, x109002, x109003, x109007 => if x14 < x13 then (if 0 ≤ x14 then (if x14 < (x12.length : Int) then ((product_Align.f x109000 ((rd_T31 x12 x14).f1)).bind fun t111 => (if (wrap64 (t111 + ((rd_T31 x12 x14).f0))) > 1024 then (some (0, 0, ([] : List Int), ([] : List Int), ([] : List (S101)), ([] : List (S79)), ([] : List Int), false, 4)) else (if x109003.length < 17592186044416 then (if 0 ≤ (wrap64 (t111 - x109000)) then (if x109002.length + (wrap64 (t111 - x109000) : Int).toNat < 140737488355328 then ((some (x109002 ++ List.replicate (wrap64 (t111 - x109000) : Int).toNat 0 : List Int)).bind fun y115 => (if y115.length + ((rd_T31 x12 x14).f2).length < 140737488355328 then (product_Lay.l0 k x12 x13 (wrap64 (x14 + 1)) (wrap64 (t111 + ((rd_T31 x12 x14).f0))) (mx x109001 ((rd_T31 x12 x14).f1)) (y115 ++ ((rd_T31 x12 x14).f2)) (x109003 ++ [t111]) x109007) else (none))) else (none)) else (none)) else (none)))) else (none)) else (none)) else (some (x109000, x109001, x109002, x109003, ([] : List (S101)), ([] : List (S79)), ([] : List Int), x109007, 0))
def product_Lay.f (k : Nat) (l0 : List (S31)) : Option (Int × Int × List Int × List Int × (List (S101)) × (List (S79)) × List Int × Bool × Int) := (AnyBadP.f l0).bind fun t107 => (if t107 = true then (some (0, 0, ([] : List Int), ([] : List Int), ([] : List (S101)), ([] : List (S79)), ([] : List Int), false, 19)) else (product_Lay.l0 k l0 (l0.length : Int) 0 0 1 ([] : List Int) ([] : List Int) false))
theorem product_Lay.mono_l : ∀ k, (∀ y0 y1 y2 y3 y4 y5 y6 y7, LeO (product_Lay.l0 k y0 y1 y2 y3 y4 y5 y6 y7) (product_Lay.l0 (k + 1) y0 y1 y2 y3 y4 y5 y6 y7))
 | 0 => fun _ _ _ _ _ _ _ _ r h => by simp [product_Lay.l0] at h
 | k + 1 => by
  have ih0 := product_Lay.mono_l k
  ·
   intro y0 y1 y2 y3 y4 y5 y6 y7
   unfold product_Lay.l0
   repeat' first
   | (with_reducible exact ih0 _ _ _ _ _ _ _ _)
   | (with_reducible exact LeO.refl _)
   | (with_reducible exact LeO.none _)
   | (with_reducible refine LeO.ite ?_ ?_)
   | (with_reducible refine LeO.bind ?_ (fun _ => ?_))
   | exact ih0 _ _ _ _ _ _ _ _
   | exact LeO.none _
   | refine LeO.ite ?_ ?_
   | refine LeO.bind ?_ (fun _ => ?_)
theorem product_Lay.mono : ∀ a0 k, LeO (product_Lay.f k a0) (product_Lay.f (k + 1) a0) := by
 intro a0 k
 have ih0 := product_Lay.mono_l k
 unfold product_Lay.f
 repeat' first
   | (with_reducible exact ih0 _ _ _ _ _ _ _ _)
   | (with_reducible exact LeO.refl _)
   | (with_reducible exact LeO.none _)
   | (with_reducible refine LeO.ite ?_ ?_)
   | (with_reducible refine LeO.bind ?_ (fun _ => ?_))
   | exact ih0 _ _ _ _ _ _ _ _
   | exact LeO.none _
   | refine LeO.ite ?_ ?_
   | refine LeO.bind ?_ (fun _ => ?_)
def product_Lay.T11 : Bool × List (List Nat × List Nat) := (true, [([], []), ([0], [0]), ([], []), ([], []), ([3], [3]), ([2, 4], [2, 4]), ([1, 5], [1, 5]), ([], []), ([7], [7]), ([6, 8, 6], [6, 8]), ([0, 1, 2, 3, 4, 5, 6, 7, 8, 9], []), ([10, 9, 9, 0, 1, 2, 3, 4, 5, 6, 7, 8, 9], [9, 10])])
def product_Lay.B11 : List Nat := [0, 1, 0, 0, 8, 28, 63, 0, 128, 511, 1023, 2047]
theorem product_Lay.tab11 : rtab .any (opsOf Try.f24 11) = product_Lay.T11 := by kernel_rfl
theorem product_Lay.bits11 : waitsOk product_Lay.T11.2 product_Lay.B11 = true := by kernel_rfl
def product_Lay.T12 : Bool × List (List Nat × List Nat) := (true, [([], []), ([], []), ([1], [1]), ([0, 2], [0, 2]), ([], []), ([4], [4]), ([], []), ([6], [6]), ([5, 7], [5, 7]), ([0, 1, 2, 3, 4, 5], []), ([9, 3, 0, 1, 2, 3, 4, 5], [3, 9]), ([0, 1, 2, 3, 4, 5, 6, 7, 8, 9, 10], []), ([11, 8, 10, 0, 1, 2, 3, 4, 5, 6, 7, 8, 9, 10], [8, 11])])
def product_Lay.B12 : List Nat := [0, 0, 2, 7, 0, 16, 0, 64, 240, 63, 575, 2047, 4095]
theorem product_Lay.tab12 : rtab .any (opsOf Try.f24 12) = product_Lay.T12 := by kernel_rfl
theorem product_Lay.bits12 : waitsOk product_Lay.T12.2 product_Lay.B12 = true := by kernel_rfl
set_option maxHeartbeats 8000000 in
set_option maxRecDepth 100000 in
theorem product_Lay.calls (k : Nat) (A0 : Option Addr) (c0 : Nat) (l0 : List (S31)) (r1 : Int) (r2 : Int) (r3 : List Int) (r4 : List Int) (r5 : List (S101)) (r6 : List (S79)) (r7 : List Int) (r8 : Bool) (r9 : Int) (w : World) (hr0 : Kd.C k31 w A0 l0.length l0) (hc0 : l0.length ≤ c0) (h : product_Lay.f k l0 = some (r1, r2, r3, r4, r5, r6, r7, r8, r9)) :
  Calls Try.prog 24 #[.slice A0 l0.length c0] w fun e w' => ∃ v2_ v3_ v4_ v5_ v6_ : Value, e = .returned (.tuple #[.agg #[.int .i64 r1, .int .i64 r2, v2_, v3_, v4_, v5_, v6_, .bool r8], .int .i64 r9]) ∧ Kd.R (Kd.int .u8) 5 w' w.heap.size (fun _ => True) v2_ r3 ∧ Kd.R (Kd.int .i64) 3 w' w.heap.size (fun k_ => some k_ ≠ (v6_ : Value).ownBlock) v3_ r4 ∧ Kd.R k101 101 w' w.heap.size (fun _ => True) v4_ r5 ∧ Kd.R k79 79 w' w.heap.size (fun k_ => some k_ ≠ (v3_ : Value).ownBlock ∧ some k_ ≠ (v4_ : Value).ownBlock ∧ some k_ ≠ (v6_ : Value).ownBlock) v5_ r6 ∧ Kd.R (Kd.int .i64) 3 w' w.heap.size (fun k_ => some k_ ≠ (v3_ : Value).ownBlock) v6_ r7 ∧ Below w.heap.size w w' := by
 have hu31 := Try.underlying31
 have HR0 := Aside0.mk hr0
 have HC0 := Aside0.mk hc0
 clear hr0 hc0
 have HB := Aside0.mk (Below.refl w.heap.size w)
 have H : ((AnyBadP.f l0).bind fun t107 => (if t107 = true then (some (0, 0, ([] : List Int), ([] : List Int), ([] : List (S101)), ([] : List (S79)), ([] : List Int), false, 19)) else (product_Lay.l0 k l0 (l0.length : Int) 0 0 1 ([] : List Int) ([] : List Int) false))) = some (r1, r2, r3, r4, r5, r6, r7, r8, r9) := h
 clear h
 replace H := Option.bind_eq_some_iff.mp H
 obtain ⟨t107, A20, H⟩ := H
 replace H : (if t107 = true then (some (0, 0, ([] : List Int), ([] : List Int), ([] : List (S101)), ([] : List (S79)), ([] : List Int), false, 19)) else (product_Lay.l0 k l0 (l0.length : Int) 0 0 1 ([] : List Int) ([] : List Int) false)) = some (r1, r2, r3, r4, r5, r6, r7, r8, r9) := H
 have A2 := Aside0.mk A20
 clear A20
 by_cases c3 : t107 = true
 ·
  subst c3
  have H1 : (some (0, 0, ([] : List Int), ([] : List Int), ([] : List (S101)), ([] : List (S79)), ([] : List Int), false, 19)) = some (r1, r2, r3, r4, r5, r6, r7, r8, r9) := by rw [if_pos rfl] at H; exact H
  clear H
  have H := H1
  clear H1
  simp only [Option.some.injEq, Prod.mk.injEq] at H
  obtain ⟨rfl, rfl, rfl, rfl, rfl, rfl, rfl, rfl, rfl⟩ := H
  go_enter Try.func24, Try.ntmps24
  go_wp2_with (first | ((with_reducible refine gate_dst (N := 2) rfl ?_); refine box_event ?hg (N := 2) ?hd (cs := #[.int .i64 0, .int .i64 0, .slice none 0 0, .slice none 0 0, .slice none 0 0, .slice none 0 0, .slice none 0 0, .bool false]) (t := 31) ?hr ?_; (case hd => rfl); (case hg => rfl); (case hr => first | (go_simp; done) | (go_simp; rfl)); intro gb106 hg w4 hbox hb; have n0_ := Aside0.mk (below_step (hb0_ HB.out) hb); have n1_ := Aside0.mk (hbox); have n2_ := Aside0.mk ((by rw [hg]; exact (below_size (hb0_ HB.out)) : w.heap.size ≤ gb106)); have n3_ := Aside0.mk ((by rw [hg]; exact (below_size (hb0_ HB.out)) : w.heap.size ≤ gb106)); clear HB; have HB := n0_; have BK106 := n1_; have GW106 := n2_; have GE106 := n3_; clear n0_ n1_ n2_ n3_ hb hbox hg) | ((with_reducible refine gate_callee (f := 72) rfl ?_); refine goesL_ (some 9) rfl rfl Try.func72 (by kernel_rfl) rfl #[.slice A0 l0.length c0, .func (.func 73) #[] #[]] rfl (by (try simp only [List.map_toArray, List.map_cons, List.map_nil]); first | done | rfl | (simp only [List.length_drop, List.length_take]; rfl)) ?_; (with_reducible refine (AnyBadP.calls _ _ l0 true _ ?side1 ?side2 A2.out).mono ?_); (case side1 => repeat (first | exact (Kd.C_below HR0.out HB.out) | (with_reducible refine Kd.C_alloc ?_ _) | (with_reducible refine Kd.C_drewN ?_ _) | (with_reducible refine Kd.C_drew ?_))); (case side2 => exact HC0.out); rintro e w5 ⟨rfl, hb⟩; refine ⟨_, rfl, ?_⟩; have n0_ := Aside0.mk (blk_below (g := gb106) (o := .cells #[.int .i64 0, .int .i64 0, .slice none 0 0, .slice none 0 0, .slice none 0 0, .slice none 0 0, .slice none 0 0, .bool false] 31 (0, 0)) (bk_ BK106.out) hb); have n1_ := Aside0.mk (below_step (hb1_ HB.out GE106.out) hb); clear BK106 HB; have BK106 := n0_; have HB := n1_; clear n0_ n1_; (try clear hb); (try clear hb2); (try clear hk); (try clear hi); have hcz6_0 : w5.cell? ⟨gb106, 0, none⟩ = some (.int .i64 0) := (blk_cell BK106.out 0).trans rfl; have hcz6_1 : w5.cell? ⟨gb106, 1, none⟩ = some (.int .i64 0) := (blk_cell BK106.out 1).trans rfl; have hcz6_2 : w5.cell? ⟨gb106, 2, none⟩ = some (.slice none 0 0) := (blk_cell BK106.out 2).trans rfl; have hcz6_3 : w5.cell? ⟨gb106, 3, none⟩ = some (.slice none 0 0) := (blk_cell BK106.out 3).trans rfl; have hcz6_4 : w5.cell? ⟨gb106, 4, none⟩ = some (.slice none 0 0) := (blk_cell BK106.out 4).trans rfl; have hcz6_5 : w5.cell? ⟨gb106, 5, none⟩ = some (.slice none 0 0) := (blk_cell BK106.out 5).trans rfl; have hcz6_6 : w5.cell? ⟨gb106, 6, none⟩ = some (.slice none 0 0) := (blk_cell BK106.out 6).trans rfl; have hcz6_7 : w5.cell? ⟨gb106, 7, none⟩ = some (.bool false) := (blk_cell BK106.out 7).trans rfl; have hfz6_0 := blk_frozen BK106.out 0; have hfz6_1 := blk_frozen BK106.out 1; have hfz6_2 := blk_frozen BK106.out 2; have hfz6_3 := blk_frozen BK106.out 3; have hfz6_4 := blk_frozen BK106.out 4; have hfz6_5 := blk_frozen BK106.out 5; have hfz6_6 := blk_frozen BK106.out 6; have hfz6_7 := blk_frozen BK106.out 7))
  refine bodyPost_ret (results_ct rfl _ _ gb106 31 #[.int .i64 0, .int .i64 0, .slice none 0 0, .slice none 0 0, .slice none 0 0, .slice none 0 0, .slice none 0 0, .bool false] (0, 0) _ rfl (by (with_reducible repeat (first | refine blk_drewN ?_ _ | refine blk_drew ?_ | refine blk_alloc ?_ _)); refine blk_put (cs := #[.int .i64 0, .int .i64 0, .slice none 0 0, .slice none 0 0, .slice none 0 0, .slice none 0 0, .slice none 0 0, .bool false]) ?_ 7 _ rfl; (with_reducible repeat (first | refine blk_drewN ?_ _ | refine blk_drew ?_ | refine blk_alloc ?_ _)); refine blk_put (cs := #[.int .i64 0, .int .i64 0, .slice none 0 0, .slice none 0 0, .slice none 0 0, .slice none 0 0, .slice none 0 0, .bool false]) ?_ 6 _ rfl; (with_reducible repeat (first | refine blk_drewN ?_ _ | refine blk_drew ?_ | refine blk_alloc ?_ _)); refine blk_put (cs := #[.int .i64 0, .int .i64 0, .slice none 0 0, .slice none 0 0, .slice none 0 0, .slice none 0 0, .slice none 0 0, .bool false]) ?_ 5 _ rfl; (with_reducible repeat (first | refine blk_drewN ?_ _ | refine blk_drew ?_ | refine blk_alloc ?_ _)); refine blk_put (cs := #[.int .i64 0, .int .i64 0, .slice none 0 0, .slice none 0 0, .slice none 0 0, .slice none 0 0, .slice none 0 0, .bool false]) ?_ 4 _ rfl; (with_reducible repeat (first | refine blk_drewN ?_ _ | refine blk_drew ?_ | refine blk_alloc ?_ _)); refine blk_put (cs := #[.int .i64 0, .int .i64 0, .slice none 0 0, .slice none 0 0, .slice none 0 0, .slice none 0 0, .slice none 0 0, .bool false]) ?_ 3 _ rfl; (with_reducible repeat (first | refine blk_drewN ?_ _ | refine blk_drew ?_ | refine blk_alloc ?_ _)); refine blk_put (cs := #[.int .i64 0, .int .i64 0, .slice none 0 0, .slice none 0 0, .slice none 0 0, .slice none 0 0, .slice none 0 0, .bool false]) ?_ 2 _ rfl; (with_reducible repeat (first | refine blk_drewN ?_ _ | refine blk_drew ?_ | refine blk_alloc ?_ _)); refine blk_put (cs := #[.int .i64 0, .int .i64 0, .slice none 0 0, .slice none 0 0, .slice none 0 0, .slice none 0 0, .slice none 0 0, .bool false]) ?_ 1 _ rfl; (with_reducible repeat (first | refine blk_drewN ?_ _ | refine blk_drew ?_ | refine blk_alloc ?_ _)); refine blk_put (cs := #[.int .i64 0, .int .i64 0, .slice none 0 0, .slice none 0 0, .slice none 0 0, .slice none 0 0, .slice none 0 0, .bool false]) ?_ 0 _ rfl; (with_reducible repeat (first | refine blk_drewN ?_ _ | refine blk_drew ?_ | refine blk_alloc ?_ _)); exact BK106.out) Try.underlying31 rfl (by kernel_rfl)) rfl ?_
  exact ⟨_, _, _, _, _, by first | rfl | (simp [errW_none, errW_some] <;> rfl) | (simp [*, errW_none, errW_some] <;> rfl), by first | exact Kd.R_nil _ _ _ _ _ | exact Kd.N_nil _ _ _ _ _ | exact Kd.V_nil _ _ _ _ _ | exact Kd.Q_nil _ _ _ _ _ | exact Kd.S_nil _ _ _ _ _, by first | exact Kd.R_nil _ _ _ _ _ | exact Kd.N_nil _ _ _ _ _ | exact Kd.V_nil _ _ _ _ _ | exact Kd.Q_nil _ _ _ _ _ | exact Kd.S_nil _ _ _ _ _, by first | exact Kd.R_nil _ _ _ _ _ | exact Kd.N_nil _ _ _ _ _ | exact Kd.V_nil _ _ _ _ _ | exact Kd.Q_nil _ _ _ _ _ | exact Kd.S_nil _ _ _ _ _, by first | exact Kd.R_nil _ _ _ _ _ | exact Kd.N_nil _ _ _ _ _ | exact Kd.V_nil _ _ _ _ _ | exact Kd.Q_nil _ _ _ _ _ | exact Kd.S_nil _ _ _ _ _, by first | exact Kd.R_nil _ _ _ _ _ | exact Kd.N_nil _ _ _ _ _ | exact Kd.V_nil _ _ _ _ _ | exact Kd.Q_nil _ _ _ _ _ | exact Kd.S_nil _ _ _ _ _, by repeat (first | (with_reducible first | exact HB.out | apply below_alloc | apply pw_below_drewN | apply below_drew1 | refine below_set ?_ GE106.out) | exact HB.out)⟩
 ·
  replace c3 := Bool.eq_false_iff.mpr c3
  subst c3
  have H1 : (product_Lay.l0 k l0 (l0.length : Int) 0 0 1 ([] : List Int) ([] : List Int) false) = some (r1, r2, r3, r4, r5, r6, r7, r8, r9) := by rw [if_neg (show ¬ (false = true) by decide)] at H; exact H
  clear H
  have H := H1
  clear H1
  have H' := Aside0.mk H
  clear H
  go_enter Try.func24, Try.ntmps24
  go_wp2_with (first | ((with_reducible refine gate_dst (N := 2) rfl ?_); refine box_event ?hg (N := 2) ?hd (cs := #[.int .i64 0, .int .i64 0, .slice none 0 0, .slice none 0 0, .slice none 0 0, .slice none 0 0, .slice none 0 0, .bool false]) (t := 31) ?hr ?_; (case hd => rfl); (case hg => rfl); (case hr => first | (go_simp; done) | (go_simp; rfl)); intro gb106 hg w7 hbox hb; have n0_ := Aside0.mk (below_step (hb0_ HB.out) hb); have n1_ := Aside0.mk (hbox); have n2_ := Aside0.mk ((by rw [hg]; exact (below_size (hb0_ HB.out)) : w.heap.size ≤ gb106)); have n3_ := Aside0.mk ((by rw [hg]; exact (below_size (hb0_ HB.out)) : w.heap.size ≤ gb106)); clear HB; have HB := n0_; have BK106 := n1_; have GW106 := n2_; have GE106 := n3_; clear n0_ n1_ n2_ n3_ hb hbox hg) | ((with_reducible refine gate_callee (f := 72) rfl ?_); refine goesL_ (some 9) rfl rfl Try.func72 (by kernel_rfl) rfl #[.slice A0 l0.length c0, .func (.func 73) #[] #[]] rfl (by (try simp only [List.map_toArray, List.map_cons, List.map_nil]); first | done | rfl | (simp only [List.length_drop, List.length_take]; rfl)) ?_; (with_reducible refine (AnyBadP.calls _ _ l0 false _ ?side1 ?side2 A2.out).mono ?_); (case side1 => repeat (first | exact (Kd.C_below HR0.out HB.out) | (with_reducible refine Kd.C_alloc ?_ _) | (with_reducible refine Kd.C_drewN ?_ _) | (with_reducible refine Kd.C_drew ?_))); (case side2 => exact HC0.out); rintro e w8 ⟨rfl, hb⟩; refine ⟨_, rfl, ?_⟩; have n0_ := Aside0.mk (blk_below (g := gb106) (o := .cells #[.int .i64 0, .int .i64 0, .slice none 0 0, .slice none 0 0, .slice none 0 0, .slice none 0 0, .slice none 0 0, .bool false] 31 (0, 0)) (bk_ BK106.out) hb); have n1_ := Aside0.mk (below_step (hb1_ HB.out GE106.out) hb); clear BK106 HB; have BK106 := n0_; have HB := n1_; clear n0_ n1_; (try clear hb); (try clear hb2); (try clear hk); (try clear hi)) | ((with_reducible refine gate_dst (N := 4) rfl ?_); refine box_event ?hg (N := 4) ?hd (cs := #[.int .i64 0, .int .i64 0, .slice none 0 0, .slice none 0 0, .slice none 0 0, .slice none 0 0, .slice none 0 0, .bool false]) (t := 31) ?hr ?_; (case hd => rfl); (case hg => rfl); (case hr => first | (go_simp; done) | (go_simp; rfl)); intro gb108 hg w9 hbox hb; have n0_ := Aside0.mk (blk_below (g := gb106) (o := .cells #[.int .i64 0, .int .i64 0, .slice none 0 0, .slice none 0 0, .slice none 0 0, .slice none 0 0, .slice none 0 0, .bool false] 31 (0, 0)) (bk_ BK106.out) hb); have n1_ := Aside0.mk (below_step (hb1_ HB.out GE106.out) hb); have n2_ := Aside0.mk (hbox); have n3_ := Aside0.mk ((by rw [hg]; exact (below_size (hb1_ HB.out GE106.out)) : w.heap.size ≤ gb108)); have n4_ := Aside0.mk ((by rw [hg]; exact (below_size (hb1_ HB.out GE106.out)) : w.heap.size ≤ gb108)); have n5_ := Aside0.mk ((by rw [hg]; exact Nat.ne_of_lt (blk_lt (g := gb106) (o := .cells #[.int .i64 0, .int .i64 0, .slice none 0 0, .slice none 0 0, .slice none 0 0, .slice none 0 0, .slice none 0 0, .bool false] 31 (0, 0)) (bk_ BK106.out)) : gb106 ≠ gb108)); have n6_ := Aside0.mk ((by rw [hg]; exact Nat.ne_of_gt (blk_lt (g := gb106) (o := .cells #[.int .i64 0, .int .i64 0, .slice none 0 0, .slice none 0 0, .slice none 0 0, .slice none 0 0, .slice none 0 0, .bool false] 31 (0, 0)) (bk_ BK106.out)) : gb108 ≠ gb106)); clear BK106 HB; have BK106 := n0_; have HB := n1_; have BK108 := n2_; have GW108 := n3_; have GE108 := n4_; have NB106_108 := n5_; have NB108_106 := n6_; clear n0_ n1_ n2_ n3_ n4_ n5_ n6_ hb hbox hg; have hnb10 := NB108_106.out; have hnc10 := NB106_108.out; have hcz11_0 : w9.cell? ⟨gb108, 0, none⟩ = some (.int .i64 0) := (blk_cell BK108.out 0).trans rfl; have hcz11_1 : w9.cell? ⟨gb108, 1, none⟩ = some (.int .i64 0) := (blk_cell BK108.out 1).trans rfl; have hcz11_2 : w9.cell? ⟨gb108, 2, none⟩ = some (.slice none 0 0) := (blk_cell BK108.out 2).trans rfl; have hcz11_3 : w9.cell? ⟨gb108, 3, none⟩ = some (.slice none 0 0) := (blk_cell BK108.out 3).trans rfl; have hcz11_4 : w9.cell? ⟨gb108, 4, none⟩ = some (.slice none 0 0) := (blk_cell BK108.out 4).trans rfl; have hcz11_5 : w9.cell? ⟨gb108, 5, none⟩ = some (.slice none 0 0) := (blk_cell BK108.out 5).trans rfl; have hcz11_6 : w9.cell? ⟨gb108, 6, none⟩ = some (.slice none 0 0) := (blk_cell BK108.out 6).trans rfl; have hcz11_7 : w9.cell? ⟨gb108, 7, none⟩ = some (.bool false) := (blk_cell BK108.out 7).trans rfl; have hfz11_0 := blk_frozen BK108.out 0; have hfz11_1 := blk_frozen BK108.out 1; have hfz11_2 := blk_frozen BK108.out 2; have hfz11_3 := blk_frozen BK108.out 3; have hfz11_4 := blk_frozen BK108.out 4; have hfz11_5 := blk_frozen BK108.out 5; have hfz11_6 := blk_frozen BK108.out 6; have hfz11_7 := blk_frozen BK108.out 7))
  go_loopg [14] k (fun kq v14 w' => ∃ (x14_1 : Int) (x107000_1 : Int) (x107001_1 : Int) (x107007_1 : Bool) (x109000_1 : Int) (x109001_1 : Int) (x109002_1 : List Int) (x109003_1 : List Int) (u109002 : Value) (u109003 : Value), v14 = .int .i64 x14_1 ∧ Aside0 (product_Lay.l0 kq l0 (l0.length : Int) x14_1 x109000_1 x109001_1 x109002_1 x109003_1 false = some (r1, r2, r3, r4, r5, r6, r7, r8, r9)) ∧ Aside0 (kq ≤ k) ∧ Aside0 (Kd.R (Kd.int .u8) 5 w' w.heap.size (fun _ => True) u109002 x109002_1) ∧ Aside0 (Kd.R (Kd.int .i64) 3 w' w.heap.size (fun _ => True) u109003 x109003_1) ∧ Aside0 (w'.heap[gb106]? = some (.cells #[.int .i64 x107000_1, .int .i64 x107001_1, (.slice none 0 0), (.slice none 0 0), (.slice none 0 0), (.slice none 0 0), (.slice none 0 0), .bool x107007_1] 31 (0, 0))) ∧ Aside0 (w'.heap[gb108]? = some (.cells #[.int .i64 x109000_1, .int .i64 x109001_1, u109002, u109003, (.slice none 0 0), (.slice none 0 0), (.slice none 0 0), .bool false] 31 (0, 0))) ∧ Aside0 (Below w.heap.size w w'))
  case atStart => exact ⟨(0), (0), (0), (false), (0), (1), (([] : List Int)), (([] : List Int)), (.slice none 0 0), (.slice none 0 0), (by first | rfl | (simp; done) | (simp [*]; done)), H', ⟨Nat.le_refl _⟩, ⟨by first | exact Kd.R_nil _ _ _ _ _ | exact Kd.N_nil _ _ _ _ _ | exact Kd.V_nil _ _ _ _ _ | exact Kd.Q_nil _ _ _ _ _ | exact Kd.S_nil _ _ _ _ _⟩, ⟨by first | exact Kd.R_nil _ _ _ _ _ | exact Kd.N_nil _ _ _ _ _ | exact Kd.V_nil _ _ _ _ _ | exact Kd.Q_nil _ _ _ _ _ | exact Kd.S_nil _ _ _ _ _⟩, ⟨by (with_reducible repeat (first | refine blk_drewN ?_ _ | refine blk_drew ?_ | refine blk_alloc ?_ _)); refine blk_far ?_ NB106_108.out _; (with_reducible repeat (first | refine blk_drewN ?_ _ | refine blk_drew ?_ | refine blk_alloc ?_ _)); refine blk_far ?_ NB106_108.out _; (with_reducible repeat (first | refine blk_drewN ?_ _ | refine blk_drew ?_ | refine blk_alloc ?_ _)); refine blk_far ?_ NB106_108.out _; (with_reducible repeat (first | refine blk_drewN ?_ _ | refine blk_drew ?_ | refine blk_alloc ?_ _)); refine blk_far ?_ NB106_108.out _; (with_reducible repeat (first | refine blk_drewN ?_ _ | refine blk_drew ?_ | refine blk_alloc ?_ _)); refine blk_far ?_ NB106_108.out _; (with_reducible repeat (first | refine blk_drewN ?_ _ | refine blk_drew ?_ | refine blk_alloc ?_ _)); refine blk_far ?_ NB106_108.out _; (with_reducible repeat (first | refine blk_drewN ?_ _ | refine blk_drew ?_ | refine blk_alloc ?_ _)); refine blk_far ?_ NB106_108.out _; (with_reducible repeat (first | refine blk_drewN ?_ _ | refine blk_drew ?_ | refine blk_alloc ?_ _)); refine blk_far ?_ NB106_108.out _; (with_reducible repeat (first | refine blk_drewN ?_ _ | refine blk_drew ?_ | refine blk_alloc ?_ _)); exact BK106.out⟩, ⟨by (with_reducible repeat (first | refine blk_drewN ?_ _ | refine blk_drew ?_ | refine blk_alloc ?_ _)); refine blk_put (cs := #[.int .i64 0, .int .i64 1, .slice none 0 0, .slice none 0 0, .slice none 0 0, .slice none 0 0, .slice none 0 0, .bool false]) ?_ 7 _ rfl; (with_reducible repeat (first | refine blk_drewN ?_ _ | refine blk_drew ?_ | refine blk_alloc ?_ _)); refine blk_put (cs := #[.int .i64 0, .int .i64 1, .slice none 0 0, .slice none 0 0, .slice none 0 0, .slice none 0 0, .slice none 0 0, .bool false]) ?_ 6 _ rfl; (with_reducible repeat (first | refine blk_drewN ?_ _ | refine blk_drew ?_ | refine blk_alloc ?_ _)); refine blk_put (cs := #[.int .i64 0, .int .i64 1, .slice none 0 0, .slice none 0 0, .slice none 0 0, .slice none 0 0, .slice none 0 0, .bool false]) ?_ 5 _ rfl; (with_reducible repeat (first | refine blk_drewN ?_ _ | refine blk_drew ?_ | refine blk_alloc ?_ _)); refine blk_put (cs := #[.int .i64 0, .int .i64 1, .slice none 0 0, .slice none 0 0, .slice none 0 0, .slice none 0 0, .slice none 0 0, .bool false]) ?_ 4 _ rfl; (with_reducible repeat (first | refine blk_drewN ?_ _ | refine blk_drew ?_ | refine blk_alloc ?_ _)); refine blk_put (cs := #[.int .i64 0, .int .i64 1, .slice none 0 0, .slice none 0 0, .slice none 0 0, .slice none 0 0, .slice none 0 0, .bool false]) ?_ 3 _ rfl; (with_reducible repeat (first | refine blk_drewN ?_ _ | refine blk_drew ?_ | refine blk_alloc ?_ _)); refine blk_put (cs := #[.int .i64 0, .int .i64 1, .slice none 0 0, .slice none 0 0, .slice none 0 0, .slice none 0 0, .slice none 0 0, .bool false]) ?_ 2 _ rfl; (with_reducible repeat (first | refine blk_drewN ?_ _ | refine blk_drew ?_ | refine blk_alloc ?_ _)); refine blk_put (cs := #[.int .i64 0, .int .i64 0, .slice none 0 0, .slice none 0 0, .slice none 0 0, .slice none 0 0, .slice none 0 0, .bool false]) ?_ 1 _ rfl; (with_reducible repeat (first | refine blk_drewN ?_ _ | refine blk_drew ?_ | refine blk_alloc ?_ _)); refine blk_put (cs := #[.int .i64 0, .int .i64 0, .slice none 0 0, .slice none 0 0, .slice none 0 0, .slice none 0 0, .slice none 0 0, .bool false]) ?_ 0 _ rfl; (with_reducible repeat (first | refine blk_drewN ?_ _ | refine blk_drew ?_ | refine blk_alloc ?_ _)); exact BK108.out⟩, ⟨by repeat (first | (with_reducible first | exact HB.out | apply below_alloc | apply pw_below_drewN | apply below_drew1 | refine below_set ?_ GE106.out | refine below_set ?_ GE108.out) | exact HB.out)⟩⟩
  case round =>
   clear H'
   try clear c1
   try clear c2
   try clear p2
   try clear c3
   try clear c7
   try clear c10
   try clear hcz11_0
   try clear hcz11_1
   try clear hcz11_2
   try clear hcz11_3
   try clear hcz11_4
   try clear hcz11_5
   try clear hcz11_6
   try clear hcz11_7
   try clear hcz6_0
   try clear hcz6_1
   try clear hcz6_2
   try clear hcz6_3
   try clear hcz6_4
   try clear hcz6_5
   try clear hcz6_6
   try clear hcz6_7
   try clear hfz11_0
   try clear hfz11_1
   try clear hfz11_2
   try clear hfz11_3
   try clear hfz11_4
   try clear hfz11_5
   try clear hfz11_6
   try clear hfz11_7
   try clear hfz6_0
   try clear hfz6_1
   try clear hfz6_2
   try clear hfz6_3
   try clear hfz6_4
   try clear hfz6_5
   try clear hfz6_6
   try clear hfz6_7
   obtain ⟨x14_1, x107000_1, x107001_1, x107007_1, x109000_1, x109001_1, x109002_1, x109003_1, u109002, u109003, rfl, HA, HK1, HO_109002, HO_109003, BK106, BK108, HB⟩ := hrel
   cases gk with
   | zero => exact absurd HA.out (by simp [product_Lay.l0])
   | succ k1 =>
    have H := HA.out
    clear HA
    simp only [product_Lay.l0] at H
    by_cases c12 : x14_1 < (l0.length : Int)
    ·
     rw [if_pos c12] at H
     have c12b0 : decide (x14_1 < (l0.length : Int)) = true := decide_eq_true c12
     clear c12
     by_cases c13 : 0 ≤ x14_1
     rotate_left
     ·
      rw [if_neg c13] at H
      exact absurd H (by simp)
     rw [if_pos c13] at H
     have c13b0 : decide (0 ≤ x14_1) = true := decide_eq_true c13
     clear c13
     by_cases c14 : x14_1 < (l0.length : Int)
     rotate_left
     ·
      rw [if_neg c14] at H
      exact absurd H (by simp)
     rw [if_pos c14] at H
     have c14b0 : decide (x14_1 < (l0.length : Int)) = true := decide_eq_true c14
     clear c14
     replace H := Option.bind_eq_some_iff.mp H
     obtain ⟨t111, A150, H⟩ := H
     replace H : (if (wrap64 (t111 + ((rd_T31 l0 x14_1).f0))) > 1024 then (some (0, 0, ([] : List Int), ([] : List Int), ([] : List (S101)), ([] : List (S79)), ([] : List Int), false, 4)) else (if x109003_1.length < 17592186044416 then (if 0 ≤ (wrap64 (t111 - x109000_1)) then (if x109002_1.length + (wrap64 (t111 - x109000_1) : Int).toNat < 140737488355328 then ((some (x109002_1 ++ List.replicate (wrap64 (t111 - x109000_1) : Int).toNat 0 : List Int)).bind fun y115 => (if y115.length + ((rd_T31 l0 x14_1).f2).length < 140737488355328 then (product_Lay.l0 k1 l0 (l0.length : Int) (wrap64 (x14_1 + 1)) (wrap64 (t111 + ((rd_T31 l0 x14_1).f0))) (mx x109001_1 ((rd_T31 l0 x14_1).f1)) (y115 ++ ((rd_T31 l0 x14_1).f2)) (x109003_1 ++ [t111]) false) else (none))) else (none)) else (none)) else (none))) = some (r1, r2, r3, r4, r5, r6, r7, r8, r9) := H
     have A15 := Aside0.mk A150
     clear A150
     by_cases c16 : (wrap64 (t111 + ((rd_T31 l0 x14_1).f0))) > 1024
     ·
      rw [if_pos c16] at H
      have c16b0 : decide (1024 < (wrap64 (t111 + ((rd_T31 l0 x14_1).f0)))) = true := decide_eq_true c16
      clear c16
      simp only [Option.some.injEq, Prod.mk.injEq] at H
      obtain ⟨rfl, rfl, rfl, rfl, rfl, rfl, rfl, rfl, rfl⟩ := H
      have p109 : 0 ≤ (x14_1 : Int) := od_
      have q109 : x14_1 < (l0.length : Int) := od_
      obtain ⟨ad109, A109_2, c109_2, A109_3, c109_3, A109_4, c109_4, A109_5, c109_5, A109_6, c109_6, e109, hx109_0, hx109_1, hx109_2, hx109_3, hx109_4, hx109_5, hx109_6, hx109_7, hl109_2, hi109_2, hl109_3, hi109_3, hl109_4, hi109_4, hl109_5, hi109_5, hl109_6, hi109_6⟩ := at_T31 HR0.out x14_1 p109 q109
      cases e109
      replace hx109_0 := (HB.out.cell (World.block_lt_of_cell? w _ hx109_0)).trans hx109_0
      replace hx109_1 := (HB.out.cell (World.block_lt_of_cell? w _ hx109_1)).trans hx109_1
      replace hx109_2 := (HB.out.cell (World.block_lt_of_cell? w _ hx109_2)).trans hx109_2
      replace hx109_3 := (HB.out.cell (World.block_lt_of_cell? w _ hx109_3)).trans hx109_3
      replace hx109_4 := (HB.out.cell (World.block_lt_of_cell? w _ hx109_4)).trans hx109_4
      replace hx109_5 := (HB.out.cell (World.block_lt_of_cell? w _ hx109_5)).trans hx109_5
      replace hx109_6 := (HB.out.cell (World.block_lt_of_cell? w _ hx109_6)).trans hx109_6
      replace hx109_7 := (HB.out.cell (World.block_lt_of_cell? w _ hx109_7)).trans hx109_7
      have HR109_2 := Aside0.mk hi109_2
      have HC109_2 := Aside0.mk hl109_2
      clear hi109_2 hl109_2
      have HR109_3 := Aside0.mk hi109_3
      have HC109_3 := Aside0.mk hl109_3
      clear hi109_3 hl109_3
      have HR109_4 := Aside0.mk hi109_4
      have HC109_4 := Aside0.mk hl109_4
      clear hi109_4 hl109_4
      have HR109_5 := Aside0.mk hi109_5
      have HC109_5 := Aside0.mk hl109_5
      clear hi109_5 hl109_5
      have HR109_6 := Aside0.mk hi109_6
      have HC109_6 := Aside0.mk hl109_6
      clear hi109_6 hl109_6
      replace p109 := eq_true p109
      replace q109 := eq_true q109
      go_wp2_with (first | ((with_reducible refine gate_dst (N := 6) rfl ?_); refine box_event ?hg (N := 6) ?hd (cs := #[.int .i64 0, .int .i64 0, .slice none 0 0, .slice none 0 0, .slice none 0 0, .slice none 0 0, .slice none 0 0, .bool false]) (t := 31) ?hr ?_; (case hd => rfl); (case hg => rfl); (case hr => first | (go_simp; done) | (go_simp; rfl)); intro gb110 hg w17 hbox hb; have n0_ := Aside0.mk (Kd.R_below (kR_ HO_109002.out) hb); have n1_ := Aside0.mk (Kd.R_below (kR_ HO_109003.out) hb); have n2_ := Aside0.mk (blk_below (g := gb106) (o := .cells #[.int .i64 x107000_1, .int .i64 x107001_1, .slice none 0 0, .slice none 0 0, .slice none 0 0, .slice none 0 0, .slice none 0 0, .bool x107007_1] 31 (0, 0)) (bk_ BK106.out) hb); have n3_ := Aside0.mk (blk_below (g := gb108) (o := .cells #[.int .i64 x109000_1, .int .i64 x109001_1, u109002, u109003, .slice none 0 0, .slice none 0 0, .slice none 0 0, .bool false] 31 (0, 0)) (bk_ BK108.out) hb); have n4_ := Aside0.mk (below_step (hb2_ HB.out GE106.out GE108.out) hb); have n5_ := Aside0.mk (hbox); have n6_ := Aside0.mk ((by rw [hg]; exact (below_size (hb2_ HB.out GE106.out GE108.out)) : w.heap.size ≤ gb110)); have n7_ := Aside0.mk ((by rw [hg]; exact (below_size (hb2_ HB.out GE106.out GE108.out)) : w.heap.size ≤ gb110)); have n8_ := Aside0.mk ((by rw [hg]; exact Nat.ne_of_lt (blk_lt (g := gb106) (o := .cells #[.int .i64 x107000_1, .int .i64 x107001_1, .slice none 0 0, .slice none 0 0, .slice none 0 0, .slice none 0 0, .slice none 0 0, .bool x107007_1] 31 (0, 0)) (bk_ BK106.out)) : gb106 ≠ gb110)); have n9_ := Aside0.mk ((by rw [hg]; exact Nat.ne_of_gt (blk_lt (g := gb106) (o := .cells #[.int .i64 x107000_1, .int .i64 x107001_1, .slice none 0 0, .slice none 0 0, .slice none 0 0, .slice none 0 0, .slice none 0 0, .bool x107007_1] 31 (0, 0)) (bk_ BK106.out)) : gb110 ≠ gb106)); have n10_ := Aside0.mk ((by rw [hg]; exact Nat.ne_of_lt (blk_lt (g := gb108) (o := .cells #[.int .i64 x109000_1, .int .i64 x109001_1, u109002, u109003, .slice none 0 0, .slice none 0 0, .slice none 0 0, .bool false] 31 (0, 0)) (bk_ BK108.out)) : gb108 ≠ gb110)); have n11_ := Aside0.mk ((by rw [hg]; exact Nat.ne_of_gt (blk_lt (g := gb108) (o := .cells #[.int .i64 x109000_1, .int .i64 x109001_1, u109002, u109003, .slice none 0 0, .slice none 0 0, .slice none 0 0, .bool false] 31 (0, 0)) (bk_ BK108.out)) : gb110 ≠ gb108)); clear HO_109002 HO_109003 BK106 BK108 HB; have HO_109002 := n0_; have HO_109003 := n1_; have BK106 := n2_; have BK108 := n3_; have HB := n4_; have BK110 := n5_; have GW110 := n6_; have GE110 := n7_; have NB106_110 := n8_; have NB110_106 := n9_; have NB108_110 := n10_; have NB110_108 := n11_; clear n0_ n1_ n2_ n3_ n4_ n5_ n6_ n7_ n8_ n9_ n10_ n11_ hb hbox hg; have hnb18 := NB110_106.out; have hnc18 := NB106_110.out; have hnb19 := NB110_108.out; have hnc19 := NB108_110.out; have hcz20_0 : w17.cell? ⟨gb110, 0, none⟩ = some (.int .i64 0) := (blk_cell BK110.out 0).trans rfl; have hcz20_1 : w17.cell? ⟨gb110, 1, none⟩ = some (.int .i64 0) := (blk_cell BK110.out 1).trans rfl; have hcz20_2 : w17.cell? ⟨gb110, 2, none⟩ = some (.slice none 0 0) := (blk_cell BK110.out 2).trans rfl; have hcz20_3 : w17.cell? ⟨gb110, 3, none⟩ = some (.slice none 0 0) := (blk_cell BK110.out 3).trans rfl; have hcz20_4 : w17.cell? ⟨gb110, 4, none⟩ = some (.slice none 0 0) := (blk_cell BK110.out 4).trans rfl; have hcz20_5 : w17.cell? ⟨gb110, 5, none⟩ = some (.slice none 0 0) := (blk_cell BK110.out 5).trans rfl; have hcz20_6 : w17.cell? ⟨gb110, 6, none⟩ = some (.slice none 0 0) := (blk_cell BK110.out 6).trans rfl; have hcz20_7 : w17.cell? ⟨gb110, 7, none⟩ = some (.bool false) := (blk_cell BK110.out 7).trans rfl; have hfz20_0 := blk_frozen BK110.out 0; have hfz20_1 := blk_frozen BK110.out 1; have hfz20_2 := blk_frozen BK110.out 2; have hfz20_3 := blk_frozen BK110.out 3; have hfz20_4 := blk_frozen BK110.out 4; have hfz20_5 := blk_frozen BK110.out 5; have hfz20_6 := blk_frozen BK110.out 6; have hfz20_7 := blk_frozen BK110.out 7; have hnb21 := NB108_106.out; have hnc21 := NB106_108.out; have hcz22_0 : w17.cell? ⟨gb108, 0, none⟩ = some (.int .i64 x109000_1) := (blk_cell BK108.out 0).trans rfl; have hcz22_1 : w17.cell? ⟨gb108, 1, none⟩ = some (.int .i64 x109001_1) := (blk_cell BK108.out 1).trans rfl; have hcz22_2 : w17.cell? ⟨gb108, 2, none⟩ = some (u109002) := (blk_cell BK108.out 2).trans rfl; have hcz22_3 : w17.cell? ⟨gb108, 3, none⟩ = some (u109003) := (blk_cell BK108.out 3).trans rfl; have hcz22_4 : w17.cell? ⟨gb108, 4, none⟩ = some (.slice none 0 0) := (blk_cell BK108.out 4).trans rfl; have hcz22_5 : w17.cell? ⟨gb108, 5, none⟩ = some (.slice none 0 0) := (blk_cell BK108.out 5).trans rfl; have hcz22_6 : w17.cell? ⟨gb108, 6, none⟩ = some (.slice none 0 0) := (blk_cell BK108.out 6).trans rfl; have hcz22_7 : w17.cell? ⟨gb108, 7, none⟩ = some (.bool false) := (blk_cell BK108.out 7).trans rfl; have hfz22_0 := blk_frozen BK108.out 0; have hfz22_1 := blk_frozen BK108.out 1; have hfz22_2 := blk_frozen BK108.out 2; have hfz22_3 := blk_frozen BK108.out 3; have hfz22_4 := blk_frozen BK108.out 4; have hfz22_5 := blk_frozen BK108.out 5; have hfz22_6 := blk_frozen BK108.out 6; have hfz22_7 := blk_frozen BK108.out 7) | ((with_reducible refine gate_callee (f := 30) rfl ?_); refine goesL_ (some 22) rfl rfl Try.func30 (by kernel_rfl) rfl #[.int .i64 x109000_1, .int .i64 ((rd_T31 l0 x14_1).f1)] rfl (by (try simp only [List.map_toArray, List.map_cons, List.map_nil]); first | done | rfl | (simp only [List.length_drop, List.length_take]; rfl)) ?_; (with_reducible refine (product_Align.calls x109000_1 ((rd_T31 l0 x14_1).f1) t111 _ A15.out).mono ?_); rintro e w' ⟨rfl, ⟨nd, rfl⟩⟩; refine ⟨_, rfl, ?_⟩; have hcz23_0 : w17.cell? ⟨gb106, 0, none⟩ = some (.int .i64 x107000_1) := (blk_cell BK106.out 0).trans rfl; have hcz23_1 : w17.cell? ⟨gb106, 1, none⟩ = some (.int .i64 x107001_1) := (blk_cell BK106.out 1).trans rfl; have hcz23_2 : w17.cell? ⟨gb106, 2, none⟩ = some (.slice none 0 0) := (blk_cell BK106.out 2).trans rfl; have hcz23_3 : w17.cell? ⟨gb106, 3, none⟩ = some (.slice none 0 0) := (blk_cell BK106.out 3).trans rfl; have hcz23_4 : w17.cell? ⟨gb106, 4, none⟩ = some (.slice none 0 0) := (blk_cell BK106.out 4).trans rfl; have hcz23_5 : w17.cell? ⟨gb106, 5, none⟩ = some (.slice none 0 0) := (blk_cell BK106.out 5).trans rfl; have hcz23_6 : w17.cell? ⟨gb106, 6, none⟩ = some (.slice none 0 0) := (blk_cell BK106.out 6).trans rfl; have hcz23_7 : w17.cell? ⟨gb106, 7, none⟩ = some (.bool x107007_1) := (blk_cell BK106.out 7).trans rfl; have hfz23_0 := blk_frozen BK106.out 0; have hfz23_1 := blk_frozen BK106.out 1; have hfz23_2 := blk_frozen BK106.out 2; have hfz23_3 := blk_frozen BK106.out 3; have hfz23_4 := blk_frozen BK106.out 4; have hfz23_5 := blk_frozen BK106.out 5; have hfz23_6 := blk_frozen BK106.out 6; have hfz23_7 := blk_frozen BK106.out 7))
      refine bodyPost_ret (results_ct rfl _ _ gb106 31 #[.int .i64 0, .int .i64 0, .slice none 0 0, .slice none 0 0, .slice none 0 0, .slice none 0 0, .slice none 0 0, .bool false] (0, 0) _ rfl (by (with_reducible repeat (first | refine blk_drewN ?_ _ | refine blk_drew ?_ | refine blk_alloc ?_ _)); refine blk_put (cs := #[.int .i64 0, .int .i64 0, .slice none 0 0, .slice none 0 0, .slice none 0 0, .slice none 0 0, .slice none 0 0, .bool x107007_1]) ?_ 7 _ rfl; (with_reducible repeat (first | refine blk_drewN ?_ _ | refine blk_drew ?_ | refine blk_alloc ?_ _)); refine blk_put (cs := #[.int .i64 0, .int .i64 0, .slice none 0 0, .slice none 0 0, .slice none 0 0, .slice none 0 0, .slice none 0 0, .bool x107007_1]) ?_ 6 _ rfl; (with_reducible repeat (first | refine blk_drewN ?_ _ | refine blk_drew ?_ | refine blk_alloc ?_ _)); refine blk_put (cs := #[.int .i64 0, .int .i64 0, .slice none 0 0, .slice none 0 0, .slice none 0 0, .slice none 0 0, .slice none 0 0, .bool x107007_1]) ?_ 5 _ rfl; (with_reducible repeat (first | refine blk_drewN ?_ _ | refine blk_drew ?_ | refine blk_alloc ?_ _)); refine blk_put (cs := #[.int .i64 0, .int .i64 0, .slice none 0 0, .slice none 0 0, .slice none 0 0, .slice none 0 0, .slice none 0 0, .bool x107007_1]) ?_ 4 _ rfl; (with_reducible repeat (first | refine blk_drewN ?_ _ | refine blk_drew ?_ | refine blk_alloc ?_ _)); refine blk_put (cs := #[.int .i64 0, .int .i64 0, .slice none 0 0, .slice none 0 0, .slice none 0 0, .slice none 0 0, .slice none 0 0, .bool x107007_1]) ?_ 3 _ rfl; (with_reducible repeat (first | refine blk_drewN ?_ _ | refine blk_drew ?_ | refine blk_alloc ?_ _)); refine blk_put (cs := #[.int .i64 0, .int .i64 0, .slice none 0 0, .slice none 0 0, .slice none 0 0, .slice none 0 0, .slice none 0 0, .bool x107007_1]) ?_ 2 _ rfl; (with_reducible repeat (first | refine blk_drewN ?_ _ | refine blk_drew ?_ | refine blk_alloc ?_ _)); refine blk_put (cs := #[.int .i64 0, .int .i64 x107001_1, .slice none 0 0, .slice none 0 0, .slice none 0 0, .slice none 0 0, .slice none 0 0, .bool x107007_1]) ?_ 1 _ rfl; (with_reducible repeat (first | refine blk_drewN ?_ _ | refine blk_drew ?_ | refine blk_alloc ?_ _)); refine blk_put (cs := #[.int .i64 x107000_1, .int .i64 x107001_1, .slice none 0 0, .slice none 0 0, .slice none 0 0, .slice none 0 0, .slice none 0 0, .bool x107007_1]) ?_ 0 _ rfl; (with_reducible repeat (first | refine blk_drewN ?_ _ | refine blk_drew ?_ | refine blk_alloc ?_ _)); refine blk_far ?_ NB106_110.out _; (with_reducible repeat (first | refine blk_drewN ?_ _ | refine blk_drew ?_ | refine blk_alloc ?_ _)); refine blk_far ?_ NB106_110.out _; (with_reducible repeat (first | refine blk_drewN ?_ _ | refine blk_drew ?_ | refine blk_alloc ?_ _)); refine blk_far ?_ NB106_110.out _; (with_reducible repeat (first | refine blk_drewN ?_ _ | refine blk_drew ?_ | refine blk_alloc ?_ _)); refine blk_far ?_ NB106_110.out _; (with_reducible repeat (first | refine blk_drewN ?_ _ | refine blk_drew ?_ | refine blk_alloc ?_ _)); refine blk_far ?_ NB106_110.out _; (with_reducible repeat (first | refine blk_drewN ?_ _ | refine blk_drew ?_ | refine blk_alloc ?_ _)); refine blk_far ?_ NB106_110.out _; (with_reducible repeat (first | refine blk_drewN ?_ _ | refine blk_drew ?_ | refine blk_alloc ?_ _)); refine blk_far ?_ NB106_110.out _; (with_reducible repeat (first | refine blk_drewN ?_ _ | refine blk_drew ?_ | refine blk_alloc ?_ _)); refine blk_far ?_ NB106_110.out _; (with_reducible repeat (first | refine blk_drewN ?_ _ | refine blk_drew ?_ | refine blk_alloc ?_ _)); exact BK106.out) Try.underlying31 rfl (by kernel_rfl)) rfl ?_
      exact ⟨_, _, _, _, _, by first | rfl | (simp [errW_none, errW_some] <;> rfl) | (simp [*, errW_none, errW_some] <;> rfl), by first | exact Kd.R_nil _ _ _ _ _ | exact Kd.N_nil _ _ _ _ _ | exact Kd.V_nil _ _ _ _ _ | exact Kd.Q_nil _ _ _ _ _ | exact Kd.S_nil _ _ _ _ _, by first | exact Kd.R_nil _ _ _ _ _ | exact Kd.N_nil _ _ _ _ _ | exact Kd.V_nil _ _ _ _ _ | exact Kd.Q_nil _ _ _ _ _ | exact Kd.S_nil _ _ _ _ _, by first | exact Kd.R_nil _ _ _ _ _ | exact Kd.N_nil _ _ _ _ _ | exact Kd.V_nil _ _ _ _ _ | exact Kd.Q_nil _ _ _ _ _ | exact Kd.S_nil _ _ _ _ _, by first | exact Kd.R_nil _ _ _ _ _ | exact Kd.N_nil _ _ _ _ _ | exact Kd.V_nil _ _ _ _ _ | exact Kd.Q_nil _ _ _ _ _ | exact Kd.S_nil _ _ _ _ _, by first | exact Kd.R_nil _ _ _ _ _ | exact Kd.N_nil _ _ _ _ _ | exact Kd.V_nil _ _ _ _ _ | exact Kd.Q_nil _ _ _ _ _ | exact Kd.S_nil _ _ _ _ _, by repeat (first | (with_reducible first | exact HB.out | apply below_alloc | apply pw_below_drewN | apply below_drew1 | refine below_set ?_ GE106.out | refine below_set ?_ GE108.out | refine below_set ?_ GE110.out) | exact HB.out)⟩
     ·
      rw [if_neg c16] at H
      have c16b0 : decide (1024 < (wrap64 (t111 + ((rd_T31 l0 x14_1).f0)))) = false := decide_eq_false c16
      clear c16
      by_cases c24 : x109003_1.length < 17592186044416
      rotate_left
      ·
       rw [if_neg c24] at H
       exact absurd H (by simp)
      rw [if_pos c24] at H
      have LMc24 := Aside0.mk c24
      clear c24
      obtain ⟨y112, hy112⟩ : ∃ y_ : List Int, y_ = (x109003_1 ++ [t111]) := ⟨_, rfl⟩
      replace H : (if 0 ≤ (wrap64 (t111 - x109000_1)) then (if x109002_1.length + (wrap64 (t111 - x109000_1) : Int).toNat < 140737488355328 then ((some (x109002_1 ++ List.replicate (wrap64 (t111 - x109000_1) : Int).toNat 0 : List Int)).bind fun y115 => (if y115.length + ((rd_T31 l0 x14_1).f2).length < 140737488355328 then (product_Lay.l0 k1 l0 (l0.length : Int) (wrap64 (x14_1 + 1)) (wrap64 (t111 + ((rd_T31 l0 x14_1).f0))) (mx x109001_1 ((rd_T31 l0 x14_1).f1)) (y115 ++ ((rd_T31 l0 x14_1).f2)) y112 false) else (none))) else (none)) else (none)) = some (r1, r2, r3, r4, r5, r6, r7, r8, r9) := by first | (rw [hy112]; with_reducible exact H) | (have H2_ := (Option.bind_some _ _).symm.trans H; rw [hy112]; with_reducible exact H2_) | (have H2_ := (Option.bind_some _ _).symm.trans H; with_reducible exact H2_) | with_reducible exact H | (rw [hy112]; exact H) | exact H
      have Ny112 := Aside0.mk hy112
      clear hy112
      obtain ⟨ji25, hji25⟩ : ∃ j_ : Int, (wrap64 (t111 - x109000_1)) = j_ := ⟨_, rfl⟩
      replace H : (if 0 ≤ (ji25) then (if x109002_1.length + (ji25 : Int).toNat < 140737488355328 then ((some (x109002_1 ++ List.replicate (ji25 : Int).toNat 0 : List Int)).bind fun y115 => (if y115.length + ((rd_T31 l0 x14_1).f2).length < 140737488355328 then (product_Lay.l0 k1 l0 (l0.length : Int) (wrap64 (x14_1 + 1)) (wrap64 (t111 + ((rd_T31 l0 x14_1).f0))) (mx x109001_1 ((rd_T31 l0 x14_1).f1)) (y115 ++ ((rd_T31 l0 x14_1).f2)) y112 false) else (none))) else (none)) else (none)) = some (r1, r2, r3, r4, r5, r6, r7, r8, r9) := by first | (rw [hji25] at H; exact H) | (simp only [hji25] at H ⊢; exact H)
      (try rw [hji25] at A15)
      have hji25w : (IntKind.i64.wrap (t111 - x109000_1)) = ji25 := (i64_w _).trans hji25
      by_cases c26 : 0 ≤ (ji25)
      rotate_left
      ·
       rw [if_neg c26] at H
       exact absurd H (by simp)
      rw [if_pos c26] at H
      have c26b0 := eq_true c26
      have c26b1 : decide (0 ≤ (ji25)) = true := decide_eq_true c26
      clear c26
      by_cases c27 : x109002_1.length + (ji25 : Int).toNat < 140737488355328
      rotate_left
      ·
       rw [if_neg c27] at H
       exact absurd H (by simp)
      rw [if_pos c27] at H
      have LMc27 := Aside0.mk c27
      clear c27
      obtain ⟨y115, hy115⟩ : ∃ y_ : List Int, y_ = (x109002_1 ++ List.replicate (ji25 : Int).toNat 0) := ⟨_, rfl⟩
      replace H : (if y115.length + ((rd_T31 l0 x14_1).f2).length < 140737488355328 then (product_Lay.l0 k1 l0 (l0.length : Int) (wrap64 (x14_1 + 1)) (wrap64 (t111 + ((rd_T31 l0 x14_1).f0))) (mx x109001_1 ((rd_T31 l0 x14_1).f1)) (y115 ++ ((rd_T31 l0 x14_1).f2)) y112 false) else (none)) = some (r1, r2, r3, r4, r5, r6, r7, r8, r9) := by first | (rw [hy115]; with_reducible exact H) | (have H2_ := (Option.bind_some _ _).symm.trans H; rw [hy115]; with_reducible exact H2_) | (have H2_ := (Option.bind_some _ _).symm.trans H; with_reducible exact H2_) | with_reducible exact H | (rw [hy115]; exact H) | exact H
      have Ny115 := Aside0.mk hy115
      clear hy115
      by_cases c28 : y115.length + ((rd_T31 l0 x14_1).f2).length < 140737488355328
      rotate_left
      ·
       rw [if_neg c28] at H
       exact absurd H (by simp)
      rw [if_pos c28] at H
      have LMc28 := Aside0.mk c28
      clear c28
      obtain ⟨y118, hy118⟩ : ∃ y_ : List Int, y_ = (y115 ++ ((rd_T31 l0 x14_1).f2)) := ⟨_, rfl⟩
      replace H : (product_Lay.l0 k1 l0 (l0.length : Int) (wrap64 (x14_1 + 1)) (wrap64 (t111 + ((rd_T31 l0 x14_1).f0))) (mx x109001_1 ((rd_T31 l0 x14_1).f1)) y118 y112 false) = some (r1, r2, r3, r4, r5, r6, r7, r8, r9) := by first | (rw [hy118]; with_reducible exact H) | (have H2_ := (Option.bind_some _ _).symm.trans H; rw [hy118]; with_reducible exact H2_) | (have H2_ := (Option.bind_some _ _).symm.trans H; with_reducible exact H2_) | with_reducible exact H | (rw [hy118]; exact H) | exact H
      have Ny118 := Aside0.mk hy118
      clear hy118
      obtain ⟨ji29, hji29⟩ : ∃ j_ : Int, (mx x109001_1 ((rd_T31 l0 x14_1).f1)) = j_ := ⟨_, rfl⟩
      replace H : (product_Lay.l0 k1 l0 (l0.length : Int) (wrap64 (x14_1 + 1)) (wrap64 (t111 + ((rd_T31 l0 x14_1).f0))) ji29 y118 y112 false) = some (r1, r2, r3, r4, r5, r6, r7, r8, r9) := by first | (rw [hji29] at H; exact H) | (simp only [hji29] at H ⊢; exact H)
      (try rw [hji29] at A15)
      have hji29_ : (if x109001_1 < ((rd_T31 l0 x14_1).f1) then ((rd_T31 l0 x14_1).f1) else x109001_1) = ji29 := hji29
      have H' := Aside0.mk H
      clear H
      have p109 : 0 ≤ (x14_1 : Int) := od_
      have q109 : x14_1 < (l0.length : Int) := od_
      obtain ⟨ad109, A109_2, c109_2, A109_3, c109_3, A109_4, c109_4, A109_5, c109_5, A109_6, c109_6, e109, hx109_0, hx109_1, hx109_2, hx109_3, hx109_4, hx109_5, hx109_6, hx109_7, hl109_2, hi109_2, hl109_3, hi109_3, hl109_4, hi109_4, hl109_5, hi109_5, hl109_6, hi109_6⟩ := at_T31 HR0.out x14_1 p109 q109
      cases e109
      replace hx109_0 := (HB.out.cell (World.block_lt_of_cell? w _ hx109_0)).trans hx109_0
      replace hx109_1 := (HB.out.cell (World.block_lt_of_cell? w _ hx109_1)).trans hx109_1
      replace hx109_2 := (HB.out.cell (World.block_lt_of_cell? w _ hx109_2)).trans hx109_2
      replace hx109_3 := (HB.out.cell (World.block_lt_of_cell? w _ hx109_3)).trans hx109_3
      replace hx109_4 := (HB.out.cell (World.block_lt_of_cell? w _ hx109_4)).trans hx109_4
      replace hx109_5 := (HB.out.cell (World.block_lt_of_cell? w _ hx109_5)).trans hx109_5
      replace hx109_6 := (HB.out.cell (World.block_lt_of_cell? w _ hx109_6)).trans hx109_6
      replace hx109_7 := (HB.out.cell (World.block_lt_of_cell? w _ hx109_7)).trans hx109_7
      have HR109_2 := Aside0.mk hi109_2
      have HC109_2 := Aside0.mk hl109_2
      clear hi109_2 hl109_2
      have HR109_3 := Aside0.mk hi109_3
      have HC109_3 := Aside0.mk hl109_3
      clear hi109_3 hl109_3
      have HR109_4 := Aside0.mk hi109_4
      have HC109_4 := Aside0.mk hl109_4
      clear hi109_4 hl109_4
      have HR109_5 := Aside0.mk hi109_5
      have HC109_5 := Aside0.mk hl109_5
      clear hi109_5 hl109_5
      have HR109_6 := Aside0.mk hi109_6
      have HC109_6 := Aside0.mk hl109_6
      clear hi109_6 hl109_6
      replace p109 := eq_true p109
      replace q109 := eq_true q109
      try go_wp2_with (first | ((with_reducible refine gate_dst (N := 6) rfl ?_); refine box_event ?hg (N := 6) ?hd (cs := #[.int .i64 0, .int .i64 0, .slice none 0 0, .slice none 0 0, .slice none 0 0, .slice none 0 0, .slice none 0 0, .bool false]) (t := 31) ?hr ?_; (case hd => rfl); (case hg => rfl); (case hr => first | (go_simp; done) | (go_simp; rfl)); intro gb110 hg w30 hbox hb; have n0_ := Aside0.mk (Kd.R_below (kR_ HO_109002.out) hb); have n1_ := Aside0.mk (Kd.R_below (kR_ HO_109003.out) hb); have n2_ := Aside0.mk (blk_below (g := gb106) (o := .cells #[.int .i64 x107000_1, .int .i64 x107001_1, .slice none 0 0, .slice none 0 0, .slice none 0 0, .slice none 0 0, .slice none 0 0, .bool x107007_1] 31 (0, 0)) (bk_ BK106.out) hb); have n3_ := Aside0.mk (blk_below (g := gb108) (o := .cells #[.int .i64 x109000_1, .int .i64 x109001_1, u109002, u109003, .slice none 0 0, .slice none 0 0, .slice none 0 0, .bool false] 31 (0, 0)) (bk_ BK108.out) hb); have n4_ := Aside0.mk (below_step (hb2_ HB.out GE106.out GE108.out) hb); have n5_ := Aside0.mk (hbox); have n6_ := Aside0.mk ((by rw [hg]; exact (below_size (hb2_ HB.out GE106.out GE108.out)) : w.heap.size ≤ gb110)); have n7_ := Aside0.mk ((by rw [hg]; exact (below_size (hb2_ HB.out GE106.out GE108.out)) : w.heap.size ≤ gb110)); have n8_ := Aside0.mk ((by rw [hg]; exact Nat.ne_of_lt (blk_lt (g := gb106) (o := .cells #[.int .i64 x107000_1, .int .i64 x107001_1, .slice none 0 0, .slice none 0 0, .slice none 0 0, .slice none 0 0, .slice none 0 0, .bool x107007_1] 31 (0, 0)) (bk_ BK106.out)) : gb106 ≠ gb110)); have n9_ := Aside0.mk ((by rw [hg]; exact Nat.ne_of_gt (blk_lt (g := gb106) (o := .cells #[.int .i64 x107000_1, .int .i64 x107001_1, .slice none 0 0, .slice none 0 0, .slice none 0 0, .slice none 0 0, .slice none 0 0, .bool x107007_1] 31 (0, 0)) (bk_ BK106.out)) : gb110 ≠ gb106)); have n10_ := Aside0.mk ((by rw [hg]; exact Nat.ne_of_lt (blk_lt (g := gb108) (o := .cells #[.int .i64 x109000_1, .int .i64 x109001_1, u109002, u109003, .slice none 0 0, .slice none 0 0, .slice none 0 0, .bool false] 31 (0, 0)) (bk_ BK108.out)) : gb108 ≠ gb110)); have n11_ := Aside0.mk ((by rw [hg]; exact Nat.ne_of_gt (blk_lt (g := gb108) (o := .cells #[.int .i64 x109000_1, .int .i64 x109001_1, u109002, u109003, .slice none 0 0, .slice none 0 0, .slice none 0 0, .bool false] 31 (0, 0)) (bk_ BK108.out)) : gb110 ≠ gb108)); clear HO_109002 HO_109003 BK106 BK108 HB; have HO_109002 := n0_; have HO_109003 := n1_; have BK106 := n2_; have BK108 := n3_; have HB := n4_; have BK110 := n5_; have GW110 := n6_; have GE110 := n7_; have NB106_110 := n8_; have NB110_106 := n9_; have NB108_110 := n10_; have NB110_108 := n11_; clear n0_ n1_ n2_ n3_ n4_ n5_ n6_ n7_ n8_ n9_ n10_ n11_ hb hbox hg; have hnb31 := NB110_106.out; have hnc31 := NB106_110.out; have hnb32 := NB110_108.out; have hnc32 := NB108_110.out; have hcz33_0 : w30.cell? ⟨gb110, 0, none⟩ = some (.int .i64 0) := (blk_cell BK110.out 0).trans rfl; have hcz33_1 : w30.cell? ⟨gb110, 1, none⟩ = some (.int .i64 0) := (blk_cell BK110.out 1).trans rfl; have hcz33_2 : w30.cell? ⟨gb110, 2, none⟩ = some (.slice none 0 0) := (blk_cell BK110.out 2).trans rfl; have hcz33_3 : w30.cell? ⟨gb110, 3, none⟩ = some (.slice none 0 0) := (blk_cell BK110.out 3).trans rfl; have hcz33_4 : w30.cell? ⟨gb110, 4, none⟩ = some (.slice none 0 0) := (blk_cell BK110.out 4).trans rfl; have hcz33_5 : w30.cell? ⟨gb110, 5, none⟩ = some (.slice none 0 0) := (blk_cell BK110.out 5).trans rfl; have hcz33_6 : w30.cell? ⟨gb110, 6, none⟩ = some (.slice none 0 0) := (blk_cell BK110.out 6).trans rfl; have hcz33_7 : w30.cell? ⟨gb110, 7, none⟩ = some (.bool false) := (blk_cell BK110.out 7).trans rfl; have hfz33_0 := blk_frozen BK110.out 0; have hfz33_1 := blk_frozen BK110.out 1; have hfz33_2 := blk_frozen BK110.out 2; have hfz33_3 := blk_frozen BK110.out 3; have hfz33_4 := blk_frozen BK110.out 4; have hfz33_5 := blk_frozen BK110.out 5; have hfz33_6 := blk_frozen BK110.out 6; have hfz33_7 := blk_frozen BK110.out 7; have hnb34 := NB108_106.out; have hnc34 := NB106_108.out; have hcz35_0 : w30.cell? ⟨gb108, 0, none⟩ = some (.int .i64 x109000_1) := (blk_cell BK108.out 0).trans rfl; have hcz35_1 : w30.cell? ⟨gb108, 1, none⟩ = some (.int .i64 x109001_1) := (blk_cell BK108.out 1).trans rfl; have hcz35_2 : w30.cell? ⟨gb108, 2, none⟩ = some (u109002) := (blk_cell BK108.out 2).trans rfl; have hcz35_3 : w30.cell? ⟨gb108, 3, none⟩ = some (u109003) := (blk_cell BK108.out 3).trans rfl; have hcz35_4 : w30.cell? ⟨gb108, 4, none⟩ = some (.slice none 0 0) := (blk_cell BK108.out 4).trans rfl; have hcz35_5 : w30.cell? ⟨gb108, 5, none⟩ = some (.slice none 0 0) := (blk_cell BK108.out 5).trans rfl; have hcz35_6 : w30.cell? ⟨gb108, 6, none⟩ = some (.slice none 0 0) := (blk_cell BK108.out 6).trans rfl; have hcz35_7 : w30.cell? ⟨gb108, 7, none⟩ = some (.bool false) := (blk_cell BK108.out 7).trans rfl; have hfz35_0 := blk_frozen BK108.out 0; have hfz35_1 := blk_frozen BK108.out 1; have hfz35_2 := blk_frozen BK108.out 2; have hfz35_3 := blk_frozen BK108.out 3; have hfz35_4 := blk_frozen BK108.out 4; have hfz35_5 := blk_frozen BK108.out 5; have hfz35_6 := blk_frozen BK108.out 6; have hfz35_7 := blk_frozen BK108.out 7) | ((with_reducible refine gate_callee (f := 30) rfl ?_); refine goesL_ (some 22) rfl rfl Try.func30 (by kernel_rfl) rfl #[.int .i64 x109000_1, .int .i64 ((rd_T31 l0 x14_1).f1)] rfl (by (try simp only [List.map_toArray, List.map_cons, List.map_nil]); first | done | rfl | (simp only [List.length_drop, List.length_take]; rfl)) ?_; (with_reducible refine (product_Align.calls x109000_1 ((rd_T31 l0 x14_1).f1) t111 _ A15.out).mono ?_); rintro e w' ⟨rfl, ⟨nd, rfl⟩⟩; refine ⟨_, rfl, ?_⟩) | ((with_reducible refine gate_builtin (b := .append) (xs := #[.tmp 30, .tmp 32]) rfl ?_); at_builtin; refine Kd.R_append (Kd.int .i64) (w0 := w) w.heap.size rfl (.tmp 30) (.tmp 32) 23 3 (.int .i64 0) 8 rfl Try.underlying23 info3 rfl (by decide) (by omega) u109003 x109003_1 t111 [.int .i64 t111] (fun _ => True) (fun _ => False) rfl (by first | (go_simp; done) | (go_simp; rfl)) ?aP (fun _ hk => hk.elim) ?aF ?aO ?aB ?aS ?aL ?_; (case aP => exact rfl); (case aB => exact (hb3_ HB.out GE106.out GE108.out GE110.out)); (case aF => exact (fun _ _ => trivial)); (case aO => exact (by (with_reducible repeat (first | apply Kd.R_alloc | apply Kd.R_drewN | apply Kd.R_drew)); exact Kd.R_mono (Kd.R_far (p := ⟨gb110, 7, none⟩) (Kd.R_far (p := ⟨gb110, 6, none⟩) (Kd.R_far (p := ⟨gb110, 5, none⟩) (Kd.R_far (p := ⟨gb110, 4, none⟩) (Kd.R_far (p := ⟨gb110, 3, none⟩) (Kd.R_far (p := ⟨gb110, 2, none⟩) (Kd.R_far (p := ⟨gb110, 1, none⟩) (Kd.R_far (p := ⟨gb110, 0, none⟩) (Kd.R_types HO_109003.out BK110.out (by decide)) (fun _ hk => hk.2) (.int .i64 ((rd_T31 l0 x14_1).f0))) (fun _ hk => hk.2) (.int .i64 ((rd_T31 l0 x14_1).f1))) (fun _ hk => hk.2) (.slice A109_2 ((rd_T31 l0 x14_1).f2).length c109_2)) (fun _ hk => hk.2) (.slice A109_3 ((rd_T31 l0 x14_1).f3).length c109_3)) (fun _ hk => hk.2) (.slice A109_4 ((rd_T31 l0 x14_1).f4).length c109_4)) (fun _ hk => hk.2) (.slice A109_5 ((rd_T31 l0 x14_1).f5).length c109_5)) (fun _ hk => hk.2) (.slice A109_6 ((rd_T31 l0 x14_1).f6).length c109_6)) (fun _ hk => hk.2) (.bool ((rd_T31 l0 x14_1).f7))) (fun _ hk => trivial))); (case aS => exact (below_size (hb3_ HB.out GE106.out GE108.out GE110.out))); (case aL => have := LMc24.out; omega); intro v113 w36 ho hb hg hat; rw [← Ny112.out] at ho; have n0_ := Aside0.mk (Kd.R_over' (by (with_reducible repeat (first | apply Kd.R_alloc | apply Kd.R_drewN | apply Kd.R_drew)); exact (Kd.R_mono (Kd.R_far (p := ⟨gb110, 7, none⟩) (Kd.R_far (p := ⟨gb110, 6, none⟩) (Kd.R_far (p := ⟨gb110, 5, none⟩) (Kd.R_far (p := ⟨gb110, 4, none⟩) (Kd.R_far (p := ⟨gb110, 3, none⟩) (Kd.R_far (p := ⟨gb110, 2, none⟩) (Kd.R_far (p := ⟨gb110, 1, none⟩) (Kd.R_far (p := ⟨gb110, 0, none⟩) (Kd.R_types HO_109002.out BK110.out (by decide)) (fun _ hk => hk.2) (.int .i64 ((rd_T31 l0 x14_1).f0))) (fun _ hk => hk.2) (.int .i64 ((rd_T31 l0 x14_1).f1))) (fun _ hk => hk.2) (.slice A109_2 ((rd_T31 l0 x14_1).f2).length c109_2)) (fun _ hk => hk.2) (.slice A109_3 ((rd_T31 l0 x14_1).f3).length c109_3)) (fun _ hk => hk.2) (.slice A109_4 ((rd_T31 l0 x14_1).f4).length c109_4)) (fun _ hk => hk.2) (.slice A109_5 ((rd_T31 l0 x14_1).f5).length c109_5)) (fun _ hk => hk.2) (.slice A109_6 ((rd_T31 l0 x14_1).f6).length c109_6)) (fun _ hk => hk.2) (.bool ((rd_T31 l0 x14_1).f7))) (fun _ h_ => h_.1))) (Kd.R_typed (by (with_reducible repeat (first | apply Kd.R_alloc | apply Kd.R_drewN | apply Kd.R_drew)); exact (Kd.R_mono (Kd.R_far (p := ⟨gb110, 7, none⟩) (Kd.R_far (p := ⟨gb110, 6, none⟩) (Kd.R_far (p := ⟨gb110, 5, none⟩) (Kd.R_far (p := ⟨gb110, 4, none⟩) (Kd.R_far (p := ⟨gb110, 3, none⟩) (Kd.R_far (p := ⟨gb110, 2, none⟩) (Kd.R_far (p := ⟨gb110, 1, none⟩) (Kd.R_far (p := ⟨gb110, 0, none⟩) (Kd.R_types HO_109003.out BK110.out (by decide)) (fun _ hk => hk.2) (.int .i64 ((rd_T31 l0 x14_1).f0))) (fun _ hk => hk.2) (.int .i64 ((rd_T31 l0 x14_1).f1))) (fun _ hk => hk.2) (.slice A109_2 ((rd_T31 l0 x14_1).f2).length c109_2)) (fun _ hk => hk.2) (.slice A109_3 ((rd_T31 l0 x14_1).f3).length c109_3)) (fun _ hk => hk.2) (.slice A109_4 ((rd_T31 l0 x14_1).f4).length c109_4)) (fun _ hk => hk.2) (.slice A109_5 ((rd_T31 l0 x14_1).f5).length c109_5)) (fun _ hk => hk.2) (.slice A109_6 ((rd_T31 l0 x14_1).f6).length c109_6)) (fun _ hk => hk.2) (.bool ((rd_T31 l0 x14_1).f7))) (fun _ h_ => h_.1)))) (by decide) hg); have n1_ := Aside0.mk (blk_grown (g := gb106) (o := .cells #[.int .i64 x107000_1, .int .i64 x107001_1, .slice none 0 0, .slice none 0 0, .slice none 0 0, .slice none 0 0, .slice none 0 0, .bool x107007_1] 31 (0, 0)) (bf1_ BK106.out NB106_110.out) hg (Kd.R_ne HO_109003.out BK106.out (by decide))); have n2_ := Aside0.mk (blk_grown (g := gb108) (o := .cells #[.int .i64 x109000_1, .int .i64 x109001_1, u109002, u109003, .slice none 0 0, .slice none 0 0, .slice none 0 0, .bool false] 31 (0, 0)) (bf1_ BK108.out NB108_110.out) hg (Kd.R_ne HO_109003.out BK108.out (by decide))); have n3_ := Aside0.mk (blk_grown (g := gb110) (o := .cells #[.int .i64 ((rd_T31 l0 x14_1).f0), .int .i64 ((rd_T31 l0 x14_1).f1), .slice A109_2 ((rd_T31 l0 x14_1).f2).length c109_2, .slice A109_3 ((rd_T31 l0 x14_1).f3).length c109_3, .slice A109_4 ((rd_T31 l0 x14_1).f4).length c109_4, .slice A109_5 ((rd_T31 l0 x14_1).f5).length c109_5, .slice A109_6 ((rd_T31 l0 x14_1).f6).length c109_6, .bool ((rd_T31 l0 x14_1).f7)] 31 (0, 0)) (by (with_reducible repeat (first | refine blk_drewN ?_ _ | refine blk_drew ?_ | refine blk_alloc ?_ _)); refine blk_put (cs := #[.int .i64 ((rd_T31 l0 x14_1).f0), .int .i64 ((rd_T31 l0 x14_1).f1), .slice A109_2 ((rd_T31 l0 x14_1).f2).length c109_2, .slice A109_3 ((rd_T31 l0 x14_1).f3).length c109_3, .slice A109_4 ((rd_T31 l0 x14_1).f4).length c109_4, .slice A109_5 ((rd_T31 l0 x14_1).f5).length c109_5, .slice A109_6 ((rd_T31 l0 x14_1).f6).length c109_6, .bool false]) ?_ 7 _ rfl; (with_reducible repeat (first | refine blk_drewN ?_ _ | refine blk_drew ?_ | refine blk_alloc ?_ _)); refine blk_put (cs := #[.int .i64 ((rd_T31 l0 x14_1).f0), .int .i64 ((rd_T31 l0 x14_1).f1), .slice A109_2 ((rd_T31 l0 x14_1).f2).length c109_2, .slice A109_3 ((rd_T31 l0 x14_1).f3).length c109_3, .slice A109_4 ((rd_T31 l0 x14_1).f4).length c109_4, .slice A109_5 ((rd_T31 l0 x14_1).f5).length c109_5, .slice none 0 0, .bool false]) ?_ 6 _ rfl; (with_reducible repeat (first | refine blk_drewN ?_ _ | refine blk_drew ?_ | refine blk_alloc ?_ _)); refine blk_put (cs := #[.int .i64 ((rd_T31 l0 x14_1).f0), .int .i64 ((rd_T31 l0 x14_1).f1), .slice A109_2 ((rd_T31 l0 x14_1).f2).length c109_2, .slice A109_3 ((rd_T31 l0 x14_1).f3).length c109_3, .slice A109_4 ((rd_T31 l0 x14_1).f4).length c109_4, .slice none 0 0, .slice none 0 0, .bool false]) ?_ 5 _ rfl; (with_reducible repeat (first | refine blk_drewN ?_ _ | refine blk_drew ?_ | refine blk_alloc ?_ _)); refine blk_put (cs := #[.int .i64 ((rd_T31 l0 x14_1).f0), .int .i64 ((rd_T31 l0 x14_1).f1), .slice A109_2 ((rd_T31 l0 x14_1).f2).length c109_2, .slice A109_3 ((rd_T31 l0 x14_1).f3).length c109_3, .slice none 0 0, .slice none 0 0, .slice none 0 0, .bool false]) ?_ 4 _ rfl; (with_reducible repeat (first | refine blk_drewN ?_ _ | refine blk_drew ?_ | refine blk_alloc ?_ _)); refine blk_put (cs := #[.int .i64 ((rd_T31 l0 x14_1).f0), .int .i64 ((rd_T31 l0 x14_1).f1), .slice A109_2 ((rd_T31 l0 x14_1).f2).length c109_2, .slice none 0 0, .slice none 0 0, .slice none 0 0, .slice none 0 0, .bool false]) ?_ 3 _ rfl; (with_reducible repeat (first | refine blk_drewN ?_ _ | refine blk_drew ?_ | refine blk_alloc ?_ _)); refine blk_put (cs := #[.int .i64 ((rd_T31 l0 x14_1).f0), .int .i64 ((rd_T31 l0 x14_1).f1), .slice none 0 0, .slice none 0 0, .slice none 0 0, .slice none 0 0, .slice none 0 0, .bool false]) ?_ 2 _ rfl; (with_reducible repeat (first | refine blk_drewN ?_ _ | refine blk_drew ?_ | refine blk_alloc ?_ _)); refine blk_put (cs := #[.int .i64 ((rd_T31 l0 x14_1).f0), .int .i64 0, .slice none 0 0, .slice none 0 0, .slice none 0 0, .slice none 0 0, .slice none 0 0, .bool false]) ?_ 1 _ rfl; (with_reducible repeat (first | refine blk_drewN ?_ _ | refine blk_drew ?_ | refine blk_alloc ?_ _)); refine blk_put (cs := #[.int .i64 0, .int .i64 0, .slice none 0 0, .slice none 0 0, .slice none 0 0, .slice none 0 0, .slice none 0 0, .bool false]) ?_ 0 _ rfl; (with_reducible repeat (first | refine blk_drewN ?_ _ | refine blk_drew ?_ | refine blk_alloc ?_ _)); exact BK110.out) hg (Kd.R_ne HO_109003.out BK110.out (by decide))); have n4_ := Aside0.mk (hb); have n5_ := Aside0.mk (ho); clear HO_109002 BK106 BK108 BK110 HB HO_109003; have HO_109002 := n0_; have BK106 := n1_; have BK108 := n2_; have BK110 := n3_; have HB := n4_; have HO114 := n5_; clear n0_ n1_ n2_ n3_ n4_ n5_ ho hb hg hat; obtain ⟨Ao37, co37, eo37⟩ := Kd.R_slice HO114.out; subst eo37; have hcz38_0 : w36.cell? ⟨gb108, 0, none⟩ = some (.int .i64 x109000_1) := (blk_cell BK108.out 0).trans rfl; have hcz38_1 : w36.cell? ⟨gb108, 1, none⟩ = some (.int .i64 x109001_1) := (blk_cell BK108.out 1).trans rfl; have hcz38_2 : w36.cell? ⟨gb108, 2, none⟩ = some (u109002) := (blk_cell BK108.out 2).trans rfl; have hcz38_3 : w36.cell? ⟨gb108, 3, none⟩ = some (u109003) := (blk_cell BK108.out 3).trans rfl; have hcz38_4 : w36.cell? ⟨gb108, 4, none⟩ = some (.slice none 0 0) := (blk_cell BK108.out 4).trans rfl; have hcz38_5 : w36.cell? ⟨gb108, 5, none⟩ = some (.slice none 0 0) := (blk_cell BK108.out 5).trans rfl; have hcz38_6 : w36.cell? ⟨gb108, 6, none⟩ = some (.slice none 0 0) := (blk_cell BK108.out 6).trans rfl; have hcz38_7 : w36.cell? ⟨gb108, 7, none⟩ = some (.bool false) := (blk_cell BK108.out 7).trans rfl; have hfz38_0 := blk_frozen BK108.out 0; have hfz38_1 := blk_frozen BK108.out 1; have hfz38_2 := blk_frozen BK108.out 2; have hfz38_3 := blk_frozen BK108.out 3; have hfz38_4 := blk_frozen BK108.out 4; have hfz38_5 := blk_frozen BK108.out 5; have hfz38_6 := blk_frozen BK108.out 6; have hfz38_7 := blk_frozen BK108.out 7))
      have n0_ : Aside0 (Kd.R (Kd.int .u8) 5 (w36.setCell ⟨gb108, 3, none⟩ (.slice Ao37 y112.length co37)) w.heap.size (fun _ => True) u109002 x109002_1) := ⟨by (with_reducible repeat (first | apply Kd.R_alloc | apply Kd.R_drewN | apply Kd.R_drew)); exact Kd.R_mono (Kd.R_far (p := ⟨gb108, 3, none⟩) (Kd.R_types HO_109002.out BK108.out (by decide)) (fun _ hk => hk.2) (.slice Ao37 y112.length co37)) (fun _ hk => trivial)⟩
      have n1_ : Aside0 (Kd.R (Kd.int .i64) 3 (w36.setCell ⟨gb108, 3, none⟩ (.slice Ao37 y112.length co37)) w.heap.size (fun _ => True) (.slice Ao37 y112.length co37) y112) := ⟨by (with_reducible repeat (first | apply Kd.R_alloc | apply Kd.R_drewN | apply Kd.R_drew)); exact Kd.R_mono (Kd.R_far (p := ⟨gb108, 3, none⟩) (Kd.R_types HO114.out BK108.out (by decide)) (fun _ hk => hk.2) (.slice Ao37 y112.length co37)) (fun _ hk => trivial)⟩
      have n2_ : Aside0 ((w36.setCell ⟨gb108, 3, none⟩ (.slice Ao37 y112.length co37)).heap[gb106]? = some (.cells #[.int .i64 x107000_1, .int .i64 x107001_1, .slice none 0 0, .slice none 0 0, .slice none 0 0, .slice none 0 0, .slice none 0 0, .bool x107007_1] 31 (0, 0))) := ⟨by (with_reducible repeat (first | refine blk_drewN ?_ _ | refine blk_drew ?_ | refine blk_alloc ?_ _)); refine blk_far ?_ NB106_108.out _; (with_reducible repeat (first | refine blk_drewN ?_ _ | refine blk_drew ?_ | refine blk_alloc ?_ _)); exact BK106.out⟩
      have n3_ : Aside0 ((w36.setCell ⟨gb108, 3, none⟩ (.slice Ao37 y112.length co37)).heap[gb108]? = some (.cells #[.int .i64 x109000_1, .int .i64 x109001_1, u109002, .slice Ao37 y112.length co37, .slice none 0 0, .slice none 0 0, .slice none 0 0, .bool false] 31 (0, 0))) := ⟨by (with_reducible repeat (first | refine blk_drewN ?_ _ | refine blk_drew ?_ | refine blk_alloc ?_ _)); refine blk_put (cs := #[.int .i64 x109000_1, .int .i64 x109001_1, u109002, u109003, .slice none 0 0, .slice none 0 0, .slice none 0 0, .bool false]) ?_ 3 _ rfl; (with_reducible repeat (first | refine blk_drewN ?_ _ | refine blk_drew ?_ | refine blk_alloc ?_ _)); exact BK108.out⟩
      have n4_ : Aside0 ((w36.setCell ⟨gb108, 3, none⟩ (.slice Ao37 y112.length co37)).heap[gb110]? = some (.cells #[.int .i64 ((rd_T31 l0 x14_1).f0), .int .i64 ((rd_T31 l0 x14_1).f1), .slice A109_2 ((rd_T31 l0 x14_1).f2).length c109_2, .slice A109_3 ((rd_T31 l0 x14_1).f3).length c109_3, .slice A109_4 ((rd_T31 l0 x14_1).f4).length c109_4, .slice A109_5 ((rd_T31 l0 x14_1).f5).length c109_5, .slice A109_6 ((rd_T31 l0 x14_1).f6).length c109_6, .bool ((rd_T31 l0 x14_1).f7)] 31 (0, 0))) := ⟨by (with_reducible repeat (first | refine blk_drewN ?_ _ | refine blk_drew ?_ | refine blk_alloc ?_ _)); refine blk_far ?_ NB110_108.out _; (with_reducible repeat (first | refine blk_drewN ?_ _ | refine blk_drew ?_ | refine blk_alloc ?_ _)); exact BK110.out⟩
      have n5_ : Aside0 (Below w.heap.size w (w36.setCell ⟨gb108, 3, none⟩ (.slice Ao37 y112.length co37))) := ⟨by repeat (first | (with_reducible first | exact HB.out | apply below_alloc | apply pw_below_drewN | apply below_drew1 | refine below_set ?_ GE106.out | refine below_set ?_ GE108.out | refine below_set ?_ GE110.out) | exact HB.out)⟩
      (try clear HO_109002)
      (try clear HO114)
      (try clear BK106)
      (try clear BK108)
      (try clear BK110)
      (try clear HB)
      generalize (w36.setCell ⟨gb108, 3, none⟩ (.slice Ao37 y112.length co37)) = w39 at n0_ n1_ n2_ n3_ n4_ n5_ ⊢
      have HO_109002 := n0_
      have HO114 := n1_
      have BK106 := n2_
      have BK108 := n3_
      have BK110 := n4_
      have HB := n5_
      clear n0_ n1_ n2_ n3_ n4_ n5_
      have n0_ := Aside0.mk (Kd.R_drew HO_109002.out)
      have n1_ := Aside0.mk (Kd.R_drew HO114.out)
      have n2_ := Aside0.mk (blk_drew BK106.out)
      have n3_ := Aside0.mk (blk_drew BK108.out)
      have n4_ := Aside0.mk (blk_drew BK110.out)
      have n5_ := Aside0.mk (below_drew1 HB.out)
      clear HO_109002
      clear HO114
      clear BK106
      clear BK108
      clear BK110
      clear HB
      have HO_109002 := n0_
      have HO114 := n1_
      have BK106 := n2_
      have BK108 := n3_
      have BK110 := n4_
      have HB := n5_
      clear n0_ n1_ n2_ n3_ n4_ n5_
      refine start_ (n := 12) (S := fun w' => w'.cell? ⟨gb108, 0, none⟩ = some (.int .i64 x109000_1) ∧ w'.cell? ⟨gb108, 1, none⟩ = some (.int .i64 x109001_1) ∧ w'.cell? ⟨gb108, 2, none⟩ = some (u109002) ∧ w'.cell? ⟨gb108, 3, none⟩ = some (.slice Ao37 y112.length co37) ∧ w'.cell? ⟨gb108, 4, none⟩ = some (.slice none 0 0) ∧ w'.cell? ⟨gb108, 5, none⟩ = some (.slice none 0 0) ∧ w'.cell? ⟨gb108, 6, none⟩ = some (.slice none 0 0) ∧ w'.cell? ⟨gb108, 7, none⟩ = some (.bool false) ∧ w'.cell? ⟨gb110, 0, none⟩ = some (.int .i64 ((rd_T31 l0 x14_1).f0)) ∧ w'.cell? ⟨gb110, 1, none⟩ = some (.int .i64 ((rd_T31 l0 x14_1).f1)) ∧ w'.cell? ⟨gb110, 2, none⟩ = some (.slice A109_2 ((rd_T31 l0 x14_1).f2).length c109_2) ∧ w'.cell? ⟨gb110, 3, none⟩ = some (.slice A109_3 ((rd_T31 l0 x14_1).f3).length c109_3) ∧ w'.cell? ⟨gb110, 4, none⟩ = some (.slice A109_4 ((rd_T31 l0 x14_1).f4).length c109_4) ∧ w'.cell? ⟨gb110, 5, none⟩ = some (.slice A109_5 ((rd_T31 l0 x14_1).f5).length c109_5) ∧ w'.cell? ⟨gb110, 6, none⟩ = some (.slice A109_6 ((rd_T31 l0 x14_1).f6).length c109_6) ∧ w'.cell? ⟨gb110, 7, none⟩ = some (.bool ((rd_T31 l0 x14_1).f7))) (ds := [11]) #[false,false,false,false,false,false,false,false,false,false,false,false] (by kernel_rfl) rfl rfl ⟨(blk_cell BK108.out 0).trans rfl, (blk_cell BK108.out 1).trans rfl, (blk_cell BK108.out 2).trans rfl, (blk_cell BK108.out 3).trans rfl, (blk_cell BK108.out 4).trans rfl, (blk_cell BK108.out 5).trans rfl, (blk_cell BK108.out 6).trans rfl, (blk_cell BK108.out 7).trans rfl, (blk_cell BK110.out 0).trans rfl, (blk_cell BK110.out 1).trans rfl, (blk_cell BK110.out 2).trans rfl, (blk_cell BK110.out 3).trans rfl, (blk_cell BK110.out 4).trans rfl, (blk_cell BK110.out 5).trans rfl, (blk_cell BK110.out 6).trans rfl, (blk_cell BK110.out 7).trans rfl⟩ (fun hHeld => ?_); refine with_tabW product_Lay.tab11 product_Lay.bits11 (fun HT_ HW_ => ?_)
      generalize w39.drew = w40 at HO_109002 HO114 BK106 BK108 BK110 HB hHeld ⊢
      refine pure_ (i := 0) (N := some 35) (v := ?_) (a' := ?_) #[true,false,false,false,false,false,false,false,false,false,false,false] rfl rfl (any_of HT_.out (by kernel_rfl)) (fun _ _ _ h => h) (Or.inl ⟨by rfl, ?_⟩) ?_ ?_
      rotate_left
      ·
       intro w'
       go_simp
       with_reducible rfl
      rotate_left
      ·
       simp only [Act.put, setIfInBounds_toArray, set_cons_zero, set_cons_succ, i64_w, i32_w]
       rfl
      refine pure_ (i := 2) (N := some 37) (v := ?_) (a' := ?_) #[true,false,true,false,false,false,false,false,false,false,false,false] rfl rfl (any_of HT_.out (by kernel_rfl)) (fun _ _ _ h => h) (Or.inl ⟨by rfl, ?_⟩) ?_ ?_
      rotate_left
      ·
       intro w'
       go_simp
       with_reducible rfl
      rotate_left
      ·
       simp only [Act.put, setIfInBounds_toArray, set_cons_zero, set_cons_succ, i64_w, i32_w]
       rfl
      refine pure_ (i := 3) (N := some 38) (v := ?_) (a' := ?_) #[true,false,true,true,false,false,false,false,false,false,false,false] rfl rfl (any_of HT_.out (by kernel_rfl)) (fun _ _ _ h => h) (Or.inl ⟨by rfl, ?_⟩) ?_ ?_
      rotate_left
      ·
       intro w'
       go_simp
       with_reducible rfl
      rotate_left
      ·
       simp only [Act.put, setIfInBounds_toArray, set_cons_zero, set_cons_succ, i64_w, i32_w]
       rfl
      refine pure_ (i := 7) (N := some 42) (v := ?_) (a' := ?_) #[true,false,true,true,false,false,false,true,false,false,false,false] rfl rfl (any_of HT_.out (by kernel_rfl)) (fun _ _ _ h => h) (Or.inl ⟨by rfl, ?_⟩) ?_ ?_
      rotate_left
      ·
       intro w'
       go_simp
       with_reducible rfl
      rotate_left
      ·
       simp only [Act.put, setIfInBounds_toArray, set_cons_zero, set_cons_succ, i64_w, i32_w]
       rfl
      refine take_ (i := 1) (N := some 36) (v := ?_) (a' := ?_) #[true,true,true,true,false,false,false,true,false,false,false,false] rfl rfl (take_ofW HT_.out HW_.out (by kernel_rfl)) (fun _ _ _ h => h) (Or.inl ⟨by rfl, ?_⟩) hHeld ?_ ?_
      rotate_left
      ·
       rintro w' ⟨s0, s1, s2, s3, s4, s5, s6, s7, s8, s9, s10, s11, s12, s13, s14, s15⟩
       go_simp
       with_reducible rfl
      rotate_left
      ·
       simp only [Act.put, setIfInBounds_toArray, set_cons_zero, set_cons_succ, i64_w, i32_w]
       rfl
      refine take_ (i := 4) (N := some 39) (v := ?_) (a' := ?_) #[true,true,true,true,true,false,false,true,false,false,false,false] rfl rfl (take_ofW HT_.out HW_.out (by kernel_rfl)) (fun _ _ _ h => h) (Or.inl ⟨by rfl, ?_⟩) hHeld ?_ ?_
      rotate_left
      ·
       rintro w' ⟨s0, s1, s2, s3, s4, s5, s6, s7, s8, s9, s10, s11, s12, s13, s14, s15⟩
       go_simp
       with_reducible rfl
      rotate_left
      ·
       simp only [Act.put, setIfInBounds_toArray, set_cons_zero, set_cons_succ, i64_w, i32_w]
       rfl
      refine pure_ (i := 5) (N := some 40) (v := ?_) (a' := ?_) #[true,true,true,true,true,true,false,true,false,false,false,false] rfl rfl (any_of HT_.out (by kernel_rfl)) (fun _ _ _ h => h) (Or.inl ⟨by rfl, ?_⟩) ?_ ?_
      rotate_left
      ·
       intro w'
       go_simp
       with_reducible rfl
      rotate_left
      ·
       simp only [Act.put, setIfInBounds_toArray, set_cons_zero, set_cons_succ, i64_w, i32_w]
       rfl
      refine take_ (i := 8) (N := some 43) (v := ?_) (a' := ?_) #[true,true,true,true,true,true,false,true,true,false,false,false] rfl rfl (take_ofW HT_.out HW_.out (by kernel_rfl)) (fun _ _ _ h => h) (Or.inl ⟨by rfl, ?_⟩) hHeld ?_ ?_
      rotate_left
      ·
       rintro w' ⟨s0, s1, s2, s3, s4, s5, s6, s7, s8, s9, s10, s11, s12, s13, s14, s15⟩
       go_simp
       with_reducible rfl
      rotate_left
      ·
       simp only [Act.put, setIfInBounds_toArray, set_cons_zero, set_cons_succ, i64_w, i32_w]
       rfl
      refine one_ (i := 6) (N := some 41) #[true,true,true,true,true,true,true,true,true,false,false,false] rfl rfl (one_of HT_.out (by kernel_rfl)) (by decide) (fun K hK => ?_)
      refine Kd.R_append_zeros_step (Kd.int .u8) (w0 := w) w.heap.size (by rfl) (.tmp 36) (.tmp 40) 27 3 5 (.int .u8 0) 1 rfl Try.underlying27 Try.underlying3 info5 rfl (by decide) (by omega) u109002 x109002_1 0 (ji25 : Int) (fun _ => True) rfl rfl rfl ?aF ?aO od_ ?aB ?aS ?aL ?_
      (case aB => exact (hb3_ HB.out GE106.out GE108.out GE110.out))
      (case aF => exact (fun _ _ => trivial))
      (case aO => exact (kR_ HO_109002.out))
      (case aS => exact (below_size (hb3_ HB.out GE106.out GE108.out GE110.out)))
      (case aL => have := LMc27.out; omega)
      intro v116 w41 ho hb hg hat
      rw [← Ny115.out] at ho
      have n0_ := Aside0.mk (blk_grown (g := gb106) (o := .cells #[.int .i64 x107000_1, .int .i64 x107001_1, .slice none 0 0, .slice none 0 0, .slice none 0 0, .slice none 0 0, .slice none 0 0, .bool x107007_1] 31 (0, 0)) (bk_ BK106.out) hg (Kd.R_ne HO_109002.out BK106.out (by decide)))
      have n1_ := Aside0.mk (blk_grown (g := gb108) (o := .cells #[.int .i64 x109000_1, .int .i64 x109001_1, u109002, .slice Ao37 y112.length co37, .slice none 0 0, .slice none 0 0, .slice none 0 0, .bool false] 31 (0, 0)) (bk_ BK108.out) hg (Kd.R_ne HO_109002.out BK108.out (by decide)))
      have n2_ := Aside0.mk (blk_grown (g := gb110) (o := .cells #[.int .i64 ((rd_T31 l0 x14_1).f0), .int .i64 ((rd_T31 l0 x14_1).f1), .slice A109_2 ((rd_T31 l0 x14_1).f2).length c109_2, .slice A109_3 ((rd_T31 l0 x14_1).f3).length c109_3, .slice A109_4 ((rd_T31 l0 x14_1).f4).length c109_4, .slice A109_5 ((rd_T31 l0 x14_1).f5).length c109_5, .slice A109_6 ((rd_T31 l0 x14_1).f6).length c109_6, .bool ((rd_T31 l0 x14_1).f7)] 31 (0, 0)) (bk_ BK110.out) hg (Kd.R_ne HO_109002.out BK110.out (by decide)))
      have n3_ := Aside0.mk (Kd.R_over' (kR_ HO114.out) (Kd.R_typed (kR_ HO_109002.out)) (by decide) hg)
      have n4_ := Aside0.mk (hb)
      have n5_ := Aside0.mk (ho)
      clear BK106
      clear BK108
      clear BK110
      clear HO114
      clear HB
      clear HO_109002
      have BK106 := n0_
      have BK108 := n1_
      have BK110 := n2_
      have HO114 := n3_
      have HB := n4_
      have HO117 := n5_
      clear n0_ n1_ n2_ n3_ n4_ n5_
      clear ho hb hg hat
      refine hK.out _ _ ⟨(blk_cell BK108.out 0).trans rfl, (blk_cell BK108.out 1).trans rfl, (blk_cell BK108.out 2).trans rfl, (blk_cell BK108.out 3).trans rfl, (blk_cell BK108.out 4).trans rfl, (blk_cell BK108.out 5).trans rfl, (blk_cell BK108.out 6).trans rfl, (blk_cell BK108.out 7).trans rfl, (blk_cell BK110.out 0).trans rfl, (blk_cell BK110.out 1).trans rfl, (blk_cell BK110.out 2).trans rfl, (blk_cell BK110.out 3).trans rfl, (blk_cell BK110.out 4).trans rfl, (blk_cell BK110.out 5).trans rfl, (blk_cell BK110.out 6).trans rfl, (blk_cell BK110.out 7).trans rfl⟩ (fun hHeld => ?_)
      clear hK K
      refine norm_ (a' := ?_) ?_ ?_
      rotate_left
      ·
       show Act.put _ (some 41) _ = _
       simp only [Act.put, setIfInBounds_toArray, set_cons_zero, set_cons_succ, i64_w, i32_w]
       rfl
      refine one_ (i := 9) (N := some 44) #[true,true,true,true,true,true,true,true,true,true,false,false] rfl rfl (one_of HT_.out (by kernel_rfl)) (by decide) (fun K hK => ?_)
      refine Kd.R_append_rows_step (Kd.int .u8) (w0 := w) w.heap.size (by rfl) (.tmp 41) (.tmp 43) 27 5 (.int .u8 0) 1 rfl Try.underlying27 info5 rfl (by decide) (by omega) v116 y115 ((rd_T31 l0 x14_1).f2) _ _ _ (fun _ => True) (fun _ => False) rfl rfl ?aO ?aR (fun _ _ h => h) (fun _ h => h.elim) ?aF ?aB ?aS ?aL ?_
      (case aR => repeat (first | exact (Kd.C_below HR109_2.out HB.out) | (with_reducible refine Kd.C_alloc ?_ _) | (with_reducible refine Kd.C_drewN ?_ _) | (with_reducible refine Kd.C_drew ?_)))
      (case aB => exact (hb3_ HB.out GE106.out GE108.out GE110.out))
      (case aF => exact (fun _ _ => trivial))
      (case aO => exact (kR_ HO117.out))
      (case aS => exact (below_size (hb3_ HB.out GE106.out GE108.out GE110.out)))
      (case aL => have := LMc28.out; omega)
      intro v119 w42 ho hb hg hat
      rw [← Ny118.out] at ho
      have n0_ := Aside0.mk (blk_grown (g := gb106) (o := .cells #[.int .i64 x107000_1, .int .i64 x107001_1, .slice none 0 0, .slice none 0 0, .slice none 0 0, .slice none 0 0, .slice none 0 0, .bool x107007_1] 31 (0, 0)) (bk_ BK106.out) hg (Kd.R_ne HO117.out BK106.out (by decide)))
      have n1_ := Aside0.mk (blk_grown (g := gb108) (o := .cells #[.int .i64 x109000_1, .int .i64 x109001_1, u109002, .slice Ao37 y112.length co37, .slice none 0 0, .slice none 0 0, .slice none 0 0, .bool false] 31 (0, 0)) (bk_ BK108.out) hg (Kd.R_ne HO117.out BK108.out (by decide)))
      have n2_ := Aside0.mk (blk_grown (g := gb110) (o := .cells #[.int .i64 ((rd_T31 l0 x14_1).f0), .int .i64 ((rd_T31 l0 x14_1).f1), .slice A109_2 ((rd_T31 l0 x14_1).f2).length c109_2, .slice A109_3 ((rd_T31 l0 x14_1).f3).length c109_3, .slice A109_4 ((rd_T31 l0 x14_1).f4).length c109_4, .slice A109_5 ((rd_T31 l0 x14_1).f5).length c109_5, .slice A109_6 ((rd_T31 l0 x14_1).f6).length c109_6, .bool ((rd_T31 l0 x14_1).f7)] 31 (0, 0)) (bk_ BK110.out) hg (Kd.R_ne HO117.out BK110.out (by decide)))
      have n3_ := Aside0.mk (Kd.R_over' (kR_ HO114.out) (Kd.R_typed (kR_ HO117.out)) (by decide) hg)
      have n4_ := Aside0.mk (hb)
      have n5_ := Aside0.mk (ho)
      clear BK106
      clear BK108
      clear BK110
      clear HO114
      clear HB
      clear HO117
      have BK106 := n0_
      have BK108 := n1_
      have BK110 := n2_
      have HO114 := n3_
      have HB := n4_
      have HO120 := n5_
      clear n0_ n1_ n2_ n3_ n4_ n5_
      clear ho hb hg hat
      obtain ⟨Ao43, co43, eo43⟩ := Kd.R_slice HO120.out
      (first | subst eo43 | (injection eo43 with f1_ f2_ f3_; have f4_ := f1_.symm; have f5_ := f3_.symm; clear f1_ f2_ f3_; subst f4_; subst f5_))
      refine hK.out _ _ ⟨(blk_cell BK108.out 0).trans rfl, (blk_cell BK108.out 1).trans rfl, (blk_cell BK108.out 2).trans rfl, (blk_cell BK108.out 3).trans rfl, (blk_cell BK108.out 4).trans rfl, (blk_cell BK108.out 5).trans rfl, (blk_cell BK108.out 6).trans rfl, (blk_cell BK108.out 7).trans rfl, (blk_cell BK110.out 0).trans rfl, (blk_cell BK110.out 1).trans rfl, (blk_cell BK110.out 2).trans rfl, (blk_cell BK110.out 3).trans rfl, (blk_cell BK110.out 4).trans rfl, (blk_cell BK110.out 5).trans rfl, (blk_cell BK110.out 6).trans rfl, (blk_cell BK110.out 7).trans rfl⟩ (fun hHeld => ?_)
      clear hK K
      refine norm_ (a' := ?_) ?_ ?_
      rotate_left
      ·
       show Act.put _ (some 44) _ = _
       simp only [Act.put, setIfInBounds_toArray, set_cons_zero, set_cons_succ, i64_w, i32_w]
       rfl
      refine pure_ (i := 10) (N := some 45) (v := ?_) (a' := ?_) #[true,true,true,true,true,true,true,true,true,true,true,false] rfl rfl (any_of HT_.out (by kernel_rfl)) (fun _ _ _ h => h) (Or.inl ⟨by rfl, ?_⟩) ?_ ?_
      rotate_left
      ·
       intro w'
       go_simp
       with_reducible rfl
      rotate_left
      ·
       simp only [Act.put, setIfInBounds_toArray, set_cons_zero, set_cons_succ, i64_w, i32_w]
       rfl
      refine last_ (i := 11) (N := none) #[true,true,true,true,true,true,true,true,true,true,true,true] rfl rfl (one_of HT_.out (by kernel_rfl)) (by decide) (fun K hK => ?_)
      have hs44 : w42.cell? ⟨gb108, 2, none⟩ = some (u109002) := (blk_cell BK108.out 2).trans rfl
      have hfs44 := blk_frozen BK108.out 2
      have hns44_0 := NB106_108.out
      have hns44_2 := NB110_108.out
      have hms44_0 := NB108_106.out
      have hms44_2 := NB108_110.out
      refine skip_ (w1 := ?_) (by rfl) rfl ?_ ?_
      rotate_left
      ·
       go_simp
       rfl
      refine hK.out _ _ ?_
      clear hK K
      refine done_ (done_of HT_.out (by kernel_rfl)) ?_
      try go_wp2
      have n0_ : Aside0 (Kd.R (Kd.int .i64) 3 (w42.setCell ⟨gb108, 2, none⟩ (.slice Ao43 y118.length co43)) w.heap.size (fun _ => True) (.slice Ao37 y112.length co37) y112) := ⟨by (with_reducible repeat (first | apply Kd.R_alloc | apply Kd.R_drewN | apply Kd.R_drew)); exact Kd.R_mono (Kd.R_far (p := ⟨gb108, 2, none⟩) (Kd.R_types HO114.out BK108.out (by decide)) (fun _ hk => hk.2) (.slice Ao43 y118.length co43)) (fun _ hk => trivial)⟩
      have n1_ : Aside0 (Kd.R (Kd.int .u8) 5 (w42.setCell ⟨gb108, 2, none⟩ (.slice Ao43 y118.length co43)) w.heap.size (fun _ => True) (.slice Ao43 y118.length co43) y118) := ⟨by (with_reducible repeat (first | apply Kd.R_alloc | apply Kd.R_drewN | apply Kd.R_drew)); exact Kd.R_mono (Kd.R_far (p := ⟨gb108, 2, none⟩) (Kd.R_types HO120.out BK108.out (by decide)) (fun _ hk => hk.2) (.slice Ao43 y118.length co43)) (fun _ hk => trivial)⟩
      have n2_ : Aside0 ((w42.setCell ⟨gb108, 2, none⟩ (.slice Ao43 y118.length co43)).heap[gb106]? = some (.cells #[.int .i64 x107000_1, .int .i64 x107001_1, .slice none 0 0, .slice none 0 0, .slice none 0 0, .slice none 0 0, .slice none 0 0, .bool x107007_1] 31 (0, 0))) := ⟨by (with_reducible repeat (first | refine blk_drewN ?_ _ | refine blk_drew ?_ | refine blk_alloc ?_ _)); refine blk_far ?_ NB106_108.out _; (with_reducible repeat (first | refine blk_drewN ?_ _ | refine blk_drew ?_ | refine blk_alloc ?_ _)); exact BK106.out⟩
      have n3_ : Aside0 ((w42.setCell ⟨gb108, 2, none⟩ (.slice Ao43 y118.length co43)).heap[gb108]? = some (.cells #[.int .i64 x109000_1, .int .i64 x109001_1, .slice Ao43 y118.length co43, .slice Ao37 y112.length co37, .slice none 0 0, .slice none 0 0, .slice none 0 0, .bool false] 31 (0, 0))) := ⟨by (with_reducible repeat (first | refine blk_drewN ?_ _ | refine blk_drew ?_ | refine blk_alloc ?_ _)); refine blk_put (cs := #[.int .i64 x109000_1, .int .i64 x109001_1, u109002, .slice Ao37 y112.length co37, .slice none 0 0, .slice none 0 0, .slice none 0 0, .bool false]) ?_ 2 _ rfl; (with_reducible repeat (first | refine blk_drewN ?_ _ | refine blk_drew ?_ | refine blk_alloc ?_ _)); exact BK108.out⟩
      have n4_ : Aside0 ((w42.setCell ⟨gb108, 2, none⟩ (.slice Ao43 y118.length co43)).heap[gb110]? = some (.cells #[.int .i64 ((rd_T31 l0 x14_1).f0), .int .i64 ((rd_T31 l0 x14_1).f1), .slice A109_2 ((rd_T31 l0 x14_1).f2).length c109_2, .slice A109_3 ((rd_T31 l0 x14_1).f3).length c109_3, .slice A109_4 ((rd_T31 l0 x14_1).f4).length c109_4, .slice A109_5 ((rd_T31 l0 x14_1).f5).length c109_5, .slice A109_6 ((rd_T31 l0 x14_1).f6).length c109_6, .bool ((rd_T31 l0 x14_1).f7)] 31 (0, 0))) := ⟨by (with_reducible repeat (first | refine blk_drewN ?_ _ | refine blk_drew ?_ | refine blk_alloc ?_ _)); refine blk_far ?_ NB110_108.out _; (with_reducible repeat (first | refine blk_drewN ?_ _ | refine blk_drew ?_ | refine blk_alloc ?_ _)); exact BK110.out⟩
      have n5_ : Aside0 (Below w.heap.size w (w42.setCell ⟨gb108, 2, none⟩ (.slice Ao43 y118.length co43))) := ⟨by repeat (first | (with_reducible first | exact HB.out | apply below_alloc | apply pw_below_drewN | apply below_drew1 | refine below_set ?_ GE106.out | refine below_set ?_ GE108.out | refine below_set ?_ GE110.out) | exact HB.out)⟩
      (try clear HO114)
      (try clear HO120)
      (try clear BK106)
      (try clear BK108)
      (try clear BK110)
      (try clear HB)
      generalize (w42.setCell ⟨gb108, 2, none⟩ (.slice Ao43 y118.length co43)) = w45 at n0_ n1_ n2_ n3_ n4_ n5_ ⊢
      have HO114 := n0_
      have HO120 := n1_
      have BK106 := n2_
      have BK108 := n3_
      have BK110 := n4_
      have HB := n5_
      clear n0_ n1_ n2_ n3_ n4_ n5_
      have n0_ := Aside0.mk (Kd.R_drew HO114.out)
      have n1_ := Aside0.mk (Kd.R_drew HO120.out)
      have n2_ := Aside0.mk (blk_drew BK106.out)
      have n3_ := Aside0.mk (blk_drew BK108.out)
      have n4_ := Aside0.mk (blk_drew BK110.out)
      have n5_ := Aside0.mk (below_drew1 HB.out)
      clear HO114
      clear HO120
      clear BK106
      clear BK108
      clear BK110
      clear HB
      have HO114 := n0_
      have HO120 := n1_
      have BK106 := n2_
      have BK108 := n3_
      have BK110 := n4_
      have HB := n5_
      clear n0_ n1_ n2_ n3_ n4_ n5_
      refine start_ (n := 13) (S := fun w' => w'.cell? ⟨gb110, 0, none⟩ = some (.int .i64 ((rd_T31 l0 x14_1).f0)) ∧ w'.cell? ⟨gb110, 1, none⟩ = some (.int .i64 ((rd_T31 l0 x14_1).f1)) ∧ w'.cell? ⟨gb108, 1, none⟩ = some (.int .i64 x109001_1)) (ds := [12]) #[false,false,false,false,false,false,false,false,false,false,false,false,false] (by kernel_rfl) rfl rfl ⟨(blk_cell BK110.out 0).trans rfl, (blk_cell BK110.out 1).trans rfl, (blk_cell BK108.out 1).trans rfl⟩ (fun hHeld => ?_); refine with_tabW product_Lay.tab12 product_Lay.bits12 (fun HT_ HW_ => ?_)
      generalize w45.drew = w46 at HO114 HO120 BK106 BK108 BK110 HB hHeld ⊢
      refine pure_ (i := 0) (N := some 46) (v := ?_) (a' := ?_) #[true,false,false,false,false,false,false,false,false,false,false,false,false] rfl rfl (any_of HT_.out (by kernel_rfl)) (fun _ _ _ h => h) (Or.inl ⟨by rfl, ?_⟩) ?_ ?_
      rotate_left
      ·
       intro w'
       go_simp
       with_reducible rfl
      rotate_left
      ·
       simp only [Act.put, setIfInBounds_toArray, set_cons_zero, set_cons_succ, i64_w, i32_w]
       rfl
      refine pure_ (i := 1) (N := some 47) (v := ?_) (a' := ?_) #[true,true,false,false,false,false,false,false,false,false,false,false,false] rfl rfl (any_of HT_.out (by kernel_rfl)) (fun _ _ _ h => h) (Or.inl ⟨by rfl, ?_⟩) ?_ ?_
      rotate_left
      ·
       intro w'
       go_simp
       with_reducible rfl
      rotate_left
      ·
       simp only [Act.put, setIfInBounds_toArray, set_cons_zero, set_cons_succ, i64_w, i32_w]
       rfl
      refine pure_ (i := 4) (N := some 50) (v := ?_) (a' := ?_) #[true,true,false,false,true,false,false,false,false,false,false,false,false] rfl rfl (any_of HT_.out (by kernel_rfl)) (fun _ _ _ h => h) (Or.inl ⟨by rfl, ?_⟩) ?_ ?_
      rotate_left
      ·
       intro w'
       go_simp
       with_reducible rfl
      rotate_left
      ·
       simp only [Act.put, setIfInBounds_toArray, set_cons_zero, set_cons_succ, i64_w, i32_w]
       rfl
      refine pure_ (i := 6) (N := some 52) (v := ?_) (a' := ?_) #[true,true,false,false,true,false,true,false,false,false,false,false,false] rfl rfl (any_of HT_.out (by kernel_rfl)) (fun _ _ _ h => h) (Or.inl ⟨by rfl, ?_⟩) ?_ ?_
      rotate_left
      ·
       intro w'
       go_simp
       with_reducible rfl
      rotate_left
      ·
       simp only [Act.put, setIfInBounds_toArray, set_cons_zero, set_cons_succ, i64_w, i32_w]
       rfl
      refine take_ (i := 2) (N := some 48) (v := ?_) (a' := ?_) #[true,true,true,false,true,false,true,false,false,false,false,false,false] rfl rfl (take_ofW HT_.out HW_.out (by kernel_rfl)) (fun _ _ _ h => h) (Or.inl ⟨by rfl, ?_⟩) hHeld ?_ ?_
      rotate_left
      ·
       rintro w' ⟨s0, s1, s2⟩
       go_simp
       with_reducible rfl
      rotate_left
      ·
       simp only [Act.put, setIfInBounds_toArray, set_cons_zero, set_cons_succ, i64_w, i32_w]
       rfl
      refine pure_ (i := 3) (N := some 49) (v := ?_) (a' := ?_) #[true,true,true,true,true,false,true,false,false,false,false,false,false] rfl rfl (any_of HT_.out (by kernel_rfl)) (fun _ _ _ h => h) (Or.inl ⟨by rfl, ?_⟩) ?_ ?_
      rotate_left
      ·
       intro w'
       go_simp
       with_reducible rfl
      rotate_left
      ·
       simp only [Act.put, setIfInBounds_toArray, set_cons_zero, set_cons_succ, i64_w, i32_w]
       rfl
      refine take_ (i := 5) (N := some 51) (v := ?_) (a' := ?_) #[true,true,true,true,true,true,true,false,false,false,false,false,false] rfl rfl (take_ofW HT_.out HW_.out (by kernel_rfl)) (fun _ _ _ h => h) (Or.inl ⟨by rfl, ?_⟩) hHeld ?_ ?_
      rotate_left
      ·
       rintro w' ⟨s0, s1, s2⟩
       go_simp
       with_reducible rfl
      rotate_left
      ·
       simp only [Act.put, setIfInBounds_toArray, set_cons_zero, set_cons_succ, i64_w, i32_w]
       rfl
      refine pure_ (i := 9) (N := some 55) (v := ?_) (a' := ?_) #[true,true,true,true,true,true,true,false,false,true,false,false,false] rfl rfl (any_of HT_.out (by kernel_rfl)) (fun _ _ _ h => h) (Or.inl ⟨by rfl, ?_⟩) ?_ ?_
      rotate_left
      ·
       intro w'
       go_simp
       with_reducible rfl
      rotate_left
      ·
       simp only [Act.put, setIfInBounds_toArray, set_cons_zero, set_cons_succ, i64_w, i32_w]
       rfl
      refine take_ (i := 7) (N := some 53) (v := ?_) (a' := ?_) #[true,true,true,true,true,true,true,true,false,true,false,false,false] rfl rfl (take_ofW HT_.out HW_.out (by kernel_rfl)) (fun _ _ _ h => h) (Or.inl ⟨by rfl, ?_⟩) hHeld ?_ ?_
      rotate_left
      ·
       rintro w' ⟨s0, s1, s2⟩
       go_simp
       with_reducible rfl
      rotate_left
      ·
       simp only [Act.put, setIfInBounds_toArray, set_cons_zero, set_cons_succ, i64_w, i32_w]
       rfl
      refine pure_ (i := 8) (N := some 54) (v := ?_) (a' := ?_) #[true,true,true,true,true,true,true,true,true,true,false,false,false] rfl rfl (any_of HT_.out (by kernel_rfl)) (fun _ _ _ h => h) (Or.inl ⟨by rfl, ?_⟩) ?_ ?_
      rotate_left
      ·
       intro w'
       go_simp
       with_reducible rfl
      rotate_left
      ·
       simp only [Act.put, setIfInBounds_toArray, set_cons_zero, set_cons_succ, i64_w, i32_w]
       rfl
      refine one_ (i := 10) (N := none) #[true,true,true,true,true,true,true,true,true,true,true,false,false] rfl rfl (one_of HT_.out (by kernel_rfl)) (by decide) (fun K hK => ?_)
      have hs47 : w46.cell? ⟨gb108, 0, none⟩ = some (.int .i64 x109000_1) := (blk_cell BK108.out 0).trans rfl
      have hfs47 := blk_frozen BK108.out 0
      have hns47_0 := NB106_108.out
      have hns47_2 := NB110_108.out
      have hms47_0 := NB108_106.out
      have hms47_2 := NB108_110.out
      refine skip_ (w1 := ?_) (by rfl) rfl ?_ ?_
      rotate_left
      ·
       go_simp
       rfl
      refine hK.out _ _ ⟨((cell_far (p := ⟨gb108, _, none⟩) NB110_108.out _).trans (hHeld.1)), ((cell_far (p := ⟨gb108, _, none⟩) NB110_108.out _).trans (hHeld.2.1)), ((World.cell?_setCell_other _ ⟨gb108, 0, none⟩ ⟨gb108, 1, none⟩ _ (by simp)).trans (hHeld.2.2))⟩ (fun hHeld => ?_)
      clear hK K
      refine pure_ (i := 11) (N := some 56) (v := ?_) (a' := ?_) #[true,true,true,true,true,true,true,true,true,true,true,true,false] rfl rfl (any_of HT_.out (by kernel_rfl)) (fun _ _ _ h => h) (Or.inl ⟨by rfl, ?_⟩) ?_ ?_
      rotate_left
      ·
       intro w'
       go_simp
       with_reducible rfl
      rotate_left
      ·
       simp only [Act.put, setIfInBounds_toArray, set_cons_zero, set_cons_succ, i64_w, i32_w]
       rfl
      refine last_ (i := 12) (N := none) #[true,true,true,true,true,true,true,true,true,true,true,true,true] rfl rfl (one_of HT_.out (by kernel_rfl)) (by decide) (fun K hK => ?_)
      have hs48 : w46.cell? ⟨gb108, 1, none⟩ = some (.int .i64 x109001_1) := (blk_cell BK108.out 1).trans rfl
      have hfs48 := blk_frozen BK108.out 1
      have hns48_0 := NB106_108.out
      have hns48_2 := NB110_108.out
      have hms48_0 := NB108_106.out
      have hms48_2 := NB108_110.out
      refine skip_ (w1 := ?_) (by rfl) rfl ?_ ?_
      rotate_left
      ·
       go_simp
       rfl
      refine hK.out _ _ ?_
      clear hK K
      refine done_ (done_of HT_.out (by kernel_rfl)) ?_
      try go_wp2
      go_roundg k1
      case measure => have := HK1.out; omega
      case rel => exact ⟨(wrap64 (x14_1 + 1)), (x107000_1), (x107001_1), (x107007_1), (wrap64 (t111 + ((rd_T31 l0 x14_1).f0))), (ji29), (y118), (y112), (.slice Ao43 y118.length co43), (.slice Ao37 y112.length co37), (by first | rfl | (simp; done) | (simp [*]; done)), H', ⟨by have := HK1.out; omega⟩, ⟨by (with_reducible repeat (first | apply Kd.R_alloc | apply Kd.R_drewN | apply Kd.R_drew)); exact Kd.R_mono (Kd.R_far (p := ⟨gb108, 1, none⟩) (Kd.R_far (p := ⟨gb108, 0, none⟩) (Kd.R_types HO120.out BK108.out (by decide)) (fun _ hk => hk.2) (.int .i64 (wrap64 (t111 + ((rd_T31 l0 x14_1).f0))))) (fun _ hk => hk.2) (.int .i64 ji29)) (fun _ hk => trivial)⟩, ⟨by (with_reducible repeat (first | apply Kd.R_alloc | apply Kd.R_drewN | apply Kd.R_drew)); exact Kd.R_mono (Kd.R_far (p := ⟨gb108, 1, none⟩) (Kd.R_far (p := ⟨gb108, 0, none⟩) (Kd.R_types HO114.out BK108.out (by decide)) (fun _ hk => hk.2) (.int .i64 (wrap64 (t111 + ((rd_T31 l0 x14_1).f0))))) (fun _ hk => hk.2) (.int .i64 ji29)) (fun _ hk => trivial)⟩, ⟨by (with_reducible repeat (first | refine blk_drewN ?_ _ | refine blk_drew ?_ | refine blk_alloc ?_ _)); refine blk_far ?_ NB106_108.out _; (with_reducible repeat (first | refine blk_drewN ?_ _ | refine blk_drew ?_ | refine blk_alloc ?_ _)); refine blk_far ?_ NB106_108.out _; (with_reducible repeat (first | refine blk_drewN ?_ _ | refine blk_drew ?_ | refine blk_alloc ?_ _)); exact BK106.out⟩, ⟨by (with_reducible repeat (first | refine blk_drewN ?_ _ | refine blk_drew ?_ | refine blk_alloc ?_ _)); refine blk_put (cs := #[.int .i64 (wrap64 (t111 + ((rd_T31 l0 x14_1).f0))), .int .i64 x109001_1, .slice Ao43 y118.length co43, .slice Ao37 y112.length co37, .slice none 0 0, .slice none 0 0, .slice none 0 0, .bool false]) ?_ 1 _ rfl; (with_reducible repeat (first | refine blk_drewN ?_ _ | refine blk_drew ?_ | refine blk_alloc ?_ _)); refine blk_put (cs := #[.int .i64 x109000_1, .int .i64 x109001_1, .slice Ao43 y118.length co43, .slice Ao37 y112.length co37, .slice none 0 0, .slice none 0 0, .slice none 0 0, .bool false]) ?_ 0 _ rfl; (with_reducible repeat (first | refine blk_drewN ?_ _ | refine blk_drew ?_ | refine blk_alloc ?_ _)); exact BK108.out⟩, ⟨by repeat (first | (with_reducible first | exact HB.out | apply below_alloc | apply pw_below_drewN | apply below_drew1 | refine below_set ?_ GE106.out | refine below_set ?_ GE108.out | refine below_set ?_ GE110.out) | exact HB.out)⟩⟩
    ·
     rw [if_neg c12] at H
     have c12b0 : decide (x14_1 < (l0.length : Int)) = false := decide_eq_false c12
     clear c12
     simp only [Option.some.injEq, Prod.mk.injEq] at H
     obtain ⟨rfl, rfl, rfl, rfl, rfl, rfl, rfl, rfl, rfl⟩ := H
     have hnb49 := NB108_106.out
     have hnc49 := NB106_108.out
     have hcz50_0 : wr.cell? ⟨gb108, 0, none⟩ = some (.int .i64 x109000_1) := (blk_cell BK108.out 0).trans rfl
     have hcz50_1 : wr.cell? ⟨gb108, 1, none⟩ = some (.int .i64 x109001_1) := (blk_cell BK108.out 1).trans rfl
     have hcz50_2 : wr.cell? ⟨gb108, 2, none⟩ = some (u109002) := (blk_cell BK108.out 2).trans rfl
     have hcz50_3 : wr.cell? ⟨gb108, 3, none⟩ = some (u109003) := (blk_cell BK108.out 3).trans rfl
     have hcz50_4 : wr.cell? ⟨gb108, 4, none⟩ = some (.slice none 0 0) := (blk_cell BK108.out 4).trans rfl
     have hcz50_5 : wr.cell? ⟨gb108, 5, none⟩ = some (.slice none 0 0) := (blk_cell BK108.out 5).trans rfl
     have hcz50_6 : wr.cell? ⟨gb108, 6, none⟩ = some (.slice none 0 0) := (blk_cell BK108.out 6).trans rfl
     have hcz50_7 : wr.cell? ⟨gb108, 7, none⟩ = some (.bool false) := (blk_cell BK108.out 7).trans rfl
     have hfz50_0 := blk_frozen BK108.out 0
     have hfz50_1 := blk_frozen BK108.out 1
     have hfz50_2 := blk_frozen BK108.out 2
     have hfz50_3 := blk_frozen BK108.out 3
     have hfz50_4 := blk_frozen BK108.out 4
     have hfz50_5 := blk_frozen BK108.out 5
     have hfz50_6 := blk_frozen BK108.out 6
     have hfz50_7 := blk_frozen BK108.out 7
     have hcz51_0 : wr.cell? ⟨gb106, 0, none⟩ = some (.int .i64 x107000_1) := (blk_cell BK106.out 0).trans rfl
     have hcz51_1 : wr.cell? ⟨gb106, 1, none⟩ = some (.int .i64 x107001_1) := (blk_cell BK106.out 1).trans rfl
     have hcz51_2 : wr.cell? ⟨gb106, 2, none⟩ = some (.slice none 0 0) := (blk_cell BK106.out 2).trans rfl
     have hcz51_3 : wr.cell? ⟨gb106, 3, none⟩ = some (.slice none 0 0) := (blk_cell BK106.out 3).trans rfl
     have hcz51_4 : wr.cell? ⟨gb106, 4, none⟩ = some (.slice none 0 0) := (blk_cell BK106.out 4).trans rfl
     have hcz51_5 : wr.cell? ⟨gb106, 5, none⟩ = some (.slice none 0 0) := (blk_cell BK106.out 5).trans rfl
     have hcz51_6 : wr.cell? ⟨gb106, 6, none⟩ = some (.slice none 0 0) := (blk_cell BK106.out 6).trans rfl
     have hcz51_7 : wr.cell? ⟨gb106, 7, none⟩ = some (.bool x107007_1) := (blk_cell BK106.out 7).trans rfl
     have hfz51_0 := blk_frozen BK106.out 0
     have hfz51_1 := blk_frozen BK106.out 1
     have hfz51_2 := blk_frozen BK106.out 2
     have hfz51_3 := blk_frozen BK106.out 3
     have hfz51_4 := blk_frozen BK106.out 4
     have hfz51_5 := blk_frozen BK106.out 5
     have hfz51_6 := blk_frozen BK106.out 6
     have hfz51_7 := blk_frozen BK106.out 7
     obtain ⟨Ao52, co52, eo52⟩ := Kd.R_slice HO_109002.out
     subst eo52
     obtain ⟨Ao53, co53, eo53⟩ := Kd.R_slice HO_109003.out
     subst eo53
     go_wp2
     refine bodyPost_ret (results_ct rfl _ _ gb106 31 #[.int .i64 x109000_1, .int .i64 x109001_1, .slice Ao52 x109002_1.length co52, .slice Ao53 x109003_1.length co53, .slice none 0 0, .slice none 0 0, .slice none 0 0, .bool false] (0, 0) _ rfl (by (with_reducible repeat (first | refine blk_drewN ?_ _ | refine blk_drew ?_ | refine blk_alloc ?_ _)); refine blk_put (cs := #[.int .i64 x109000_1, .int .i64 x109001_1, .slice Ao52 x109002_1.length co52, .slice Ao53 x109003_1.length co53, .slice none 0 0, .slice none 0 0, .slice none 0 0, .bool x107007_1]) ?_ 7 _ rfl; (with_reducible repeat (first | refine blk_drewN ?_ _ | refine blk_drew ?_ | refine blk_alloc ?_ _)); refine blk_put (cs := #[.int .i64 x109000_1, .int .i64 x109001_1, .slice Ao52 x109002_1.length co52, .slice Ao53 x109003_1.length co53, .slice none 0 0, .slice none 0 0, .slice none 0 0, .bool x107007_1]) ?_ 6 _ rfl; (with_reducible repeat (first | refine blk_drewN ?_ _ | refine blk_drew ?_ | refine blk_alloc ?_ _)); refine blk_put (cs := #[.int .i64 x109000_1, .int .i64 x109001_1, .slice Ao52 x109002_1.length co52, .slice Ao53 x109003_1.length co53, .slice none 0 0, .slice none 0 0, .slice none 0 0, .bool x107007_1]) ?_ 5 _ rfl; (with_reducible repeat (first | refine blk_drewN ?_ _ | refine blk_drew ?_ | refine blk_alloc ?_ _)); refine blk_put (cs := #[.int .i64 x109000_1, .int .i64 x109001_1, .slice Ao52 x109002_1.length co52, .slice Ao53 x109003_1.length co53, .slice none 0 0, .slice none 0 0, .slice none 0 0, .bool x107007_1]) ?_ 4 _ rfl; (with_reducible repeat (first | refine blk_drewN ?_ _ | refine blk_drew ?_ | refine blk_alloc ?_ _)); refine blk_put (cs := #[.int .i64 x109000_1, .int .i64 x109001_1, .slice Ao52 x109002_1.length co52, .slice none 0 0, .slice none 0 0, .slice none 0 0, .slice none 0 0, .bool x107007_1]) ?_ 3 _ rfl; (with_reducible repeat (first | refine blk_drewN ?_ _ | refine blk_drew ?_ | refine blk_alloc ?_ _)); refine blk_put (cs := #[.int .i64 x109000_1, .int .i64 x109001_1, .slice none 0 0, .slice none 0 0, .slice none 0 0, .slice none 0 0, .slice none 0 0, .bool x107007_1]) ?_ 2 _ rfl; (with_reducible repeat (first | refine blk_drewN ?_ _ | refine blk_drew ?_ | refine blk_alloc ?_ _)); refine blk_put (cs := #[.int .i64 x109000_1, .int .i64 x107001_1, .slice none 0 0, .slice none 0 0, .slice none 0 0, .slice none 0 0, .slice none 0 0, .bool x107007_1]) ?_ 1 _ rfl; (with_reducible repeat (first | refine blk_drewN ?_ _ | refine blk_drew ?_ | refine blk_alloc ?_ _)); refine blk_put (cs := #[.int .i64 x107000_1, .int .i64 x107001_1, .slice none 0 0, .slice none 0 0, .slice none 0 0, .slice none 0 0, .slice none 0 0, .bool x107007_1]) ?_ 0 _ rfl; (with_reducible repeat (first | refine blk_drewN ?_ _ | refine blk_drew ?_ | refine blk_alloc ?_ _)); exact BK106.out) Try.underlying31 rfl (by kernel_rfl)) rfl ?_
     exact ⟨_, _, _, _, _, by first | rfl | (simp [errW_none, errW_some] <;> rfl) | (simp [*, errW_none, errW_some] <;> rfl), by (with_reducible repeat (first | apply Kd.R_alloc | apply Kd.R_drewN | apply Kd.R_drew)); exact Kd.R_mono (Kd.R_far (p := ⟨gb106, 7, none⟩) (Kd.R_far (p := ⟨gb106, 6, none⟩) (Kd.R_far (p := ⟨gb106, 5, none⟩) (Kd.R_far (p := ⟨gb106, 4, none⟩) (Kd.R_far (p := ⟨gb106, 3, none⟩) (Kd.R_far (p := ⟨gb106, 2, none⟩) (Kd.R_far (p := ⟨gb106, 1, none⟩) (Kd.R_far (p := ⟨gb106, 0, none⟩) (Kd.R_types HO_109002.out BK106.out (by decide)) (fun _ hk => hk.2) (.int .i64 x109000_1)) (fun _ hk => hk.2) (.int .i64 x109001_1)) (fun _ hk => hk.2) (.slice Ao52 x109002_1.length co52)) (fun _ hk => hk.2) (.slice Ao53 x109003_1.length co53)) (fun _ hk => hk.2) (.slice none 0 0)) (fun _ hk => hk.2) (.slice none 0 0)) (fun _ hk => hk.2) (.slice none 0 0)) (fun _ hk => hk.2) (.bool false)) (fun _ hk => trivial), by (with_reducible repeat (first | apply Kd.R_alloc | apply Kd.R_drewN | apply Kd.R_drew)); exact Kd.R_mono (Kd.R_far (p := ⟨gb106, 7, none⟩) (Kd.R_far (p := ⟨gb106, 6, none⟩) (Kd.R_far (p := ⟨gb106, 5, none⟩) (Kd.R_far (p := ⟨gb106, 4, none⟩) (Kd.R_far (p := ⟨gb106, 3, none⟩) (Kd.R_far (p := ⟨gb106, 2, none⟩) (Kd.R_far (p := ⟨gb106, 1, none⟩) (Kd.R_far (p := ⟨gb106, 0, none⟩) (Kd.R_types HO_109003.out BK106.out (by decide)) (fun _ hk => hk.2) (.int .i64 x109000_1)) (fun _ hk => hk.2) (.int .i64 x109001_1)) (fun _ hk => hk.2) (.slice Ao52 x109002_1.length co52)) (fun _ hk => hk.2) (.slice Ao53 x109003_1.length co53)) (fun _ hk => hk.2) (.slice none 0 0)) (fun _ hk => hk.2) (.slice none 0 0)) (fun _ hk => hk.2) (.slice none 0 0)) (fun _ hk => hk.2) (.bool false)) (fun _ hk => (by simp [Value.ownBlock])), by first | exact Kd.R_nil _ _ _ _ _ | exact Kd.N_nil _ _ _ _ _ | exact Kd.V_nil _ _ _ _ _ | exact Kd.Q_nil _ _ _ _ _ | exact Kd.S_nil _ _ _ _ _, by first | exact Kd.R_nil _ _ _ _ _ | exact Kd.N_nil _ _ _ _ _ | exact Kd.V_nil _ _ _ _ _ | exact Kd.Q_nil _ _ _ _ _ | exact Kd.S_nil _ _ _ _ _, by first | exact Kd.R_nil _ _ _ _ _ | exact Kd.N_nil _ _ _ _ _ | exact Kd.V_nil _ _ _ _ _ | exact Kd.Q_nil _ _ _ _ _ | exact Kd.S_nil _ _ _ _ _, by repeat (first | (with_reducible first | exact HB.out | apply below_alloc | apply pw_below_drewN | apply below_drew1 | refine below_set ?_ GE106.out | refine below_set ?_ GE108.out) | exact HB.out)⟩

/-! ### product_Stride: function 28 -/
def product_Stride.f (a0_0 : Int) (a0_1 : Int) (l0_2 : List Int) (l0_3 : List Int) (l0_4 : List (S101)) (l0_5 : List (S79)) (l0_6 : List Int) (a0_7 : Bool) : Option (Int) := (product_Align.f a0_0 a0_1).bind fun t122 => (some t122)
set_option maxHeartbeats 8000000 in
set_option maxRecDepth 100000 in
theorem product_Stride.calls (a0_0 : Int) (a0_1 : Int) (A0_2 : Option Addr) (c0_2 : Nat) (l0_2 : List Int) (A0_3 : Option Addr) (c0_3 : Nat) (l0_3 : List Int) (A0_4 : Option Addr) (c0_4 : Nat) (l0_4 : List (S101)) (A0_5 : Option Addr) (c0_5 : Nat) (l0_5 : List (S79)) (A0_6 : Option Addr) (c0_6 : Nat) (l0_6 : List Int) (a0_7 : Bool) (r : Int) (w : World) (hr0_2 : Kd.C (Kd.int .u8) w A0_2 l0_2.length l0_2) (hc0_2 : l0_2.length ≤ c0_2) (hr0_3 : Kd.C (Kd.int .i64) w A0_3 l0_3.length l0_3) (hc0_3 : l0_3.length ≤ c0_3) (hr0_4 : Kd.C k101 w A0_4 l0_4.length l0_4) (hc0_4 : l0_4.length ≤ c0_4) (hr0_5 : Kd.C k79 w A0_5 l0_5.length l0_5) (hc0_5 : l0_5.length ≤ c0_5) (hr0_6 : Kd.C (Kd.int .i64) w A0_6 l0_6.length l0_6) (hc0_6 : l0_6.length ≤ c0_6) (h : product_Stride.f a0_0 a0_1 l0_2 l0_3 l0_4 l0_5 l0_6 a0_7 = some r) :
  Calls Try.prog 28 #[.agg #[.int .i64 a0_0, .int .i64 a0_1, .slice A0_2 l0_2.length c0_2, .slice A0_3 l0_3.length c0_3, .slice A0_4 l0_4.length c0_4, .slice A0_5 l0_5.length c0_5, .slice A0_6 l0_6.length c0_6, .bool a0_7]] w fun e w' => e = .returned (.int .i64 r) ∧ Below w.heap.size w w' := by
 have hu31 := Try.underlying31
 have HR0_2 := Aside0.mk hr0_2
 have HC0_2 := Aside0.mk hc0_2
 clear hr0_2 hc0_2
 have HR0_3 := Aside0.mk hr0_3
 have HC0_3 := Aside0.mk hc0_3
 clear hr0_3 hc0_3
 have HR0_4 := Aside0.mk hr0_4
 have HC0_4 := Aside0.mk hc0_4
 clear hr0_4 hc0_4
 have HR0_5 := Aside0.mk hr0_5
 have HC0_5 := Aside0.mk hc0_5
 clear hr0_5 hc0_5
 have HR0_6 := Aside0.mk hr0_6
 have HC0_6 := Aside0.mk hc0_6
 clear hr0_6 hc0_6
 have HB := Aside0.mk (Below.refl w.heap.size w)
 have H : ((product_Align.f a0_0 a0_1).bind fun t122 => (some t122)) = some r := h
 clear h
 replace H := Option.bind_eq_some_iff.mp H
 obtain ⟨t122, A20, H⟩ := H
 replace H : (some t122) = some r := H
 have A2 := Aside0.mk A20
 clear A20
 obtain rfl := Option.some.inj H
 go_enter Try.func28, Try.ntmps28
 go_wp2_with (first | ((with_reducible refine gate_dst (N := 1) rfl ?_); refine box_event ?hg (N := 1) ?hd (cs := #[.int .i64 a0_0, .int .i64 a0_1, .slice A0_2 l0_2.length c0_2, .slice A0_3 l0_3.length c0_3, .slice A0_4 l0_4.length c0_4, .slice A0_5 l0_5.length c0_5, .slice A0_6 l0_6.length c0_6, .bool a0_7]) (t := 31) ?hr ?_; (case hd => rfl); (case hg => rfl); (case hr => first | (go_simp; done) | (go_simp; rfl)); intro gb121 hg w3 hbox hb; have n0_ := Aside0.mk (below_step (hb0_ HB.out) hb); have n1_ := Aside0.mk (hbox); have n2_ := Aside0.mk ((by rw [hg]; exact (below_size (hb0_ HB.out)) : w.heap.size ≤ gb121)); have n3_ := Aside0.mk ((by rw [hg]; exact (below_size (hb0_ HB.out)) : w.heap.size ≤ gb121)); clear HB; have HB := n0_; have BK121 := n1_; have GW121 := n2_; have GE121 := n3_; clear n0_ n1_ n2_ n3_ hb hbox hg; have hcz4_0 : w3.cell? ⟨gb121, 0, none⟩ = some (.int .i64 a0_0) := (blk_cell BK121.out 0).trans rfl; have hcz4_1 : w3.cell? ⟨gb121, 1, none⟩ = some (.int .i64 a0_1) := (blk_cell BK121.out 1).trans rfl; have hcz4_2 : w3.cell? ⟨gb121, 2, none⟩ = some (.slice A0_2 l0_2.length c0_2) := (blk_cell BK121.out 2).trans rfl; have hcz4_3 : w3.cell? ⟨gb121, 3, none⟩ = some (.slice A0_3 l0_3.length c0_3) := (blk_cell BK121.out 3).trans rfl; have hcz4_4 : w3.cell? ⟨gb121, 4, none⟩ = some (.slice A0_4 l0_4.length c0_4) := (blk_cell BK121.out 4).trans rfl; have hcz4_5 : w3.cell? ⟨gb121, 5, none⟩ = some (.slice A0_5 l0_5.length c0_5) := (blk_cell BK121.out 5).trans rfl; have hcz4_6 : w3.cell? ⟨gb121, 6, none⟩ = some (.slice A0_6 l0_6.length c0_6) := (blk_cell BK121.out 6).trans rfl; have hcz4_7 : w3.cell? ⟨gb121, 7, none⟩ = some (.bool a0_7) := (blk_cell BK121.out 7).trans rfl; have hfz4_0 := blk_frozen BK121.out 0; have hfz4_1 := blk_frozen BK121.out 1; have hfz4_2 := blk_frozen BK121.out 2; have hfz4_3 := blk_frozen BK121.out 3; have hfz4_4 := blk_frozen BK121.out 4; have hfz4_5 := blk_frozen BK121.out 5; have hfz4_6 := blk_frozen BK121.out 6; have hfz4_7 := blk_frozen BK121.out 7) | ((with_reducible refine gate_callee (f := 30) rfl ?_); refine goesL_ (some 7) rfl rfl Try.func30 (by kernel_rfl) rfl #[.int .i64 a0_0, .int .i64 a0_1] rfl (by (try simp only [List.map_toArray, List.map_cons, List.map_nil]); first | done | rfl | (simp only [List.length_drop, List.length_take]; rfl)) ?_; (with_reducible refine (product_Align.calls a0_0 a0_1 t122 _ A2.out).mono ?_); rintro e w' ⟨rfl, ⟨nd, rfl⟩⟩; refine ⟨_, rfl, ?_⟩))
 go_ret
 exact ⟨by first | rfl | (simp [errW_none, errW_some] <;> rfl) | (simp [*, errW_none, errW_some] <;> rfl), by repeat (first | (with_reducible first | exact HB.out | apply below_alloc | apply pw_below_drewN | apply below_drew1 | refine below_set ?_ GE121.out) | exact HB.out)⟩

end Go.Proofs.Ytpcephbhnbfcmaa.F
