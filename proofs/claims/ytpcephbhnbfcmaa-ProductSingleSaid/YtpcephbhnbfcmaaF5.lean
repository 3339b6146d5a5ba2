-- Written by this session's program fork.py: a Lean function for each Go function and its walk. Not trusted: Lean checks it.
import Derived.Test.YtpcephbhnbfcmaaF0
import Derived.Test.YtpcephbhnbfcmaaF4
namespace Go.Proofs.Ytpcephbhnbfcmaa.F
open Go.RowKit Go.Proofs.YtpcephbhnbfcmaaW.PrintWords Go.Proofs.YtpcephbhnbfcmaaW.PrintLast Go.Proofs.YtpcephbhnbfcmaaW.PrintMore
attribute [local go_sem] max2_int min2_int max_two min_two max_three min_three max_four min_four   -- for this text's walks alone
set_option linter.unusedVariables false
set_option linter.unusedSimpArgs false

open List (setIfInBounds_toArray set_cons_zero set_cons_succ)
/-! ### ref16_Lay: function 25 -/
mutual
def ref16_Lay.l0 : Nat → List (S31) → List (S31) → Int → Int → Int → Int → Bool → Option (Int × Int × List Int × List Int × (List (S101)) × (List (S79)) × List Int × Bool × Int)
 | 0, _, _, _, _, _, _, _ => none
 | k + 1, x0, x11, x12, x13, x131000, x131001, x131007 => if x13 < x12 then (if 0 ≤ x13 then (if x13 < (x11.length : Int) then ((ref15_Valid.f ((rd_T31 x11 x13).f0) ((rd_T31 x11 x13).f1) ((rd_T31 x11 x13).f2) ((rd_T31 x11 x13).f3) ((rd_T31 x11 x13).f4) ((rd_T31 x11 x13).f5) ((rd_T31 x11 x13).f6) ((rd_T31 x11 x13).f7)).bind fun t133 => (if t133 = true then (ref16_Lay.l0 k x0 x11 x12 (wrap64 (x13 + 1)) x131000 x131001 x131007) else (some (0, 0, ([] : List Int), ([] : List Int), ([] : List (S101)), ([] : List (S79)), ([] : List Int), false, 19)))) else (none)) else (none)) else (ref16_Lay.l1 k x0 (x0.length : Int) 0 x131000 x131001 ([] : List Int) ([] : List Int) x131007)
def ref16_Lay.l1 : Nat → List (S31) → Int → Int → Int → Int → List Int → List Int → Bool → Option (Int × Int × List Int × List Int × (List (S101)) × (List (S79)) × List Int × Bool × Int)
 | 0, _, _, _, _, _, _, _, _ => none
 | k + 1, x22, x23, x24, x131000, x131001, x131002, x131003, x131007 => if x24 < x23 then (if 0 ≤ x24 then (if x24 < (x22.length : Int) then ((ref16_Align.f x131000 ((rd_T31 x22 x24).f1)).bind fun t136 => (if (wrap64 (t136 + ((rd_T31 x22 x24).f0))) > 1024 then (some (0, 0, ([] : List Int), ([] : List Int), ([] : List (S101)), ([] : List (S79)), ([] : List Int), false, 4)) else (if x131003.length < 17592186044416 then (ref16_Lay.l2 k t136 x22 x23 x24 x131000 x131001 x131002 (x131003 ++ [t136]) x131007 ((rd_T31 x22 x24).f0) ((rd_T31 x22 x24).f1) ((rd_T31 x22 x24).f2) ((rd_T31 x22 x24).f3) ((rd_T31 x22 x24).f4) ((rd_T31 x22 x24).f5) ((rd_T31 x22 x24).f6) ((rd_T31 x22 x24).f7)) else (none)))) else (none)) else (none)) else (some (x131000, x131001, x131002, x131003, ([] : List (S101)), ([] : List (S79)), ([] : List Int), x131007, 0))
def ref16_Lay.l2 : Nat → Int → List (S31) → Int → Int → Int → Int → List Int → List Int → Bool → Int → Int → List Int → List Int → List (S101) → List (S79) → List Int → Bool → Option (Int × Int × List Int × List Int × (List (S101)) × (List (S79)) × List Int × Bool × Int)
 | 0, _, _, _, _, _, _, _, _, _, _, _, _, _, _, _, _, _ => none
 | k + 1, x9, x22, x23, x24, x131000, x131001, x131002, x131003, x131007, x136000, x136001, x136002, x136003, x136004, x136005, x136006, x136007 => if (x131002.length : Int) < x9 then (if x131002.length < 140737488355328 then (ref16_Lay.l2 k x9 x22 x23 x24 x131000 x131001 (x131002 ++ [0]) x131003 x131007 x136000 x136001 x136002 x136003 x136004 x136005 x136006 x136007) else (none)) else (if x131002.length + x136002.length < 140737488355328 then (ref16_Lay.l1 k x22 x23 (wrap64 (x24 + 1)) (wrap64 (x9 + x136000)) (mx x131001 x136001) (x131002 ++ x136002) x131003 x131007) else (none))
end
def ref16_Lay.f (k : Nat) (l0 : List (S31)) : Option (Int × Int × List Int × List Int × (List (S101)) × (List (S79)) × List Int × Bool × Int) := ref16_Lay.l0 k l0 l0 (l0.length : Int) 0 0 1 false
theorem ref16_Lay.mono_l : ∀ k, (∀ y0 y1 y2 y3 y4 y5 y6, LeO (ref16_Lay.l0 k y0 y1 y2 y3 y4 y5 y6) (ref16_Lay.l0 (k + 1) y0 y1 y2 y3 y4 y5 y6)) ∧ (∀ y0 y1 y2 y3 y4 y5 y6 y7, LeO (ref16_Lay.l1 k y0 y1 y2 y3 y4 y5 y6 y7) (ref16_Lay.l1 (k + 1) y0 y1 y2 y3 y4 y5 y6 y7)) ∧ (∀ y0 y1 y2 y3 y4 y5 y6 y7 y8 y9 y10 y11 y12 y13 y14 y15 y16, LeO (ref16_Lay.l2 k y0 y1 y2 y3 y4 y5 y6 y7 y8 y9 y10 y11 y12 y13 y14 y15 y16) (ref16_Lay.l2 (k + 1) y0 y1 y2 y3 y4 y5 y6 y7 y8 y9 y10 y11 y12 y13 y14 y15 y16))
 | 0 => ⟨fun _ _ _ _ _ _ _ r h => by simp [ref16_Lay.l0] at h, fun _ _ _ _ _ _ _ _ r h => by simp [ref16_Lay.l1] at h, fun _ _ _ _ _ _ _ _ _ _ _ _ _ _ _ _ _ r h => by simp [ref16_Lay.l2] at h⟩
 | k + 1 => by
  obtain ⟨ih0, ih1, ih2⟩ := ref16_Lay.mono_l k
  refine ⟨?_, ?_, ?_⟩
  ·
   intro y0 y1 y2 y3 y4 y5 y6
   unfold ref16_Lay.l0
   repeat' first
   | (with_reducible exact ih0 _ _ _ _ _ _ _)
   | (with_reducible exact ih1 _ _ _ _ _ _ _ _)
   | (with_reducible exact ih2 _ _ _ _ _ _ _ _ _ _ _ _ _ _ _ _ _)
   | (with_reducible exact LeO.refl _)
   | (with_reducible exact LeO.none _)
   | (with_reducible refine LeO.ite ?_ ?_)
   | (with_reducible refine LeO.bind ?_ (fun _ => ?_))
   | exact ih0 _ _ _ _ _ _ _
   | exact ih1 _ _ _ _ _ _ _ _
   | exact ih2 _ _ _ _ _ _ _ _ _ _ _ _ _ _ _ _ _
   | exact LeO.none _
   | refine LeO.ite ?_ ?_
   | refine LeO.bind ?_ (fun _ => ?_)
  ·
   intro y0 y1 y2 y3 y4 y5 y6 y7
   unfold ref16_Lay.l1
   repeat' first
   | (with_reducible exact ih0 _ _ _ _ _ _ _)
   | (with_reducible exact ih1 _ _ _ _ _ _ _ _)
   | (with_reducible exact ih2 _ _ _ _ _ _ _ _ _ _ _ _ _ _ _ _ _)
   | (with_reducible exact LeO.refl _)
   | (with_reducible exact LeO.none _)
   | (with_reducible refine LeO.ite ?_ ?_)
   | (with_reducible refine LeO.bind ?_ (fun _ => ?_))
   | exact ih0 _ _ _ _ _ _ _
   | exact ih1 _ _ _ _ _ _ _ _
   | exact ih2 _ _ _ _ _ _ _ _ _ _ _ _ _ _ _ _ _
   | exact LeO.none _
   | refine LeO.ite ?_ ?_
   | refine LeO.bind ?_ (fun _ => ?_)
  ·
   intro y0 y1 y2 y3 y4 y5 y6 y7 y8 y9 y10 y11 y12 y13 y14 y15 y16
   unfold ref16_Lay.l2
   repeat' first
   | (with_reducible exact ih0 _ _ _ _ _ _ _)
   | (with_reducible exact ih1 _ _ _ _ _ _ _ _)
   | (with_reducible exact ih2 _ _ _ _ _ _ _ _ _ _ _ _ _ _ _ _ _)
   | (with_reducible exact LeO.refl _)
   | (with_reducible exact LeO.none _)
   | (with_reducible refine LeO.ite ?_ ?_)
   | (with_reducible refine LeO.bind ?_ (fun _ => ?_))
   | exact ih0 _ _ _ _ _ _ _
   | exact ih1 _ _ _ _ _ _ _ _
   | exact ih2 _ _ _ _ _ _ _ _ _ _ _ _ _ _ _ _ _
   | exact LeO.none _
   | refine LeO.ite ?_ ?_
   | refine LeO.bind ?_ (fun _ => ?_)
theorem ref16_Lay.mono : ∀ a0 k, LeO (ref16_Lay.f k a0) (ref16_Lay.f (k + 1) a0) := by
 intro a0 k
 obtain ⟨ih0, ih1, ih2⟩ := ref16_Lay.mono_l k
 unfold ref16_Lay.f
 repeat' first
   | (with_reducible exact ih0 _ _ _ _ _ _ _)
   | (with_reducible exact ih1 _ _ _ _ _ _ _ _)
   | (with_reducible exact ih2 _ _ _ _ _ _ _ _ _ _ _ _ _ _ _ _ _)
   | (with_reducible exact LeO.refl _)
   | (with_reducible exact LeO.none _)
   | (with_reducible refine LeO.ite ?_ ?_)
   | (with_reducible refine LeO.bind ?_ (fun _ => ?_))
   | exact ih0 _ _ _ _ _ _ _
   | exact ih1 _ _ _ _ _ _ _ _
   | exact ih2 _ _ _ _ _ _ _ _ _ _ _ _ _ _ _ _ _
   | exact LeO.none _
   | refine LeO.ite ?_ ?_
   | refine LeO.bind ?_ (fun _ => ?_)
def ref16_Lay.T18 : Bool × List (List Nat × List Nat) := (true, [([], []), ([], []), ([1], [1]), ([0, 2], [0, 2]), ([], []), ([4], [4]), ([], []), ([6], [6]), ([5, 7], [5, 7]), ([0, 1, 2, 3, 4, 5], []), ([9, 3, 0, 1, 2, 3, 4, 5], [3, 9]), ([0, 1, 2, 3, 4, 5, 6, 7, 8, 9, 10], []), ([11, 8, 10, 0, 1, 2, 3, 4, 5, 6, 7, 8, 9, 10], [8, 11])])
def ref16_Lay.B18 : List Nat := [0, 0, 2, 7, 0, 16, 0, 64, 240, 63, 575, 2047, 4095]
theorem ref16_Lay.tab18 : rtab .any (opsOf Try.f25 18) = ref16_Lay.T18 := by kernel_rfl
theorem ref16_Lay.bits18 : waitsOk ref16_Lay.T18.2 ref16_Lay.B18 = true := by kernel_rfl
set_option maxHeartbeats 8000000 in
set_option maxRecDepth 100000 in
theorem ref16_Lay.calls (k : Nat) (A0 : Option Addr) (c0 : Nat) (l0 : List (S31)) (r1 : Int) (r2 : Int) (r3 : List Int) (r4 : List Int) (r5 : List (S101)) (r6 : List (S79)) (r7 : List Int) (r8 : Bool) (r9 : Int) (w : World) (hr0 : Kd.C k31 w A0 l0.length l0) (hc0 : l0.length ≤ c0) (h : ref16_Lay.f k l0 = some (r1, r2, r3, r4, r5, r6, r7, r8, r9)) :
  Calls Try.prog 25 #[.slice A0 l0.length c0] w fun e w' => ∃ v2_ v3_ v4_ v5_ v6_ : Value, e = .returned (.tuple #[.agg #[.int .i64 r1, .int .i64 r2, v2_, v3_, v4_, v5_, v6_, .bool r8], .int .i64 r9]) ∧ Kd.R (Kd.int .u8) 5 w' w.heap.size (fun _ => True) v2_ r3 ∧ Kd.R (Kd.int .i64) 3 w' w.heap.size (fun k_ => some k_ ≠ (v6_ : Value).ownBlock) v3_ r4 ∧ Kd.R k101 101 w' w.heap.size (fun _ => True) v4_ r5 ∧ Kd.R k79 79 w' w.heap.size (fun k_ => some k_ ≠ (v3_ : Value).ownBlock ∧ some k_ ≠ (v4_ : Value).ownBlock ∧ some k_ ≠ (v6_ : Value).ownBlock) v5_ r6 ∧ Kd.R (Kd.int .i64) 3 w' w.heap.size (fun k_ => some k_ ≠ (v3_ : Value).ownBlock) v6_ r7 ∧ Below w.heap.size w w' := by
 have hu31 := Try.underlying31
 have HR0 := Aside0.mk hr0
 have HC0 := Aside0.mk hc0
 clear hr0 hc0
 have HB := Aside0.mk (Below.refl w.heap.size w)
 have H : (ref16_Lay.l0 k l0 l0 (l0.length : Int) 0 0 1 false) = some (r1, r2, r3, r4, r5, r6, r7, r8, r9) := h
 clear h
 have H' := Aside0.mk H
 clear H
 go_enter Try.func25, Try.ntmps25
 go_wp2_with (first | ((with_reducible refine gate_dst (N := 2) rfl ?_); refine box_event ?hg (N := 2) ?hd (cs := #[.int .i64 0, .int .i64 0, .slice none 0 0, .slice none 0 0, .slice none 0 0, .slice none 0 0, .slice none 0 0, .bool false]) (t := 31) ?hr ?_; (case hd => rfl); (case hg => rfl); (case hr => first | (go_simp; done) | (go_simp; rfl)); intro gb129 hg w2 hbox hb; have n0_ := Aside0.mk (below_step (hb0_ HB.out) hb); have n1_ := Aside0.mk (hbox); have n2_ := Aside0.mk ((by rw [hg]; exact (below_size (hb0_ HB.out)) : w.heap.size ≤ gb129)); have n3_ := Aside0.mk ((by rw [hg]; exact (below_size (hb0_ HB.out)) : w.heap.size ≤ gb129)); clear HB; have HB := n0_; have BK129 := n1_; have GW129 := n2_; have GE129 := n3_; clear n0_ n1_ n2_ n3_ hb hbox hg) | ((with_reducible refine gate_dst (N := 4) rfl ?_); refine box_event ?hg (N := 4) ?hd (cs := #[.int .i64 0, .int .i64 0, .slice none 0 0, .slice none 0 0, .slice none 0 0, .slice none 0 0, .slice none 0 0, .bool false]) (t := 31) ?hr ?_; (case hd => rfl); (case hg => rfl); (case hr => first | (go_simp; done) | (go_simp; rfl)); intro gb130 hg w3 hbox hb; have n0_ := Aside0.mk (blk_below (g := gb129) (o := .cells #[.int .i64 0, .int .i64 0, .slice none 0 0, .slice none 0 0, .slice none 0 0, .slice none 0 0, .slice none 0 0, .bool false] 31 (0, 0)) (bk_ BK129.out) hb); have n1_ := Aside0.mk (below_step (hb1_ HB.out GE129.out) hb); have n2_ := Aside0.mk (hbox); have n3_ := Aside0.mk ((by rw [hg]; exact (below_size (hb1_ HB.out GE129.out)) : w.heap.size ≤ gb130)); have n4_ := Aside0.mk ((by rw [hg]; exact (below_size (hb1_ HB.out GE129.out)) : w.heap.size ≤ gb130)); have n5_ := Aside0.mk ((by rw [hg]; exact Nat.ne_of_lt (blk_lt (g := gb129) (o := .cells #[.int .i64 0, .int .i64 0, .slice none 0 0, .slice none 0 0, .slice none 0 0, .slice none 0 0, .slice none 0 0, .bool false] 31 (0, 0)) (bk_ BK129.out)) : gb129 ≠ gb130)); have n6_ := Aside0.mk ((by rw [hg]; exact Nat.ne_of_gt (blk_lt (g := gb129) (o := .cells #[.int .i64 0, .int .i64 0, .slice none 0 0, .slice none 0 0, .slice none 0 0, .slice none 0 0, .slice none 0 0, .bool false] 31 (0, 0)) (bk_ BK129.out)) : gb130 ≠ gb129)); clear BK129 HB; have BK129 := n0_; have HB := n1_; have BK130 := n2_; have GW130 := n3_; have GE130 := n4_; have NB129_130 := n5_; have NB130_129 := n6_; clear n0_ n1_ n2_ n3_ n4_ n5_ n6_ hb hbox hg; have hnb4 := NB130_129.out; have hnc4 := NB129_130.out; have hcz5_0 : w3.cell? ⟨gb130, 0, none⟩ = some (.int .i64 0) := (blk_cell BK130.out 0).trans rfl; have hcz5_1 : w3.cell? ⟨gb130, 1, none⟩ = some (.int .i64 0) := (blk_cell BK130.out 1).trans rfl; have hcz5_2 : w3.cell? ⟨gb130, 2, none⟩ = some (.slice none 0 0) := (blk_cell BK130.out 2).trans rfl; have hcz5_3 : w3.cell? ⟨gb130, 3, none⟩ = some (.slice none 0 0) := (blk_cell BK130.out 3).trans rfl; have hcz5_4 : w3.cell? ⟨gb130, 4, none⟩ = some (.slice none 0 0) := (blk_cell BK130.out 4).trans rfl; have hcz5_5 : w3.cell? ⟨gb130, 5, none⟩ = some (.slice none 0 0) := (blk_cell BK130.out 5).trans rfl; have hcz5_6 : w3.cell? ⟨gb130, 6, none⟩ = some (.slice none 0 0) := (blk_cell BK130.out 6).trans rfl; have hcz5_7 : w3.cell? ⟨gb130, 7, none⟩ = some (.bool false) := (blk_cell BK130.out 7).trans rfl; have hfz5_0 := blk_frozen BK130.out 0; have hfz5_1 := blk_frozen BK130.out 1; have hfz5_2 := blk_frozen BK130.out 2; have hfz5_3 := blk_frozen BK130.out 3; have hfz5_4 := blk_frozen BK130.out 4; have hfz5_5 := blk_frozen BK130.out 5; have hfz5_6 := blk_frozen BK130.out 6; have hfz5_7 := blk_frozen BK130.out 7))
 go_loopg [13] k (fun kq v13 w' => ∃ (x13_1 : Int) (x130000_1 : Int) (x130001_1 : Int) (x130007_1 : Bool), v13 = .int .i64 x13_1 ∧ Aside0 (ref16_Lay.l0 kq l0 l0 (l0.length : Int) x13_1 0 1 false = some (r1, r2, r3, r4, r5, r6, r7, r8, r9)) ∧ Aside0 (kq ≤ k) ∧ Aside0 (w'.heap[gb129]? = some (.cells #[.int .i64 x130000_1, .int .i64 x130001_1, (.slice none 0 0), (.slice none 0 0), (.slice none 0 0), (.slice none 0 0), (.slice none 0 0), .bool x130007_1] 31 (0, 0))) ∧ Aside0 (w'.heap[gb130]? = some (.cells #[.int .i64 0, .int .i64 1, (.slice none 0 0), (.slice none 0 0), (.slice none 0 0), (.slice none 0 0), (.slice none 0 0), .bool false] 31 (0, 0))) ∧ Aside0 (Below w.heap.size w w'))
 case atStart => exact ⟨(0), (0), (0), (false), (by first | rfl | (simp; done) | (simp [*]; done)), H', ⟨Nat.le_refl _⟩, ⟨by (with_reducible repeat (first | refine blk_drewN ?_ _ | refine blk_drew ?_ | refine blk_alloc ?_ _)); refine blk_far ?_ NB129_130.out _; (with_reducible repeat (first | refine blk_drewN ?_ _ | refine blk_drew ?_ | refine blk_alloc ?_ _)); refine blk_far ?_ NB129_130.out _; (with_reducible repeat (first | refine blk_drewN ?_ _ | refine blk_drew ?_ | refine blk_alloc ?_ _)); refine blk_far ?_ NB129_130.out _; (with_reducible repeat (first | refine blk_drewN ?_ _ | refine blk_drew ?_ | refine blk_alloc ?_ _)); refine blk_far ?_ NB129_130.out _; (with_reducible repeat (first | refine blk_drewN ?_ _ | refine blk_drew ?_ | refine blk_alloc ?_ _)); refine blk_far ?_ NB129_130.out _; (with_reducible repeat (first | refine blk_drewN ?_ _ | refine blk_drew ?_ | refine blk_alloc ?_ _)); refine blk_far ?_ NB129_130.out _; (with_reducible repeat (first | refine blk_drewN ?_ _ | refine blk_drew ?_ | refine blk_alloc ?_ _)); refine blk_far ?_ NB129_130.out _; (with_reducible repeat (first | refine blk_drewN ?_ _ | refine blk_drew ?_ | refine blk_alloc ?_ _)); refine blk_far ?_ NB129_130.out _; (with_reducible repeat (first | refine blk_drewN ?_ _ | refine blk_drew ?_ | refine blk_alloc ?_ _)); exact BK129.out⟩, ⟨by (with_reducible repeat (first | refine blk_drewN ?_ _ | refine blk_drew ?_ | refine blk_alloc ?_ _)); refine blk_put (cs := #[.int .i64 0, .int .i64 1, .slice none 0 0, .slice none 0 0, .slice none 0 0, .slice none 0 0, .slice none 0 0, .bool false]) ?_ 7 _ rfl; (with_reducible repeat (first | refine blk_drewN ?_ _ | refine blk_drew ?_ | refine blk_alloc ?_ _)); refine blk_put (cs := #[.int .i64 0, .int .i64 1, .slice none 0 0, .slice none 0 0, .slice none 0 0, .slice none 0 0, .slice none 0 0, .bool false]) ?_ 6 _ rfl; (with_reducible repeat (first | refine blk_drewN ?_ _ | refine blk_drew ?_ | refine blk_alloc ?_ _)); refine blk_put (cs := #[.int .i64 0, .int .i64 1, .slice none 0 0, .slice none 0 0, .slice none 0 0, .slice none 0 0, .slice none 0 0, .bool false]) ?_ 5 _ rfl; (with_reducible repeat (first | refine blk_drewN ?_ _ | refine blk_drew ?_ | refine blk_alloc ?_ _)); refine blk_put (cs := #[.int .i64 0, .int .i64 1, .slice none 0 0, .slice none 0 0, .slice none 0 0, .slice none 0 0, .slice none 0 0, .bool false]) ?_ 4 _ rfl; (with_reducible repeat (first | refine blk_drewN ?_ _ | refine blk_drew ?_ | refine blk_alloc ?_ _)); refine blk_put (cs := #[.int .i64 0, .int .i64 1, .slice none 0 0, .slice none 0 0, .slice none 0 0, .slice none 0 0, .slice none 0 0, .bool false]) ?_ 3 _ rfl; (with_reducible repeat (first | refine blk_drewN ?_ _ | refine blk_drew ?_ | refine blk_alloc ?_ _)); refine blk_put (cs := #[.int .i64 0, .int .i64 1, .slice none 0 0, .slice none 0 0, .slice none 0 0, .slice none 0 0, .slice none 0 0, .bool false]) ?_ 2 _ rfl; (with_reducible repeat (first | refine blk_drewN ?_ _ | refine blk_drew ?_ | refine blk_alloc ?_ _)); refine blk_put (cs := #[.int .i64 0, .int .i64 0, .slice none 0 0, .slice none 0 0, .slice none 0 0, .slice none 0 0, .slice none 0 0, .bool false]) ?_ 1 _ rfl; (with_reducible repeat (first | refine blk_drewN ?_ _ | refine blk_drew ?_ | refine blk_alloc ?_ _)); refine blk_put (cs := #[.int .i64 0, .int .i64 0, .slice none 0 0, .slice none 0 0, .slice none 0 0, .slice none 0 0, .slice none 0 0, .bool false]) ?_ 0 _ rfl; (with_reducible repeat (first | refine blk_drewN ?_ _ | refine blk_drew ?_ | refine blk_alloc ?_ _)); exact BK130.out⟩, ⟨by repeat (first | (with_reducible first | exact HB.out | apply below_alloc | apply pw_below_drewN | apply below_drew1 | refine below_set ?_ GE129.out | refine below_set ?_ GE130.out) | exact HB.out)⟩⟩
 case round =>
  clear H'
  try clear c2
  try clear p2
  try clear c4
  try clear hcz5_0
  try clear hcz5_1
  try clear hcz5_2
  try clear hcz5_3
  try clear hcz5_4
  try clear hcz5_5
  try clear hcz5_6
  try clear hcz5_7
  try clear hfz5_0
  try clear hfz5_1
  try clear hfz5_2
  try clear hfz5_3
  try clear hfz5_4
  try clear hfz5_5
  try clear hfz5_6
  try clear hfz5_7
  obtain ⟨x13_1, x130000_1, x130001_1, x130007_1, rfl, HA, HK1, BK129, BK130, HB⟩ := hrel
  cases gk with
  | zero => exact absurd HA.out (by simp [ref16_Lay.l0])
  | succ k1 =>
   have H := HA.out
   clear HA
   simp only [ref16_Lay.l0] at H
   by_cases c6 : x13_1 < (l0.length : Int)
   ·
    rw [if_pos c6] at H
    have c6b0 : decide (x13_1 < (l0.length : Int)) = true := decide_eq_true c6
    clear c6
    by_cases c7 : 0 ≤ x13_1
    rotate_left
    ·
     rw [if_neg c7] at H
     exact absurd H (by simp)
    rw [if_pos c7] at H
    have c7b0 : decide (0 ≤ x13_1) = true := decide_eq_true c7
    clear c7
    by_cases c8 : x13_1 < (l0.length : Int)
    rotate_left
    ·
     rw [if_neg c8] at H
     exact absurd H (by simp)
    rw [if_pos c8] at H
    have c8b0 : decide (x13_1 < (l0.length : Int)) = true := decide_eq_true c8
    clear c8
    replace H := Option.bind_eq_some_iff.mp H
    obtain ⟨t133, A90, H⟩ := H
    replace H : (if t133 = true then (ref16_Lay.l0 k1 l0 l0 (l0.length : Int) (wrap64 (x13_1 + 1)) 0 1 false) else (some (0, 0, ([] : List Int), ([] : List Int), ([] : List (S101)), ([] : List (S79)), ([] : List Int), false, 19))) = some (r1, r2, r3, r4, r5, r6, r7, r8, r9) := H
    have A9 := Aside0.mk A90
    clear A90
    by_cases c10 : t133 = true
    ·
     subst c10
     have H1 : (ref16_Lay.l0 k1 l0 l0 (l0.length : Int) (wrap64 (x13_1 + 1)) 0 1 false) = some (r1, r2, r3, r4, r5, r6, r7, r8, r9) := by rw [if_pos rfl] at H; exact H
     clear H
     have H := H1
     clear H1
     have H' := Aside0.mk H
     clear H
     have p131 : 0 ≤ (x13_1 : Int) := od_
     have q131 : x13_1 < (l0.length : Int) := od_
     obtain ⟨ad131, A131_2, c131_2, A131_3, c131_3, A131_4, c131_4, A131_5, c131_5, A131_6, c131_6, e131, hx131_0, hx131_1, hx131_2, hx131_3, hx131_4, hx131_5, hx131_6, hx131_7, hl131_2, hi131_2, hl131_3, hi131_3, hl131_4, hi131_4, hl131_5, hi131_5, hl131_6, hi131_6⟩ := at_T31 HR0.out x13_1 p131 q131
     cases e131
     replace hx131_0 := (HB.out.cell (World.block_lt_of_cell? w _ hx131_0)).trans hx131_0
     replace hx131_1 := (HB.out.cell (World.block_lt_of_cell? w _ hx131_1)).trans hx131_1
     replace hx131_2 := (HB.out.cell (World.block_lt_of_cell? w _ hx131_2)).trans hx131_2
     replace hx131_3 := (HB.out.cell (World.block_lt_of_cell? w _ hx131_3)).trans hx131_3
     replace hx131_4 := (HB.out.cell (World.block_lt_of_cell? w _ hx131_4)).trans hx131_4
     replace hx131_5 := (HB.out.cell (World.block_lt_of_cell? w _ hx131_5)).trans hx131_5
     replace hx131_6 := (HB.out.cell (World.block_lt_of_cell? w _ hx131_6)).trans hx131_6
     replace hx131_7 := (HB.out.cell (World.block_lt_of_cell? w _ hx131_7)).trans hx131_7
     have HR131_2 := Aside0.mk hi131_2
     have HC131_2 := Aside0.mk hl131_2
     clear hi131_2 hl131_2
     have HR131_3 := Aside0.mk hi131_3
     have HC131_3 := Aside0.mk hl131_3
     clear hi131_3 hl131_3
     have HR131_4 := Aside0.mk hi131_4
     have HC131_4 := Aside0.mk hl131_4
     clear hi131_4 hl131_4
     have HR131_5 := Aside0.mk hi131_5
     have HC131_5 := Aside0.mk hl131_5
     clear hi131_5 hl131_5
     have HR131_6 := Aside0.mk hi131_6
     have HC131_6 := Aside0.mk hl131_6
     clear hi131_6 hl131_6
     replace p131 := eq_true p131
     replace q131 := eq_true q131
     go_wp2_with (first | ((with_reducible refine gate_dst (N := 6) rfl ?_); refine box_event ?hg (N := 6) ?hd (cs := #[.int .i64 0, .int .i64 0, .slice none 0 0, .slice none 0 0, .slice none 0 0, .slice none 0 0, .slice none 0 0, .bool false]) (t := 31) ?hr ?_; (case hd => rfl); (case hg => rfl); (case hr => first | (go_simp; done) | (go_simp; rfl)); intro gb132 hg w11 hbox hb; have n0_ := Aside0.mk (blk_below (g := gb129) (o := .cells #[.int .i64 x130000_1, .int .i64 x130001_1, .slice none 0 0, .slice none 0 0, .slice none 0 0, .slice none 0 0, .slice none 0 0, .bool x130007_1] 31 (0, 0)) (bk_ BK129.out) hb); have n1_ := Aside0.mk (blk_below (g := gb130) (o := .cells #[.int .i64 0, .int .i64 1, .slice none 0 0, .slice none 0 0, .slice none 0 0, .slice none 0 0, .slice none 0 0, .bool false] 31 (0, 0)) (bk_ BK130.out) hb); have n2_ := Aside0.mk (below_step (hb2_ HB.out GE129.out GE130.out) hb); have n3_ := Aside0.mk (hbox); have n4_ := Aside0.mk ((by rw [hg]; exact (below_size (hb2_ HB.out GE129.out GE130.out)) : w.heap.size ≤ gb132)); have n5_ := Aside0.mk ((by rw [hg]; exact (below_size (hb2_ HB.out GE129.out GE130.out)) : w.heap.size ≤ gb132)); have n6_ := Aside0.mk ((by rw [hg]; exact Nat.ne_of_lt (blk_lt (g := gb129) (o := .cells #[.int .i64 x130000_1, .int .i64 x130001_1, .slice none 0 0, .slice none 0 0, .slice none 0 0, .slice none 0 0, .slice none 0 0, .bool x130007_1] 31 (0, 0)) (bk_ BK129.out)) : gb129 ≠ gb132)); have n7_ := Aside0.mk ((by rw [hg]; exact Nat.ne_of_gt (blk_lt (g := gb129) (o := .cells #[.int .i64 x130000_1, .int .i64 x130001_1, .slice none 0 0, .slice none 0 0, .slice none 0 0, .slice none 0 0, .slice none 0 0, .bool x130007_1] 31 (0, 0)) (bk_ BK129.out)) : gb132 ≠ gb129)); have n8_ := Aside0.mk ((by rw [hg]; exact Nat.ne_of_lt (blk_lt (g := gb130) (o := .cells #[.int .i64 0, .int .i64 1, .slice none 0 0, .slice none 0 0, .slice none 0 0, .slice none 0 0, .slice none 0 0, .bool false] 31 (0, 0)) (bk_ BK130.out)) : gb130 ≠ gb132)); have n9_ := Aside0.mk ((by rw [hg]; exact Nat.ne_of_gt (blk_lt (g := gb130) (o := .cells #[.int .i64 0, .int .i64 1, .slice none 0 0, .slice none 0 0, .slice none 0 0, .slice none 0 0, .slice none 0 0, .bool false] 31 (0, 0)) (bk_ BK130.out)) : gb132 ≠ gb130)); clear BK129 BK130 HB; have BK129 := n0_; have BK130 := n1_; have HB := n2_; have BK132 := n3_; have GW132 := n4_; have GE132 := n5_; have NB129_132 := n6_; have NB132_129 := n7_; have NB130_132 := n8_; have NB132_130 := n9_; clear n0_ n1_ n2_ n3_ n4_ n5_ n6_ n7_ n8_ n9_ hb hbox hg; have hnb12 := NB132_129.out; have hnc12 := NB129_132.out; have hnb13 := NB132_130.out; have hnc13 := NB130_132.out; have hcz14_0 : w11.cell? ⟨gb132, 0, none⟩ = some (.int .i64 0) := (blk_cell BK132.out 0).trans rfl; have hcz14_1 : w11.cell? ⟨gb132, 1, none⟩ = some (.int .i64 0) := (blk_cell BK132.out 1).trans rfl; have hcz14_2 : w11.cell? ⟨gb132, 2, none⟩ = some (.slice none 0 0) := (blk_cell BK132.out 2).trans rfl; have hcz14_3 : w11.cell? ⟨gb132, 3, none⟩ = some (.slice none 0 0) := (blk_cell BK132.out 3).trans rfl; have hcz14_4 : w11.cell? ⟨gb132, 4, none⟩ = some (.slice none 0 0) := (blk_cell BK132.out 4).trans rfl; have hcz14_5 : w11.cell? ⟨gb132, 5, none⟩ = some (.slice none 0 0) := (blk_cell BK132.out 5).trans rfl; have hcz14_6 : w11.cell? ⟨gb132, 6, none⟩ = some (.slice none 0 0) := (blk_cell BK132.out 6).trans rfl; have hcz14_7 : w11.cell? ⟨gb132, 7, none⟩ = some (.bool false) := (blk_cell BK132.out 7).trans rfl; have hfz14_0 := blk_frozen BK132.out 0; have hfz14_1 := blk_frozen BK132.out 1; have hfz14_2 := blk_frozen BK132.out 2; have hfz14_3 := blk_frozen BK132.out 3; have hfz14_4 := blk_frozen BK132.out 4; have hfz14_5 := blk_frozen BK132.out 5; have hfz14_6 := blk_frozen BK132.out 6; have hfz14_7 := blk_frozen BK132.out 7) | ((with_reducible refine gate_callee (f := 27) rfl ?_); refine goesL_ (some 18) rfl rfl Try.func27 (by kernel_rfl) rfl #[.agg #[.int .i64 ((rd_T31 l0 x13_1).f0), .int .i64 ((rd_T31 l0 x13_1).f1), .slice A131_2 ((rd_T31 l0 x13_1).f2).length c131_2, .slice A131_3 ((rd_T31 l0 x13_1).f3).length c131_3, .slice A131_4 ((rd_T31 l0 x13_1).f4).length c131_4, .slice A131_5 ((rd_T31 l0 x13_1).f5).length c131_5, .slice A131_6 ((rd_T31 l0 x13_1).f6).length c131_6, .bool ((rd_T31 l0 x13_1).f7)]] rfl (by (try simp only [List.map_toArray, List.map_cons, List.map_nil]); first | done | rfl | (simp only [List.length_drop, List.length_take]; rfl)) ?_; (with_reducible refine (ref15_Valid.calls ((rd_T31 l0 x13_1).f0) ((rd_T31 l0 x13_1).f1) _ _ ((rd_T31 l0 x13_1).f2) _ _ ((rd_T31 l0 x13_1).f3) _ _ ((rd_T31 l0 x13_1).f4) _ _ ((rd_T31 l0 x13_1).f5) _ _ ((rd_T31 l0 x13_1).f6) ((rd_T31 l0 x13_1).f7) true _ ?side1 ?side2 ?side3 ?side4 ?side5 ?side6 ?side7 ?side8 ?side9 ?side10 A9.out).mono ?_); (case side1 => exact Kd.C_below HR131_2.out (hb3_ HB.out GE129.out GE130.out GE132.out)); (case side2 => exact HC131_2.out); (case side3 => exact Kd.C_below HR131_3.out (hb3_ HB.out GE129.out GE130.out GE132.out)); (case side4 => exact HC131_3.out); (case side5 => exact Kd.C_below HR131_4.out (hb3_ HB.out GE129.out GE130.out GE132.out)); (case side6 => exact HC131_4.out); (case side7 => exact Kd.C_below HR131_5.out (hb3_ HB.out GE129.out GE130.out GE132.out)); (case side8 => exact HC131_5.out); (case side9 => exact Kd.C_below HR131_6.out (hb3_ HB.out GE129.out GE130.out GE132.out)); (case side10 => exact HC131_6.out); rintro e w15 ⟨rfl, hb⟩; refine ⟨_, rfl, ?_⟩; have n0_ := Aside0.mk (blk_below (g := gb129) (o := .cells #[.int .i64 x130000_1, .int .i64 x130001_1, .slice none 0 0, .slice none 0 0, .slice none 0 0, .slice none 0 0, .slice none 0 0, .bool x130007_1] 31 (0, 0)) (bf1_ BK129.out NB129_132.out) hb); have n1_ := Aside0.mk (blk_below (g := gb130) (o := .cells #[.int .i64 0, .int .i64 1, .slice none 0 0, .slice none 0 0, .slice none 0 0, .slice none 0 0, .slice none 0 0, .bool false] 31 (0, 0)) (bf1_ BK130.out NB130_132.out) hb); have n2_ := Aside0.mk (blk_below (g := gb132) (o := .cells #[.int .i64 ((rd_T31 l0 x13_1).f0), .int .i64 ((rd_T31 l0 x13_1).f1), .slice A131_2 ((rd_T31 l0 x13_1).f2).length c131_2, .slice A131_3 ((rd_T31 l0 x13_1).f3).length c131_3, .slice A131_4 ((rd_T31 l0 x13_1).f4).length c131_4, .slice A131_5 ((rd_T31 l0 x13_1).f5).length c131_5, .slice A131_6 ((rd_T31 l0 x13_1).f6).length c131_6, .bool ((rd_T31 l0 x13_1).f7)] 31 (0, 0)) (by (with_reducible repeat (first | refine blk_drewN ?_ _ | refine blk_drew ?_ | refine blk_alloc ?_ _)); refine blk_put (cs := #[.int .i64 ((rd_T31 l0 x13_1).f0), .int .i64 ((rd_T31 l0 x13_1).f1), .slice A131_2 ((rd_T31 l0 x13_1).f2).length c131_2, .slice A131_3 ((rd_T31 l0 x13_1).f3).length c131_3, .slice A131_4 ((rd_T31 l0 x13_1).f4).length c131_4, .slice A131_5 ((rd_T31 l0 x13_1).f5).length c131_5, .slice A131_6 ((rd_T31 l0 x13_1).f6).length c131_6, .bool false]) ?_ 7 _ rfl; (with_reducible repeat (first | refine blk_drewN ?_ _ | refine blk_drew ?_ | refine blk_alloc ?_ _)); refine blk_put (cs := #[.int .i64 ((rd_T31 l0 x13_1).f0), .int .i64 ((rd_T31 l0 x13_1).f1), .slice A131_2 ((rd_T31 l0 x13_1).f2).length c131_2, .slice A131_3 ((rd_T31 l0 x13_1).f3).length c131_3, .slice A131_4 ((rd_T31 l0 x13_1).f4).length c131_4, .slice A131_5 ((rd_T31 l0 x13_1).f5).length c131_5, .slice none 0 0, .bool false]) ?_ 6 _ rfl; (with_reducible repeat (first | refine blk_drewN ?_ _ | refine blk_drew ?_ | refine blk_alloc ?_ _)); refine blk_put (cs := #[.int .i64 ((rd_T31 l0 x13_1).f0), .int .i64 ((rd_T31 l0 x13_1).f1), .slice A131_2 ((rd_T31 l0 x13_1).f2).length c131_2, .slice A131_3 ((rd_T31 l0 x13_1).f3).length c131_3, .slice A131_4 ((rd_T31 l0 x13_1).f4).length c131_4, .slice none 0 0, .slice none 0 0, .bool false]) ?_ 5 _ rfl; (with_reducible repeat (first | refine blk_drewN ?_ _ | refine blk_drew ?_ | refine blk_alloc ?_ _)); refine blk_put (cs := #[.int .i64 ((rd_T31 l0 x13_1).f0), .int .i64 ((rd_T31 l0 x13_1).f1), .slice A131_2 ((rd_T31 l0 x13_1).f2).length c131_2, .slice A131_3 ((rd_T31 l0 x13_1).f3).length c131_3, .slice none 0 0, .slice none 0 0, .slice none 0 0, .bool false]) ?_ 4 _ rfl; (with_reducible repeat (first | refine blk_drewN ?_ _ | refine blk_drew ?_ | refine blk_alloc ?_ _)); refine blk_put (cs := #[.int .i64 ((rd_T31 l0 x13_1).f0), .int .i64 ((rd_T31 l0 x13_1).f1), .slice A131_2 ((rd_T31 l0 x13_1).f2).length c131_2, .slice none 0 0, .slice none 0 0, .slice none 0 0, .slice none 0 0, .bool false]) ?_ 3 _ rfl; (with_reducible repeat (first | refine blk_drewN ?_ _ | refine blk_drew ?_ | refine blk_alloc ?_ _)); refine blk_put (cs := #[.int .i64 ((rd_T31 l0 x13_1).f0), .int .i64 ((rd_T31 l0 x13_1).f1), .slice none 0 0, .slice none 0 0, .slice none 0 0, .slice none 0 0, .slice none 0 0, .bool false]) ?_ 2 _ rfl; (with_reducible repeat (first | refine blk_drewN ?_ _ | refine blk_drew ?_ | refine blk_alloc ?_ _)); refine blk_put (cs := #[.int .i64 ((rd_T31 l0 x13_1).f0), .int .i64 0, .slice none 0 0, .slice none 0 0, .slice none 0 0, .slice none 0 0, .slice none 0 0, .bool false]) ?_ 1 _ rfl; (with_reducible repeat (first | refine blk_drewN ?_ _ | refine blk_drew ?_ | refine blk_alloc ?_ _)); refine blk_put (cs := #[.int .i64 0, .int .i64 0, .slice none 0 0, .slice none 0 0, .slice none 0 0, .slice none 0 0, .slice none 0 0, .bool false]) ?_ 0 _ rfl; (with_reducible repeat (first | refine blk_drewN ?_ _ | refine blk_drew ?_ | refine blk_alloc ?_ _)); exact BK132.out) hb); have n3_ := Aside0.mk (below_step (hb3_ HB.out GE129.out GE130.out GE132.out) hb); clear BK129 BK130 BK132 HB; have BK129 := n0_; have BK130 := n1_; have BK132 := n2_; have HB := n3_; clear n0_ n1_ n2_ n3_; (try clear hb); (try clear hb2); (try clear hk); (try clear hi)))
     go_roundg k1
     case measure => have := HK1.out; omega
     case rel => exact ⟨(wrap64 (x13_1 + 1)), (x130000_1), (x130001_1), (x130007_1), (by first | rfl | (simp; done) | (simp [*]; done)), H', ⟨by have := HK1.out; omega⟩, ⟨by (with_reducible repeat (first | refine blk_drewN ?_ _ | refine blk_drew ?_ | refine blk_alloc ?_ _)); exact BK129.out⟩, ⟨by (with_reducible repeat (first | refine blk_drewN ?_ _ | refine blk_drew ?_ | refine blk_alloc ?_ _)); exact BK130.out⟩, ⟨by repeat (first | (with_reducible first | exact HB.out | apply below_alloc | apply pw_below_drewN | apply below_drew1 | refine below_set ?_ GE129.out | refine below_set ?_ GE130.out | refine below_set ?_ GE132.out) | exact HB.out)⟩⟩
    ·
     replace c10 := Bool.eq_false_iff.mpr c10
     subst c10
     have H1 : (some (0, 0, ([] : List Int), ([] : List Int), ([] : List (S101)), ([] : List (S79)), ([] : List Int), false, 19)) = some (r1, r2, r3, r4, r5, r6, r7, r8, r9) := by rw [if_neg (show ¬ (false = true) by decide)] at H; exact H
     clear H
     have H := H1
     clear H1
     simp only [Option.some.injEq, Prod.mk.injEq] at H
     obtain ⟨rfl, rfl, rfl, rfl, rfl, rfl, rfl, rfl, rfl⟩ := H
     have p131 : 0 ≤ (x13_1 : Int) := od_
     have q131 : x13_1 < (l0.length : Int) := od_
     obtain ⟨ad131, A131_2, c131_2, A131_3, c131_3, A131_4, c131_4, A131_5, c131_5, A131_6, c131_6, e131, hx131_0, hx131_1, hx131_2, hx131_3, hx131_4, hx131_5, hx131_6, hx131_7, hl131_2, hi131_2, hl131_3, hi131_3, hl131_4, hi131_4, hl131_5, hi131_5, hl131_6, hi131_6⟩ := at_T31 HR0.out x13_1 p131 q131
     cases e131
     replace hx131_0 := (HB.out.cell (World.block_lt_of_cell? w _ hx131_0)).trans hx131_0
     replace hx131_1 := (HB.out.cell (World.block_lt_of_cell? w _ hx131_1)).trans hx131_1
     replace hx131_2 := (HB.out.cell (World.block_lt_of_cell? w _ hx131_2)).trans hx131_2
     replace hx131_3 := (HB.out.cell (World.block_lt_of_cell? w _ hx131_3)).trans hx131_3
     replace hx131_4 := (HB.out.cell (World.block_lt_of_cell? w _ hx131_4)).trans hx131_4
     replace hx131_5 := (HB.out.cell (World.block_lt_of_cell? w _ hx131_5)).trans hx131_5
     replace hx131_6 := (HB.out.cell (World.block_lt_of_cell? w _ hx131_6)).trans hx131_6
     replace hx131_7 := (HB.out.cell (World.block_lt_of_cell? w _ hx131_7)).trans hx131_7
     have HR131_2 := Aside0.mk hi131_2
     have HC131_2 := Aside0.mk hl131_2
     clear hi131_2 hl131_2
     have HR131_3 := Aside0.mk hi131_3
     have HC131_3 := Aside0.mk hl131_3
     clear hi131_3 hl131_3
     have HR131_4 := Aside0.mk hi131_4
     have HC131_4 := Aside0.mk hl131_4
     clear hi131_4 hl131_4
     have HR131_5 := Aside0.mk hi131_5
     have HC131_5 := Aside0.mk hl131_5
     clear hi131_5 hl131_5
     have HR131_6 := Aside0.mk hi131_6
     have HC131_6 := Aside0.mk hl131_6
     clear hi131_6 hl131_6
     replace p131 := eq_true p131
     replace q131 := eq_true q131
     go_wp2_with (first | ((with_reducible refine gate_dst (N := 6) rfl ?_); refine box_event ?hg (N := 6) ?hd (cs := #[.int .i64 0, .int .i64 0, .slice none 0 0, .slice none 0 0, .slice none 0 0, .slice none 0 0, .slice none 0 0, .bool false]) (t := 31) ?hr ?_; (case hd => rfl); (case hg => rfl); (case hr => first | (go_simp; done) | (go_simp; rfl)); intro gb132 hg w16 hbox hb; have n0_ := Aside0.mk (blk_below (g := gb129) (o := .cells #[.int .i64 x130000_1, .int .i64 x130001_1, .slice none 0 0, .slice none 0 0, .slice none 0 0, .slice none 0 0, .slice none 0 0, .bool x130007_1] 31 (0, 0)) (bk_ BK129.out) hb); have n1_ := Aside0.mk (blk_below (g := gb130) (o := .cells #[.int .i64 0, .int .i64 1, .slice none 0 0, .slice none 0 0, .slice none 0 0, .slice none 0 0, .slice none 0 0, .bool false] 31 (0, 0)) (bk_ BK130.out) hb); have n2_ := Aside0.mk (below_step (hb2_ HB.out GE129.out GE130.out) hb); have n3_ := Aside0.mk (hbox); have n4_ := Aside0.mk ((by rw [hg]; exact (below_size (hb2_ HB.out GE129.out GE130.out)) : w.heap.size ≤ gb132)); have n5_ := Aside0.mk ((by rw [hg]; exact (below_size (hb2_ HB.out GE129.out GE130.out)) : w.heap.size ≤ gb132)); have n6_ := Aside0.mk ((by rw [hg]; exact Nat.ne_of_lt (blk_lt (g := gb129) (o := .cells #[.int .i64 x130000_1, .int .i64 x130001_1, .slice none 0 0, .slice none 0 0, .slice none 0 0, .slice none 0 0, .slice none 0 0, .bool x130007_1] 31 (0, 0)) (bk_ BK129.out)) : gb129 ≠ gb132)); have n7_ := Aside0.mk ((by rw [hg]; exact Nat.ne_of_gt (blk_lt (g := gb129) (o := .cells #[.int .i64 x130000_1, .int .i64 x130001_1, .slice none 0 0, .slice none 0 0, .slice none 0 0, .slice none 0 0, .slice none 0 0, .bool x130007_1] 31 (0, 0)) (bk_ BK129.out)) : gb132 ≠ gb129)); have n8_ := Aside0.mk ((by rw [hg]; exact Nat.ne_of_lt (blk_lt (g := gb130) (o := .cells #[.int .i64 0, .int .i64 1, .slice none 0 0, .slice none 0 0, .slice none 0 0, .slice none 0 0, .slice none 0 0, .bool false] 31 (0, 0)) (bk_ BK130.out)) : gb130 ≠ gb132)); have n9_ := Aside0.mk ((by rw [hg]; exact Nat.ne_of_gt (blk_lt (g := gb130) (o := .cells #[.int .i64 0, .int .i64 1, .slice none 0 0, .slice none 0 0, .slice none 0 0, .slice none 0 0, .slice none 0 0, .bool false] 31 (0, 0)) (bk_ BK130.out)) : gb132 ≠ gb130)); clear BK129 BK130 HB; have BK129 := n0_; have BK130 := n1_; have HB := n2_; have BK132 := n3_; have GW132 := n4_; have GE132 := n5_; have NB129_132 := n6_; have NB132_129 := n7_; have NB130_132 := n8_; have NB132_130 := n9_; clear n0_ n1_ n2_ n3_ n4_ n5_ n6_ n7_ n8_ n9_ hb hbox hg; have hnb17 := NB132_129.out; have hnc17 := NB129_132.out; have hnb18 := NB132_130.out; have hnc18 := NB130_132.out; have hcz19_0 : w16.cell? ⟨gb132, 0, none⟩ = some (.int .i64 0) := (blk_cell BK132.out 0).trans rfl; have hcz19_1 : w16.cell? ⟨gb132, 1, none⟩ = some (.int .i64 0) := (blk_cell BK132.out 1).trans rfl; have hcz19_2 : w16.cell? ⟨gb132, 2, none⟩ = some (.slice none 0 0) := (blk_cell BK132.out 2).trans rfl; have hcz19_3 : w16.cell? ⟨gb132, 3, none⟩ = some (.slice none 0 0) := (blk_cell BK132.out 3).trans rfl; have hcz19_4 : w16.cell? ⟨gb132, 4, none⟩ = some (.slice none 0 0) := (blk_cell BK132.out 4).trans rfl; have hcz19_5 : w16.cell? ⟨gb132, 5, none⟩ = some (.slice none 0 0) := (blk_cell BK132.out 5).trans rfl; have hcz19_6 : w16.cell? ⟨gb132, 6, none⟩ = some (.slice none 0 0) := (blk_cell BK132.out 6).trans rfl; have hcz19_7 : w16.cell? ⟨gb132, 7, none⟩ = some (.bool false) := (blk_cell BK132.out 7).trans rfl; have hfz19_0 := blk_frozen BK132.out 0; have hfz19_1 := blk_frozen BK132.out 1; have hfz19_2 := blk_frozen BK132.out 2; have hfz19_3 := blk_frozen BK132.out 3; have hfz19_4 := blk_frozen BK132.out 4; have hfz19_5 := blk_frozen BK132.out 5; have hfz19_6 := blk_frozen BK132.out 6; have hfz19_7 := blk_frozen BK132.out 7) | ((with_reducible refine gate_callee (f := 27) rfl ?_); refine goesL_ (some 18) rfl rfl Try.func27 (by kernel_rfl) rfl #[.agg #[.int .i64 ((rd_T31 l0 x13_1).f0), .int .i64 ((rd_T31 l0 x13_1).f1), .slice A131_2 ((rd_T31 l0 x13_1).f2).length c131_2, .slice A131_3 ((rd_T31 l0 x13_1).f3).length c131_3, .slice A131_4 ((rd_T31 l0 x13_1).f4).length c131_4, .slice A131_5 ((rd_T31 l0 x13_1).f5).length c131_5, .slice A131_6 ((rd_T31 l0 x13_1).f6).length c131_6, .bool ((rd_T31 l0 x13_1).f7)]] rfl (by (try simp only [List.map_toArray, List.map_cons, List.map_nil]); first | done | rfl | (simp only [List.length_drop, List.length_take]; rfl)) ?_; (with_reducible refine (ref15_Valid.calls ((rd_T31 l0 x13_1).f0) ((rd_T31 l0 x13_1).f1) _ _ ((rd_T31 l0 x13_1).f2) _ _ ((rd_T31 l0 x13_1).f3) _ _ ((rd_T31 l0 x13_1).f4) _ _ ((rd_T31 l0 x13_1).f5) _ _ ((rd_T31 l0 x13_1).f6) ((rd_T31 l0 x13_1).f7) false _ ?side1 ?side2 ?side3 ?side4 ?side5 ?side6 ?side7 ?side8 ?side9 ?side10 A9.out).mono ?_); (case side1 => exact Kd.C_below HR131_2.out (hb3_ HB.out GE129.out GE130.out GE132.out)); (case side2 => exact HC131_2.out); (case side3 => exact Kd.C_below HR131_3.out (hb3_ HB.out GE129.out GE130.out GE132.out)); (case side4 => exact HC131_3.out); (case side5 => exact Kd.C_below HR131_4.out (hb3_ HB.out GE129.out GE130.out GE132.out)); (case side6 => exact HC131_4.out); (case side7 => exact Kd.C_below HR131_5.out (hb3_ HB.out GE129.out GE130.out GE132.out)); (case side8 => exact HC131_5.out); (case side9 => exact Kd.C_below HR131_6.out (hb3_ HB.out GE129.out GE130.out GE132.out)); (case side10 => exact HC131_6.out); rintro e w20 ⟨rfl, hb⟩; refine ⟨_, rfl, ?_⟩; have n0_ := Aside0.mk (blk_below (g := gb129) (o := .cells #[.int .i64 x130000_1, .int .i64 x130001_1, .slice none 0 0, .slice none 0 0, .slice none 0 0, .slice none 0 0, .slice none 0 0, .bool x130007_1] 31 (0, 0)) (bf1_ BK129.out NB129_132.out) hb); have n1_ := Aside0.mk (blk_below (g := gb130) (o := .cells #[.int .i64 0, .int .i64 1, .slice none 0 0, .slice none 0 0, .slice none 0 0, .slice none 0 0, .slice none 0 0, .bool false] 31 (0, 0)) (bf1_ BK130.out NB130_132.out) hb); have n2_ := Aside0.mk (blk_below (g := gb132) (o := .cells #[.int .i64 ((rd_T31 l0 x13_1).f0), .int .i64 ((rd_T31 l0 x13_1).f1), .slice A131_2 ((rd_T31 l0 x13_1).f2).length c131_2, .slice A131_3 ((rd_T31 l0 x13_1).f3).length c131_3, .slice A131_4 ((rd_T31 l0 x13_1).f4).length c131_4, .slice A131_5 ((rd_T31 l0 x13_1).f5).length c131_5, .slice A131_6 ((rd_T31 l0 x13_1).f6).length c131_6, .bool ((rd_T31 l0 x13_1).f7)] 31 (0, 0)) (by (with_reducible repeat (first | refine blk_drewN ?_ _ | refine blk_drew ?_ | refine blk_alloc ?_ _)); refine blk_put (cs := #[.int .i64 ((rd_T31 l0 x13_1).f0), .int .i64 ((rd_T31 l0 x13_1).f1), .slice A131_2 ((rd_T31 l0 x13_1).f2).length c131_2, .slice A131_3 ((rd_T31 l0 x13_1).f3).length c131_3, .slice A131_4 ((rd_T31 l0 x13_1).f4).length c131_4, .slice A131_5 ((rd_T31 l0 x13_1).f5).length c131_5, .slice A131_6 ((rd_T31 l0 x13_1).f6).length c131_6, .bool false]) ?_ 7 _ rfl; (with_reducible repeat (first | refine blk_drewN ?_ _ | refine blk_drew ?_ | refine blk_alloc ?_ _)); refine blk_put (cs := #[.int .i64 ((rd_T31 l0 x13_1).f0), .int .i64 ((rd_T31 l0 x13_1).f1), .slice A131_2 ((rd_T31 l0 x13_1).f2).length c131_2, .slice A131_3 ((rd_T31 l0 x13_1).f3).length c131_3, .slice A131_4 ((rd_T31 l0 x13_1).f4).length c131_4, .slice A131_5 ((rd_T31 l0 x13_1).f5).length c131_5, .slice none 0 0, .bool false]) ?_ 6 _ rfl; (with_reducible repeat (first | refine blk_drewN ?_ _ | refine blk_drew ?_ | refine blk_alloc ?_ _)); refine blk_put (cs := #[.int .i64 ((rd_T31 l0 x13_1).f0), .int .i64 ((rd_T31 l0 x13_1).f1), .slice A131_2 ((rd_T31 l0 x13_1).f2).length c131_2, .slice A131_3 ((rd_T31 l0 x13_1).f3).length c131_3, .slice A131_4 ((rd_T31 l0 x13_1).f4).length c131_4, .slice none 0 0, .slice none 0 0, .bool false]) ?_ 5 _ rfl; (with_reducible repeat (first | refine blk_drewN ?_ _ | refine blk_drew ?_ | refine blk_alloc ?_ _)); refine blk_put (cs := #[.int .i64 ((rd_T31 l0 x13_1).f0), .int .i64 ((rd_T31 l0 x13_1).f1), .slice A131_2 ((rd_T31 l0 x13_1).f2).length c131_2, .slice A131_3 ((rd_T31 l0 x13_1).f3).length c131_3, .slice none 0 0, .slice none 0 0, .slice none 0 0, .bool false]) ?_ 4 _ rfl; (with_reducible repeat (first | refine blk_drewN ?_ _ | refine blk_drew ?_ | refine blk_alloc ?_ _)); refine blk_put (cs := #[.int .i64 ((rd_T31 l0 x13_1).f0), .int .i64 ((rd_T31 l0 x13_1).f1), .slice A131_2 ((rd_T31 l0 x13_1).f2).length c131_2, .slice none 0 0, .slice none 0 0, .slice none 0 0, .slice none 0 0, .bool false]) ?_ 3 _ rfl; (with_reducible repeat (first | refine blk_drewN ?_ _ | refine blk_drew ?_ | refine blk_alloc ?_ _)); refine blk_put (cs := #[.int .i64 ((rd_T31 l0 x13_1).f0), .int .i64 ((rd_T31 l0 x13_1).f1), .slice none 0 0, .slice none 0 0, .slice none 0 0, .slice none 0 0, .slice none 0 0, .bool false]) ?_ 2 _ rfl; (with_reducible repeat (first | refine blk_drewN ?_ _ | refine blk_drew ?_ | refine blk_alloc ?_ _)); refine blk_put (cs := #[.int .i64 ((rd_T31 l0 x13_1).f0), .int .i64 0, .slice none 0 0, .slice none 0 0, .slice none 0 0, .slice none 0 0, .slice none 0 0, .bool false]) ?_ 1 _ rfl; (with_reducible repeat (first | refine blk_drewN ?_ _ | refine blk_drew ?_ | refine blk_alloc ?_ _)); refine blk_put (cs := #[.int .i64 0, .int .i64 0, .slice none 0 0, .slice none 0 0, .slice none 0 0, .slice none 0 0, .slice none 0 0, .bool false]) ?_ 0 _ rfl; (with_reducible repeat (first | refine blk_drewN ?_ _ | refine blk_drew ?_ | refine blk_alloc ?_ _)); exact BK132.out) hb); have n3_ := Aside0.mk (below_step (hb3_ HB.out GE129.out GE130.out GE132.out) hb); clear BK129 BK130 BK132 HB; have BK129 := n0_; have BK130 := n1_; have BK132 := n2_; have HB := n3_; clear n0_ n1_ n2_ n3_; (try clear hb); (try clear hb2); (try clear hk); (try clear hi); have hnb21 := NB129_130.out; have hnc21 := NB130_129.out; have hcz22_0 : w20.cell? ⟨gb129, 0, none⟩ = some (.int .i64 x130000_1) := (blk_cell BK129.out 0).trans rfl; have hcz22_1 : w20.cell? ⟨gb129, 1, none⟩ = some (.int .i64 x130001_1) := (blk_cell BK129.out 1).trans rfl; have hcz22_2 : w20.cell? ⟨gb129, 2, none⟩ = some (.slice none 0 0) := (blk_cell BK129.out 2).trans rfl; have hcz22_3 : w20.cell? ⟨gb129, 3, none⟩ = some (.slice none 0 0) := (blk_cell BK129.out 3).trans rfl; have hcz22_4 : w20.cell? ⟨gb129, 4, none⟩ = some (.slice none 0 0) := (blk_cell BK129.out 4).trans rfl; have hcz22_5 : w20.cell? ⟨gb129, 5, none⟩ = some (.slice none 0 0) := (blk_cell BK129.out 5).trans rfl; have hcz22_6 : w20.cell? ⟨gb129, 6, none⟩ = some (.slice none 0 0) := (blk_cell BK129.out 6).trans rfl; have hcz22_7 : w20.cell? ⟨gb129, 7, none⟩ = some (.bool x130007_1) := (blk_cell BK129.out 7).trans rfl; have hfz22_0 := blk_frozen BK129.out 0; have hfz22_1 := blk_frozen BK129.out 1; have hfz22_2 := blk_frozen BK129.out 2; have hfz22_3 := blk_frozen BK129.out 3; have hfz22_4 := blk_frozen BK129.out 4; have hfz22_5 := blk_frozen BK129.out 5; have hfz22_6 := blk_frozen BK129.out 6; have hfz22_7 := blk_frozen BK129.out 7))
     refine bodyPost_ret (results_ct rfl _ _ gb129 31 #[.int .i64 0, .int .i64 0, .slice none 0 0, .slice none 0 0, .slice none 0 0, .slice none 0 0, .slice none 0 0, .bool false] (0, 0) _ rfl (by (with_reducible repeat (first | refine blk_drewN ?_ _ | refine blk_drew ?_ | refine blk_alloc ?_ _)); refine blk_put (cs := #[.int .i64 0, .int .i64 0, .slice none 0 0, .slice none 0 0, .slice none 0 0, .slice none 0 0, .slice none 0 0, .bool x130007_1]) ?_ 7 _ rfl; (with_reducible repeat (first | refine blk_drewN ?_ _ | refine blk_drew ?_ | refine blk_alloc ?_ _)); refine blk_put (cs := #[.int .i64 0, .int .i64 0, .slice none 0 0, .slice none 0 0, .slice none 0 0, .slice none 0 0, .slice none 0 0, .bool x130007_1]) ?_ 6 _ rfl; (with_reducible repeat (first | refine blk_drewN ?_ _ | refine blk_drew ?_ | refine blk_alloc ?_ _)); refine blk_put (cs := #[.int .i64 0, .int .i64 0, .slice none 0 0, .slice none 0 0, .slice none 0 0, .slice none 0 0, .slice none 0 0, .bool x130007_1]) ?_ 5 _ rfl; (with_reducible repeat (first | refine blk_drewN ?_ _ | refine blk_drew ?_ | refine blk_alloc ?_ _)); refine blk_put (cs := #[.int .i64 0, .int .i64 0, .slice none 0 0, .slice none 0 0, .slice none 0 0, .slice none 0 0, .slice none 0 0, .bool x130007_1]) ?_ 4 _ rfl; (with_reducible repeat (first | refine blk_drewN ?_ _ | refine blk_drew ?_ | refine blk_alloc ?_ _)); refine blk_put (cs := #[.int .i64 0, .int .i64 0, .slice none 0 0, .slice none 0 0, .slice none 0 0, .slice none 0 0, .slice none 0 0, .bool x130007_1]) ?_ 3 _ rfl; (with_reducible repeat (first | refine blk_drewN ?_ _ | refine blk_drew ?_ | refine blk_alloc ?_ _)); refine blk_put (cs := #[.int .i64 0, .int .i64 0, .slice none 0 0, .slice none 0 0, .slice none 0 0, .slice none 0 0, .slice none 0 0, .bool x130007_1]) ?_ 2 _ rfl; (with_reducible repeat (first | refine blk_drewN ?_ _ | refine blk_drew ?_ | refine blk_alloc ?_ _)); refine blk_put (cs := #[.int .i64 0, .int .i64 x130001_1, .slice none 0 0, .slice none 0 0, .slice none 0 0, .slice none 0 0, .slice none 0 0, .bool x130007_1]) ?_ 1 _ rfl; (with_reducible repeat (first | refine blk_drewN ?_ _ | refine blk_drew ?_ | refine blk_alloc ?_ _)); refine blk_put (cs := #[.int .i64 x130000_1, .int .i64 x130001_1, .slice none 0 0, .slice none 0 0, .slice none 0 0, .slice none 0 0, .slice none 0 0, .bool x130007_1]) ?_ 0 _ rfl; (with_reducible repeat (first | refine blk_drewN ?_ _ | refine blk_drew ?_ | refine blk_alloc ?_ _)); exact BK129.out) Try.underlying31 rfl (by kernel_rfl)) rfl ?_
     exact ⟨_, _, _, _, _, by first | rfl | (simp [errW_none, errW_some] <;> rfl) | (simp [*, errW_none, errW_some] <;> rfl), by first | exact Kd.R_nil _ _ _ _ _ | exact Kd.N_nil _ _ _ _ _ | exact Kd.V_nil _ _ _ _ _ | exact Kd.Q_nil _ _ _ _ _ | exact Kd.S_nil _ _ _ _ _, by first | exact Kd.R_nil _ _ _ _ _ | exact Kd.N_nil _ _ _ _ _ | exact Kd.V_nil _ _ _ _ _ | exact Kd.Q_nil _ _ _ _ _ | exact Kd.S_nil _ _ _ _ _, by first | exact Kd.R_nil _ _ _ _ _ | exact Kd.N_nil _ _ _ _ _ | exact Kd.V_nil _ _ _ _ _ | exact Kd.Q_nil _ _ _ _ _ | exact Kd.S_nil _ _ _ _ _, by first | exact Kd.R_nil _ _ _ _ _ | exact Kd.N_nil _ _ _ _ _ | exact Kd.V_nil _ _ _ _ _ | exact Kd.Q_nil _ _ _ _ _ | exact Kd.S_nil _ _ _ _ _, by first | exact Kd.R_nil _ _ _ _ _ | exact Kd.N_nil _ _ _ _ _ | exact Kd.V_nil _ _ _ _ _ | exact Kd.Q_nil _ _ _ _ _ | exact Kd.S_nil _ _ _ _ _, by repeat (first | (with_reducible first | exact HB.out | apply below_alloc | apply pw_below_drewN | apply below_drew1 | refine below_set ?_ GE129.out | refine below_set ?_ GE130.out | refine below_set ?_ GE132.out) | exact HB.out)⟩
   ·
    rw [if_neg c6] at H
    have c6b0 : decide (x13_1 < (l0.length : Int)) = false := decide_eq_false c6
    clear c6
    have H' := Aside0.mk H
    clear H
    go_wp2
    go_loopg [24] k1 (fun kq v24 w' => ∃ (x24_2 : Int) (x130000_2 : Int) (x130001_2 : Int) (x130007_2 : Bool) (x131000_2 : Int) (x131001_2 : Int) (x131002_2 : List Int) (x131003_2 : List Int) (u131002 : Value) (u131003 : Value), v24 = .int .i64 x24_2 ∧ Aside0 (ref16_Lay.l1 kq l0 (l0.length : Int) x24_2 x131000_2 x131001_2 x131002_2 x131003_2 false = some (r1, r2, r3, r4, r5, r6, r7, r8, r9)) ∧ Aside0 (kq ≤ k1) ∧ Aside0 (Kd.R (Kd.int .u8) 5 w' w.heap.size (fun _ => True) u131002 x131002_2) ∧ Aside0 (Kd.R (Kd.int .i64) 3 w' w.heap.size (fun _ => True) u131003 x131003_2) ∧ Aside0 (w'.heap[gb129]? = some (.cells #[.int .i64 x130000_2, .int .i64 x130001_2, (.slice none 0 0), (.slice none 0 0), (.slice none 0 0), (.slice none 0 0), (.slice none 0 0), .bool x130007_2] 31 (0, 0))) ∧ Aside0 (w'.heap[gb130]? = some (.cells #[.int .i64 x131000_2, .int .i64 x131001_2, u131002, u131003, (.slice none 0 0), (.slice none 0 0), (.slice none 0 0), .bool false] 31 (0, 0))) ∧ Aside0 (Below w.heap.size w w'))
    case atStart => exact ⟨(0), (x130000_1), (x130001_1), (x130007_1), (0), (1), (([] : List Int)), (([] : List Int)), (.slice none 0 0), (.slice none 0 0), (by first | rfl | (simp; done) | (simp [*]; done)), H', ⟨Nat.le_refl _⟩, ⟨by first | exact Kd.R_nil _ _ _ _ _ | exact Kd.N_nil _ _ _ _ _ | exact Kd.V_nil _ _ _ _ _ | exact Kd.Q_nil _ _ _ _ _ | exact Kd.S_nil _ _ _ _ _⟩, ⟨by first | exact Kd.R_nil _ _ _ _ _ | exact Kd.N_nil _ _ _ _ _ | exact Kd.V_nil _ _ _ _ _ | exact Kd.Q_nil _ _ _ _ _ | exact Kd.S_nil _ _ _ _ _⟩, ⟨by (with_reducible repeat (first | refine blk_drewN ?_ _ | refine blk_drew ?_ | refine blk_alloc ?_ _)); exact BK129.out⟩, ⟨by (with_reducible repeat (first | refine blk_drewN ?_ _ | refine blk_drew ?_ | refine blk_alloc ?_ _)); exact BK130.out⟩, ⟨by repeat (first | (with_reducible first | exact HB.out | apply below_alloc | apply pw_below_drewN | apply below_drew1 | refine below_set ?_ GE129.out | refine below_set ?_ GE130.out) | exact HB.out)⟩⟩
    case round =>
     clear H'
     try clear c1
     try clear p1
     try clear q1
     try clear hx1
     try clear c2
     try clear p2
     try clear c4
     try clear c6
     try clear c6b0
     try clear p6
     try clear c7
     try clear c7b0
     try clear c8
     try clear c8b0
     try clear c10
     try clear c12
     try clear c13
     try clear p13
     try clear q13
     try clear hx13
     try clear c17
     try clear c18
     try clear c21
     try clear hcz14_0
     try clear hcz14_1
     try clear hcz14_2
     try clear hcz14_3
     try clear hcz14_4
     try clear hcz14_5
     try clear hcz14_6
     try clear hcz14_7
     try clear hcz19_0
     try clear hcz19_1
     try clear hcz19_2
     try clear hcz19_3
     try clear hcz19_4
     try clear hcz19_5
     try clear hcz19_6
     try clear hcz19_7
     try clear hcz22_0
     try clear hcz22_1
     try clear hcz22_2
     try clear hcz22_3
     try clear hcz22_4
     try clear hcz22_5
     try clear hcz22_6
     try clear hcz22_7
     try clear hcz5_0
     try clear hcz5_1
     try clear hcz5_2
     try clear hcz5_3
     try clear hcz5_4
     try clear hcz5_5
     try clear hcz5_6
     try clear hcz5_7
     try clear hfz14_0
     try clear hfz14_1
     try clear hfz14_2
     try clear hfz14_3
     try clear hfz14_4
     try clear hfz14_5
     try clear hfz14_6
     try clear hfz14_7
     try clear hfz19_0
     try clear hfz19_1
     try clear hfz19_2
     try clear hfz19_3
     try clear hfz19_4
     try clear hfz19_5
     try clear hfz19_6
     try clear hfz19_7
     try clear hfz22_0
     try clear hfz22_1
     try clear hfz22_2
     try clear hfz22_3
     try clear hfz22_4
     try clear hfz22_5
     try clear hfz22_6
     try clear hfz22_7
     try clear hfz5_0
     try clear hfz5_1
     try clear hfz5_2
     try clear hfz5_3
     try clear hfz5_4
     try clear hfz5_5
     try clear hfz5_6
     try clear hfz5_7
     try clear hx131_0
     try clear hx131_1
     try clear hx131_2
     try clear hx131_3
     try clear hx131_4
     try clear hx131_5
     try clear hx131_6
     try clear hx131_7
     try clear p131
     try clear p2
     try clear q131
     obtain ⟨x24_2, x130000_2, x130001_2, x130007_2, x131000_2, x131001_2, x131002_2, x131003_2, u131002, u131003, rfl, HA, HK2, HO_131002, HO_131003, BK129, BK130, HB⟩ := hrel
     cases gk with
     | zero => exact absurd HA.out (by simp [ref16_Lay.l1])
     | succ k2 =>
      have H := HA.out
      clear HA
      simp only [ref16_Lay.l1] at H
      by_cases c23 : x24_2 < (l0.length : Int)
      ·
       rw [if_pos c23] at H
       have c23b0 : decide (x24_2 < (l0.length : Int)) = true := decide_eq_true c23
       clear c23
       by_cases c24 : 0 ≤ x24_2
       rotate_left
       ·
        rw [if_neg c24] at H
        exact absurd H (by simp)
       rw [if_pos c24] at H
       have c24b0 : decide (0 ≤ x24_2) = true := decide_eq_true c24
       clear c24
       by_cases c25 : x24_2 < (l0.length : Int)
       rotate_left
       ·
        rw [if_neg c25] at H
        exact absurd H (by simp)
       rw [if_pos c25] at H
       have c25b0 : decide (x24_2 < (l0.length : Int)) = true := decide_eq_true c25
       clear c25
       replace H := Option.bind_eq_some_iff.mp H
       obtain ⟨t136, A260, H⟩ := H
       replace H : (if (wrap64 (t136 + ((rd_T31 l0 x24_2).f0))) > 1024 then (some (0, 0, ([] : List Int), ([] : List Int), ([] : List (S101)), ([] : List (S79)), ([] : List Int), false, 4)) else (if x131003_2.length < 17592186044416 then (ref16_Lay.l2 k2 t136 l0 (l0.length : Int) x24_2 x131000_2 x131001_2 x131002_2 (x131003_2 ++ [t136]) false ((rd_T31 l0 x24_2).f0) ((rd_T31 l0 x24_2).f1) ((rd_T31 l0 x24_2).f2) ((rd_T31 l0 x24_2).f3) ((rd_T31 l0 x24_2).f4) ((rd_T31 l0 x24_2).f5) ((rd_T31 l0 x24_2).f6) ((rd_T31 l0 x24_2).f7)) else (none))) = some (r1, r2, r3, r4, r5, r6, r7, r8, r9) := H
       have A26 := Aside0.mk A260
       clear A260
       by_cases c27 : (wrap64 (t136 + ((rd_T31 l0 x24_2).f0))) > 1024
       ·
        rw [if_pos c27] at H
        have c27b0 : decide (1024 < (wrap64 (t136 + ((rd_T31 l0 x24_2).f0)))) = true := decide_eq_true c27
        clear c27
        simp only [Option.some.injEq, Prod.mk.injEq] at H
        obtain ⟨rfl, rfl, rfl, rfl, rfl, rfl, rfl, rfl, rfl⟩ := H
        have p134 : 0 ≤ (x24_2 : Int) := od_
        have q134 : x24_2 < (l0.length : Int) := od_
        obtain ⟨ad134, A134_2, c134_2, A134_3, c134_3, A134_4, c134_4, A134_5, c134_5, A134_6, c134_6, e134, hx134_0, hx134_1, hx134_2, hx134_3, hx134_4, hx134_5, hx134_6, hx134_7, hl134_2, hi134_2, hl134_3, hi134_3, hl134_4, hi134_4, hl134_5, hi134_5, hl134_6, hi134_6⟩ := at_T31 HR0.out x24_2 p134 q134
        cases e134
        replace hx134_0 := (HB.out.cell (World.block_lt_of_cell? w _ hx134_0)).trans hx134_0
        replace hx134_1 := (HB.out.cell (World.block_lt_of_cell? w _ hx134_1)).trans hx134_1
        replace hx134_2 := (HB.out.cell (World.block_lt_of_cell? w _ hx134_2)).trans hx134_2
        replace hx134_3 := (HB.out.cell (World.block_lt_of_cell? w _ hx134_3)).trans hx134_3
        replace hx134_4 := (HB.out.cell (World.block_lt_of_cell? w _ hx134_4)).trans hx134_4
        replace hx134_5 := (HB.out.cell (World.block_lt_of_cell? w _ hx134_5)).trans hx134_5
        replace hx134_6 := (HB.out.cell (World.block_lt_of_cell? w _ hx134_6)).trans hx134_6
        replace hx134_7 := (HB.out.cell (World.block_lt_of_cell? w _ hx134_7)).trans hx134_7
        have HR134_2 := Aside0.mk hi134_2
        have HC134_2 := Aside0.mk hl134_2
        clear hi134_2 hl134_2
        have HR134_3 := Aside0.mk hi134_3
        have HC134_3 := Aside0.mk hl134_3
        clear hi134_3 hl134_3
        have HR134_4 := Aside0.mk hi134_4
        have HC134_4 := Aside0.mk hl134_4
        clear hi134_4 hl134_4
        have HR134_5 := Aside0.mk hi134_5
        have HC134_5 := Aside0.mk hl134_5
        clear hi134_5 hl134_5
        have HR134_6 := Aside0.mk hi134_6
        have HC134_6 := Aside0.mk hl134_6
        clear hi134_6 hl134_6
        replace p134 := eq_true p134
        replace q134 := eq_true q134
        go_wp2_with (first | ((with_reducible refine gate_dst (N := 8) rfl ?_); refine box_event ?hg (N := 8) ?hd (cs := #[.int .i64 0, .int .i64 0, .slice none 0 0, .slice none 0 0, .slice none 0 0, .slice none 0 0, .slice none 0 0, .bool false]) (t := 31) ?hr ?_; (case hd => rfl); (case hg => rfl); (case hr => first | (go_simp; done) | (go_simp; rfl)); intro gb135 hg w28 hbox hb; have n0_ := Aside0.mk (Kd.R_below (kR_ HO_131002.out) hb); have n1_ := Aside0.mk (Kd.R_below (kR_ HO_131003.out) hb); have n2_ := Aside0.mk (blk_below (g := gb129) (o := .cells #[.int .i64 x130000_2, .int .i64 x130001_2, .slice none 0 0, .slice none 0 0, .slice none 0 0, .slice none 0 0, .slice none 0 0, .bool x130007_2] 31 (0, 0)) (bk_ BK129.out) hb); have n3_ := Aside0.mk (blk_below (g := gb130) (o := .cells #[.int .i64 x131000_2, .int .i64 x131001_2, u131002, u131003, .slice none 0 0, .slice none 0 0, .slice none 0 0, .bool false] 31 (0, 0)) (bk_ BK130.out) hb); have n4_ := Aside0.mk (below_step (hb2_ HB.out GE129.out GE130.out) hb); have n5_ := Aside0.mk (hbox); have n6_ := Aside0.mk ((by rw [hg]; exact (below_size (hb2_ HB.out GE129.out GE130.out)) : w.heap.size ≤ gb135)); have n7_ := Aside0.mk ((by rw [hg]; exact (below_size (hb2_ HB.out GE129.out GE130.out)) : w.heap.size ≤ gb135)); have n8_ := Aside0.mk ((by rw [hg]; exact Nat.ne_of_lt (blk_lt (g := gb129) (o := .cells #[.int .i64 x130000_2, .int .i64 x130001_2, .slice none 0 0, .slice none 0 0, .slice none 0 0, .slice none 0 0, .slice none 0 0, .bool x130007_2] 31 (0, 0)) (bk_ BK129.out)) : gb129 ≠ gb135)); have n9_ := Aside0.mk ((by rw [hg]; exact Nat.ne_of_gt (blk_lt (g := gb129) (o := .cells #[.int .i64 x130000_2, .int .i64 x130001_2, .slice none 0 0, .slice none 0 0, .slice none 0 0, .slice none 0 0, .slice none 0 0, .bool x130007_2] 31 (0, 0)) (bk_ BK129.out)) : gb135 ≠ gb129)); have n10_ := Aside0.mk ((by rw [hg]; exact Nat.ne_of_lt (blk_lt (g := gb130) (o := .cells #[.int .i64 x131000_2, .int .i64 x131001_2, u131002, u131003, .slice none 0 0, .slice none 0 0, .slice none 0 0, .bool false] 31 (0, 0)) (bk_ BK130.out)) : gb130 ≠ gb135)); have n11_ := Aside0.mk ((by rw [hg]; exact Nat.ne_of_gt (blk_lt (g := gb130) (o := .cells #[.int .i64 x131000_2, .int .i64 x131001_2, u131002, u131003, .slice none 0 0, .slice none 0 0, .slice none 0 0, .bool false] 31 (0, 0)) (bk_ BK130.out)) : gb135 ≠ gb130)); clear HO_131002 HO_131003 BK129 BK130 HB; have HO_131002 := n0_; have HO_131003 := n1_; have BK129 := n2_; have BK130 := n3_; have HB := n4_; have BK135 := n5_; have GW135 := n6_; have GE135 := n7_; have NB129_135 := n8_; have NB135_129 := n9_; have NB130_135 := n10_; have NB135_130 := n11_; clear n0_ n1_ n2_ n3_ n4_ n5_ n6_ n7_ n8_ n9_ n10_ n11_ hb hbox hg; have hnb29 := NB135_129.out; have hnc29 := NB129_135.out; have hnb30 := NB135_130.out; have hnc30 := NB130_135.out; have hcz31_0 : w28.cell? ⟨gb135, 0, none⟩ = some (.int .i64 0) := (blk_cell BK135.out 0).trans rfl; have hcz31_1 : w28.cell? ⟨gb135, 1, none⟩ = some (.int .i64 0) := (blk_cell BK135.out 1).trans rfl; have hcz31_2 : w28.cell? ⟨gb135, 2, none⟩ = some (.slice none 0 0) := (blk_cell BK135.out 2).trans rfl; have hcz31_3 : w28.cell? ⟨gb135, 3, none⟩ = some (.slice none 0 0) := (blk_cell BK135.out 3).trans rfl; have hcz31_4 : w28.cell? ⟨gb135, 4, none⟩ = some (.slice none 0 0) := (blk_cell BK135.out 4).trans rfl; have hcz31_5 : w28.cell? ⟨gb135, 5, none⟩ = some (.slice none 0 0) := (blk_cell BK135.out 5).trans rfl; have hcz31_6 : w28.cell? ⟨gb135, 6, none⟩ = some (.slice none 0 0) := (blk_cell BK135.out 6).trans rfl; have hcz31_7 : w28.cell? ⟨gb135, 7, none⟩ = some (.bool false) := (blk_cell BK135.out 7).trans rfl; have hfz31_0 := blk_frozen BK135.out 0; have hfz31_1 := blk_frozen BK135.out 1; have hfz31_2 := blk_frozen BK135.out 2; have hfz31_3 := blk_frozen BK135.out 3; have hfz31_4 := blk_frozen BK135.out 4; have hfz31_5 := blk_frozen BK135.out 5; have hfz31_6 := blk_frozen BK135.out 6; have hfz31_7 := blk_frozen BK135.out 7; have hnb32 := NB130_129.out; have hnc32 := NB129_130.out; have hcz33_0 : w28.cell? ⟨gb130, 0, none⟩ = some (.int .i64 x131000_2) := (blk_cell BK130.out 0).trans rfl; have hcz33_1 : w28.cell? ⟨gb130, 1, none⟩ = some (.int .i64 x131001_2) := (blk_cell BK130.out 1).trans rfl; have hcz33_2 : w28.cell? ⟨gb130, 2, none⟩ = some (u131002) := (blk_cell BK130.out 2).trans rfl; have hcz33_3 : w28.cell? ⟨gb130, 3, none⟩ = some (u131003) := (blk_cell BK130.out 3).trans rfl; have hcz33_4 : w28.cell? ⟨gb130, 4, none⟩ = some (.slice none 0 0) := (blk_cell BK130.out 4).trans rfl; have hcz33_5 : w28.cell? ⟨gb130, 5, none⟩ = some (.slice none 0 0) := (blk_cell BK130.out 5).trans rfl; have hcz33_6 : w28.cell? ⟨gb130, 6, none⟩ = some (.slice none 0 0) := (blk_cell BK130.out 6).trans rfl; have hcz33_7 : w28.cell? ⟨gb130, 7, none⟩ = some (.bool false) := (blk_cell BK130.out 7).trans rfl; have hfz33_0 := blk_frozen BK130.out 0; have hfz33_1 := blk_frozen BK130.out 1; have hfz33_2 := blk_frozen BK130.out 2; have hfz33_3 := blk_frozen BK130.out 3; have hfz33_4 := blk_frozen BK130.out 4; have hfz33_5 := blk_frozen BK130.out 5; have hfz33_6 := blk_frozen BK130.out 6; have hfz33_7 := blk_frozen BK130.out 7) | ((with_reducible refine gate_callee (f := 31) rfl ?_); refine goesL_ (some 32) rfl rfl Try.func31 (by kernel_rfl) rfl #[.int .i64 x131000_2, .int .i64 ((rd_T31 l0 x24_2).f1)] rfl (by (try simp only [List.map_toArray, List.map_cons, List.map_nil]); first | done | rfl | (simp only [List.length_drop, List.length_take]; rfl)) ?_; (with_reducible refine (ref16_Align.calls x131000_2 ((rd_T31 l0 x24_2).f1) t136 _ A26.out).mono ?_); rintro e w' ⟨rfl, ⟨nd, rfl⟩⟩; refine ⟨_, rfl, ?_⟩; have hcz34_0 : w28.cell? ⟨gb129, 0, none⟩ = some (.int .i64 x130000_2) := (blk_cell BK129.out 0).trans rfl; have hcz34_1 : w28.cell? ⟨gb129, 1, none⟩ = some (.int .i64 x130001_2) := (blk_cell BK129.out 1).trans rfl; have hcz34_2 : w28.cell? ⟨gb129, 2, none⟩ = some (.slice none 0 0) := (blk_cell BK129.out 2).trans rfl; have hcz34_3 : w28.cell? ⟨gb129, 3, none⟩ = some (.slice none 0 0) := (blk_cell BK129.out 3).trans rfl; have hcz34_4 : w28.cell? ⟨gb129, 4, none⟩ = some (.slice none 0 0) := (blk_cell BK129.out 4).trans rfl; have hcz34_5 : w28.cell? ⟨gb129, 5, none⟩ = some (.slice none 0 0) := (blk_cell BK129.out 5).trans rfl; have hcz34_6 : w28.cell? ⟨gb129, 6, none⟩ = some (.slice none 0 0) := (blk_cell BK129.out 6).trans rfl; have hcz34_7 : w28.cell? ⟨gb129, 7, none⟩ = some (.bool x130007_2) := (blk_cell BK129.out 7).trans rfl; have hfz34_0 := blk_frozen BK129.out 0; have hfz34_1 := blk_frozen BK129.out 1; have hfz34_2 := blk_frozen BK129.out 2; have hfz34_3 := blk_frozen BK129.out 3; have hfz34_4 := blk_frozen BK129.out 4; have hfz34_5 := blk_frozen BK129.out 5; have hfz34_6 := blk_frozen BK129.out 6; have hfz34_7 := blk_frozen BK129.out 7))
        refine bodyPost_ret (results_ct rfl _ _ gb129 31 #[.int .i64 0, .int .i64 0, .slice none 0 0, .slice none 0 0, .slice none 0 0, .slice none 0 0, .slice none 0 0, .bool false] (0, 0) _ rfl (by (with_reducible repeat (first | refine blk_drewN ?_ _ | refine blk_drew ?_ | refine blk_alloc ?_ _)); refine blk_put (cs := #[.int .i64 0, .int .i64 0, .slice none 0 0, .slice none 0 0, .slice none 0 0, .slice none 0 0, .slice none 0 0, .bool x130007_2]) ?_ 7 _ rfl; (with_reducible repeat (first | refine blk_drewN ?_ _ | refine blk_drew ?_ | refine blk_alloc ?_ _)); refine blk_put (cs := #[.int .i64 0, .int .i64 0, .slice none 0 0, .slice none 0 0, .slice none 0 0, .slice none 0 0, .slice none 0 0, .bool x130007_2]) ?_ 6 _ rfl; (with_reducible repeat (first | refine blk_drewN ?_ _ | refine blk_drew ?_ | refine blk_alloc ?_ _)); refine blk_put (cs := #[.int .i64 0, .int .i64 0, .slice none 0 0, .slice none 0 0, .slice none 0 0, .slice none 0 0, .slice none 0 0, .bool x130007_2]) ?_ 5 _ rfl; (with_reducible repeat (first | refine blk_drewN ?_ _ | refine blk_drew ?_ | refine blk_alloc ?_ _)); refine blk_put (cs := #[.int .i64 0, .int .i64 0, .slice none 0 0, .slice none 0 0, .slice none 0 0, .slice none 0 0, .slice none 0 0, .bool x130007_2]) ?_ 4 _ rfl; (with_reducible repeat (first | refine blk_drewN ?_ _ | refine blk_drew ?_ | refine blk_alloc ?_ _)); refine blk_put (cs := #[.int .i64 0, .int .i64 0, .slice none 0 0, .slice none 0 0, .slice none 0 0, .slice none 0 0, .slice none 0 0, .bool x130007_2]) ?_ 3 _ rfl; (with_reducible repeat (first | refine blk_drewN ?_ _ | refine blk_drew ?_ | refine blk_alloc ?_ _)); refine blk_put (cs := #[.int .i64 0, .int .i64 0, .slice none 0 0, .slice none 0 0, .slice none 0 0, .slice none 0 0, .slice none 0 0, .bool x130007_2]) ?_ 2 _ rfl; (with_reducible repeat (first | refine blk_drewN ?_ _ | refine blk_drew ?_ | refine blk_alloc ?_ _)); refine blk_put (cs := #[.int .i64 0, .int .i64 x130001_2, .slice none 0 0, .slice none 0 0, .slice none 0 0, .slice none 0 0, .slice none 0 0, .bool x130007_2]) ?_ 1 _ rfl; (with_reducible repeat (first | refine blk_drewN ?_ _ | refine blk_drew ?_ | refine blk_alloc ?_ _)); refine blk_put (cs := #[.int .i64 x130000_2, .int .i64 x130001_2, .slice none 0 0, .slice none 0 0, .slice none 0 0, .slice none 0 0, .slice none 0 0, .bool x130007_2]) ?_ 0 _ rfl; (with_reducible repeat (first | refine blk_drewN ?_ _ | refine blk_drew ?_ | refine blk_alloc ?_ _)); refine blk_far ?_ NB129_135.out _; (with_reducible repeat (first | refine blk_drewN ?_ _ | refine blk_drew ?_ | refine blk_alloc ?_ _)); refine blk_far ?_ NB129_135.out _; (with_reducible repeat (first | refine blk_drewN ?_ _ | refine blk_drew ?_ | refine blk_alloc ?_ _)); refine blk_far ?_ NB129_135.out _; (with_reducible repeat (first | refine blk_drewN ?_ _ | refine blk_drew ?_ | refine blk_alloc ?_ _)); refine blk_far ?_ NB129_135.out _; (with_reducible repeat (first | refine blk_drewN ?_ _ | refine blk_drew ?_ | refine blk_alloc ?_ _)); refine blk_far ?_ NB129_135.out _; (with_reducible repeat (first | refine blk_drewN ?_ _ | refine blk_drew ?_ | refine blk_alloc ?_ _)); refine blk_far ?_ NB129_135.out _; (with_reducible repeat (first | refine blk_drewN ?_ _ | refine blk_drew ?_ | refine blk_alloc ?_ _)); refine blk_far ?_ NB129_135.out _; (with_reducible repeat (first | refine blk_drewN ?_ _ | refine blk_drew ?_ | refine blk_alloc ?_ _)); refine blk_far ?_ NB129_135.out _; (with_reducible repeat (first | refine blk_drewN ?_ _ | refine blk_drew ?_ | refine blk_alloc ?_ _)); exact BK129.out) Try.underlying31 rfl (by kernel_rfl)) rfl ?_
        exact ⟨_, _, _, _, _, by first | rfl | (simp [errW_none, errW_some] <;> rfl) | (simp [*, errW_none, errW_some] <;> rfl), by first | exact Kd.R_nil _ _ _ _ _ | exact Kd.N_nil _ _ _ _ _ | exact Kd.V_nil _ _ _ _ _ | exact Kd.Q_nil _ _ _ _ _ | exact Kd.S_nil _ _ _ _ _, by first | exact Kd.R_nil _ _ _ _ _ | exact Kd.N_nil _ _ _ _ _ | exact Kd.V_nil _ _ _ _ _ | exact Kd.Q_nil _ _ _ _ _ | exact Kd.S_nil _ _ _ _ _, by first | exact Kd.R_nil _ _ _ _ _ | exact Kd.N_nil _ _ _ _ _ | exact Kd.V_nil _ _ _ _ _ | exact Kd.Q_nil _ _ _ _ _ | exact Kd.S_nil _ _ _ _ _, by first | exact Kd.R_nil _ _ _ _ _ | exact Kd.N_nil _ _ _ _ _ | exact Kd.V_nil _ _ _ _ _ | exact Kd.Q_nil _ _ _ _ _ | exact Kd.S_nil _ _ _ _ _, by first | exact Kd.R_nil _ _ _ _ _ | exact Kd.N_nil _ _ _ _ _ | exact Kd.V_nil _ _ _ _ _ | exact Kd.Q_nil _ _ _ _ _ | exact Kd.S_nil _ _ _ _ _, by repeat (first | (with_reducible first | exact HB.out | apply below_alloc | apply pw_below_drewN | apply below_drew1 | refine below_set ?_ GE129.out | refine below_set ?_ GE130.out | refine below_set ?_ GE135.out) | exact HB.out)⟩
       ·
        rw [if_neg c27] at H
        have c27b0 : decide (1024 < (wrap64 (t136 + ((rd_T31 l0 x24_2).f0)))) = false := decide_eq_false c27
        clear c27
        by_cases c35 : x131003_2.length < 17592186044416
        rotate_left
        ·
         rw [if_neg c35] at H
         exact absurd H (by simp)
        rw [if_pos c35] at H
        have LMc35 := Aside0.mk c35
        clear c35
        obtain ⟨y137, hy137⟩ : ∃ y_ : List Int, y_ = (x131003_2 ++ [t136]) := ⟨_, rfl⟩
        replace H : (ref16_Lay.l2 k2 t136 l0 (l0.length : Int) x24_2 x131000_2 x131001_2 x131002_2 y137 false ((rd_T31 l0 x24_2).f0) ((rd_T31 l0 x24_2).f1) ((rd_T31 l0 x24_2).f2) ((rd_T31 l0 x24_2).f3) ((rd_T31 l0 x24_2).f4) ((rd_T31 l0 x24_2).f5) ((rd_T31 l0 x24_2).f6) ((rd_T31 l0 x24_2).f7)) = some (r1, r2, r3, r4, r5, r6, r7, r8, r9) := by first | (rw [hy137]; with_reducible exact H) | (have H2_ := (Option.bind_some _ _).symm.trans H; rw [hy137]; with_reducible exact H2_) | (have H2_ := (Option.bind_some _ _).symm.trans H; with_reducible exact H2_) | with_reducible exact H | (rw [hy137]; exact H) | exact H
        have Ny137 := Aside0.mk hy137
        clear hy137
        have H' := Aside0.mk H
        clear H
        have p134 : 0 ≤ (x24_2 : Int) := od_
        have q134 : x24_2 < (l0.length : Int) := od_
        obtain ⟨ad134, A134_2, c134_2, A134_3, c134_3, A134_4, c134_4, A134_5, c134_5, A134_6, c134_6, e134, hx134_0, hx134_1, hx134_2, hx134_3, hx134_4, hx134_5, hx134_6, hx134_7, hl134_2, hi134_2, hl134_3, hi134_3, hl134_4, hi134_4, hl134_5, hi134_5, hl134_6, hi134_6⟩ := at_T31 HR0.out x24_2 p134 q134
        cases e134
        replace hx134_0 := (HB.out.cell (World.block_lt_of_cell? w _ hx134_0)).trans hx134_0
        replace hx134_1 := (HB.out.cell (World.block_lt_of_cell? w _ hx134_1)).trans hx134_1
        replace hx134_2 := (HB.out.cell (World.block_lt_of_cell? w _ hx134_2)).trans hx134_2
        replace hx134_3 := (HB.out.cell (World.block_lt_of_cell? w _ hx134_3)).trans hx134_3
        replace hx134_4 := (HB.out.cell (World.block_lt_of_cell? w _ hx134_4)).trans hx134_4
        replace hx134_5 := (HB.out.cell (World.block_lt_of_cell? w _ hx134_5)).trans hx134_5
        replace hx134_6 := (HB.out.cell (World.block_lt_of_cell? w _ hx134_6)).trans hx134_6
        replace hx134_7 := (HB.out.cell (World.block_lt_of_cell? w _ hx134_7)).trans hx134_7
        have HR134_2 := Aside0.mk hi134_2
        have HC134_2 := Aside0.mk hl134_2
        clear hi134_2 hl134_2
        have HR134_3 := Aside0.mk hi134_3
        have HC134_3 := Aside0.mk hl134_3
        clear hi134_3 hl134_3
        have HR134_4 := Aside0.mk hi134_4
        have HC134_4 := Aside0.mk hl134_4
        clear hi134_4 hl134_4
        have HR134_5 := Aside0.mk hi134_5
        have HC134_5 := Aside0.mk hl134_5
        clear hi134_5 hl134_5
        have HR134_6 := Aside0.mk hi134_6
        have HC134_6 := Aside0.mk hl134_6
        clear hi134_6 hl134_6
        replace p134 := eq_true p134
        replace q134 := eq_true q134
        go_wp2_with (first | ((with_reducible refine gate_dst (N := 8) rfl ?_); refine box_event ?hg (N := 8) ?hd (cs := #[.int .i64 0, .int .i64 0, .slice none 0 0, .slice none 0 0, .slice none 0 0, .slice none 0 0, .slice none 0 0, .bool false]) (t := 31) ?hr ?_; (case hd => rfl); (case hg => rfl); (case hr => first | (go_simp; done) | (go_simp; rfl)); intro gb135 hg w36 hbox hb; have n0_ := Aside0.mk (Kd.R_below (kR_ HO_131002.out) hb); have n1_ := Aside0.mk (Kd.R_below (kR_ HO_131003.out) hb); have n2_ := Aside0.mk (blk_below (g := gb129) (o := .cells #[.int .i64 x130000_2, .int .i64 x130001_2, .slice none 0 0, .slice none 0 0, .slice none 0 0, .slice none 0 0, .slice none 0 0, .bool x130007_2] 31 (0, 0)) (bk_ BK129.out) hb); have n3_ := Aside0.mk (blk_below (g := gb130) (o := .cells #[.int .i64 x131000_2, .int .i64 x131001_2, u131002, u131003, .slice none 0 0, .slice none 0 0, .slice none 0 0, .bool false] 31 (0, 0)) (bk_ BK130.out) hb); have n4_ := Aside0.mk (below_step (hb2_ HB.out GE129.out GE130.out) hb); have n5_ := Aside0.mk (hbox); have n6_ := Aside0.mk ((by rw [hg]; exact (below_size (hb2_ HB.out GE129.out GE130.out)) : w.heap.size ≤ gb135)); have n7_ := Aside0.mk ((by rw [hg]; exact (below_size (hb2_ HB.out GE129.out GE130.out)) : w.heap.size ≤ gb135)); have n8_ := Aside0.mk ((by rw [hg]; exact Nat.ne_of_lt (blk_lt (g := gb129) (o := .cells #[.int .i64 x130000_2, .int .i64 x130001_2, .slice none 0 0, .slice none 0 0, .slice none 0 0, .slice none 0 0, .slice none 0 0, .bool x130007_2] 31 (0, 0)) (bk_ BK129.out)) : gb129 ≠ gb135)); have n9_ := Aside0.mk ((by rw [hg]; exact Nat.ne_of_gt (blk_lt (g := gb129) (o := .cells #[.int .i64 x130000_2, .int .i64 x130001_2, .slice none 0 0, .slice none 0 0, .slice none 0 0, .slice none 0 0, .slice none 0 0, .bool x130007_2] 31 (0, 0)) (bk_ BK129.out)) : gb135 ≠ gb129)); have n10_ := Aside0.mk ((by rw [hg]; exact Nat.ne_of_lt (blk_lt (g := gb130) (o := .cells #[.int .i64 x131000_2, .int .i64 x131001_2, u131002, u131003, .slice none 0 0, .slice none 0 0, .slice none 0 0, .bool false] 31 (0, 0)) (bk_ BK130.out)) : gb130 ≠ gb135)); have n11_ := Aside0.mk ((by rw [hg]; exact Nat.ne_of_gt (blk_lt (g := gb130) (o := .cells #[.int .i64 x131000_2, .int .i64 x131001_2, u131002, u131003, .slice none 0 0, .slice none 0 0, .slice none 0 0, .bool false] 31 (0, 0)) (bk_ BK130.out)) : gb135 ≠ gb130)); clear HO_131002 HO_131003 BK129 BK130 HB; have HO_131002 := n0_; have HO_131003 := n1_; have BK129 := n2_; have BK130 := n3_; have HB := n4_; have BK135 := n5_; have GW135 := n6_; have GE135 := n7_; have NB129_135 := n8_; have NB135_129 := n9_; have NB130_135 := n10_; have NB135_130 := n11_; clear n0_ n1_ n2_ n3_ n4_ n5_ n6_ n7_ n8_ n9_ n10_ n11_ hb hbox hg; have hnb37 := NB135_129.out; have hnc37 := NB129_135.out; have hnb38 := NB135_130.out; have hnc38 := NB130_135.out; have hcz39_0 : w36.cell? ⟨gb135, 0, none⟩ = some (.int .i64 0) := (blk_cell BK135.out 0).trans rfl; have hcz39_1 : w36.cell? ⟨gb135, 1, none⟩ = some (.int .i64 0) := (blk_cell BK135.out 1).trans rfl; have hcz39_2 : w36.cell? ⟨gb135, 2, none⟩ = some (.slice none 0 0) := (blk_cell BK135.out 2).trans rfl; have hcz39_3 : w36.cell? ⟨gb135, 3, none⟩ = some (.slice none 0 0) := (blk_cell BK135.out 3).trans rfl; have hcz39_4 : w36.cell? ⟨gb135, 4, none⟩ = some (.slice none 0 0) := (blk_cell BK135.out 4).trans rfl; have hcz39_5 : w36.cell? ⟨gb135, 5, none⟩ = some (.slice none 0 0) := (blk_cell BK135.out 5).trans rfl; have hcz39_6 : w36.cell? ⟨gb135, 6, none⟩ = some (.slice none 0 0) := (blk_cell BK135.out 6).trans rfl; have hcz39_7 : w36.cell? ⟨gb135, 7, none⟩ = some (.bool false) := (blk_cell BK135.out 7).trans rfl; have hfz39_0 := blk_frozen BK135.out 0; have hfz39_1 := blk_frozen BK135.out 1; have hfz39_2 := blk_frozen BK135.out 2; have hfz39_3 := blk_frozen BK135.out 3; have hfz39_4 := blk_frozen BK135.out 4; have hfz39_5 := blk_frozen BK135.out 5; have hfz39_6 := blk_frozen BK135.out 6; have hfz39_7 := blk_frozen BK135.out 7; have hnb40 := NB130_129.out; have hnc40 := NB129_130.out; have hcz41_0 : w36.cell? ⟨gb130, 0, none⟩ = some (.int .i64 x131000_2) := (blk_cell BK130.out 0).trans rfl; have hcz41_1 : w36.cell? ⟨gb130, 1, none⟩ = some (.int .i64 x131001_2) := (blk_cell BK130.out 1).trans rfl; have hcz41_2 : w36.cell? ⟨gb130, 2, none⟩ = some (u131002) := (blk_cell BK130.out 2).trans rfl; have hcz41_3 : w36.cell? ⟨gb130, 3, none⟩ = some (u131003) := (blk_cell BK130.out 3).trans rfl; have hcz41_4 : w36.cell? ⟨gb130, 4, none⟩ = some (.slice none 0 0) := (blk_cell BK130.out 4).trans rfl; have hcz41_5 : w36.cell? ⟨gb130, 5, none⟩ = some (.slice none 0 0) := (blk_cell BK130.out 5).trans rfl; have hcz41_6 : w36.cell? ⟨gb130, 6, none⟩ = some (.slice none 0 0) := (blk_cell BK130.out 6).trans rfl; have hcz41_7 : w36.cell? ⟨gb130, 7, none⟩ = some (.bool false) := (blk_cell BK130.out 7).trans rfl; have hfz41_0 := blk_frozen BK130.out 0; have hfz41_1 := blk_frozen BK130.out 1; have hfz41_2 := blk_frozen BK130.out 2; have hfz41_3 := blk_frozen BK130.out 3; have hfz41_4 := blk_frozen BK130.out 4; have hfz41_5 := blk_frozen BK130.out 5; have hfz41_6 := blk_frozen BK130.out 6; have hfz41_7 := blk_frozen BK130.out 7) | ((with_reducible refine gate_callee (f := 31) rfl ?_); refine goesL_ (some 32) rfl rfl Try.func31 (by kernel_rfl) rfl #[.int .i64 x131000_2, .int .i64 ((rd_T31 l0 x24_2).f1)] rfl (by (try simp only [List.map_toArray, List.map_cons, List.map_nil]); first | done | rfl | (simp only [List.length_drop, List.length_take]; rfl)) ?_; (with_reducible refine (ref16_Align.calls x131000_2 ((rd_T31 l0 x24_2).f1) t136 _ A26.out).mono ?_); rintro e w' ⟨rfl, ⟨nd, rfl⟩⟩; refine ⟨_, rfl, ?_⟩) | ((with_reducible refine gate_builtin (b := .append) (xs := #[.tmp 40, .tmp 42]) rfl ?_); at_builtin; refine Kd.R_append (Kd.int .i64) (w0 := w) w.heap.size rfl (.tmp 40) (.tmp 42) 23 3 (.int .i64 0) 8 rfl Try.underlying23 info3 rfl (by decide) (by omega) u131003 x131003_2 t136 [.int .i64 t136] (fun _ => True) (fun _ => False) rfl (by first | (go_simp; done) | (go_simp; rfl)) ?aP (fun _ hk => hk.elim) ?aF ?aO ?aB ?aS ?aL ?_; (case aP => exact rfl); (case aB => exact (hb3_ HB.out GE129.out GE130.out GE135.out)); (case aF => exact (fun _ _ => trivial)); (case aO => exact (by (with_reducible repeat (first | apply Kd.R_alloc | apply Kd.R_drewN | apply Kd.R_drew)); exact Kd.R_mono (Kd.R_far (p := ⟨gb135, 7, none⟩) (Kd.R_far (p := ⟨gb135, 6, none⟩) (Kd.R_far (p := ⟨gb135, 5, none⟩) (Kd.R_far (p := ⟨gb135, 4, none⟩) (Kd.R_far (p := ⟨gb135, 3, none⟩) (Kd.R_far (p := ⟨gb135, 2, none⟩) (Kd.R_far (p := ⟨gb135, 1, none⟩) (Kd.R_far (p := ⟨gb135, 0, none⟩) (Kd.R_types HO_131003.out BK135.out (by decide)) (fun _ hk => hk.2) (.int .i64 ((rd_T31 l0 x24_2).f0))) (fun _ hk => hk.2) (.int .i64 ((rd_T31 l0 x24_2).f1))) (fun _ hk => hk.2) (.slice A134_2 ((rd_T31 l0 x24_2).f2).length c134_2)) (fun _ hk => hk.2) (.slice A134_3 ((rd_T31 l0 x24_2).f3).length c134_3)) (fun _ hk => hk.2) (.slice A134_4 ((rd_T31 l0 x24_2).f4).length c134_4)) (fun _ hk => hk.2) (.slice A134_5 ((rd_T31 l0 x24_2).f5).length c134_5)) (fun _ hk => hk.2) (.slice A134_6 ((rd_T31 l0 x24_2).f6).length c134_6)) (fun _ hk => hk.2) (.bool ((rd_T31 l0 x24_2).f7))) (fun _ hk => trivial))); (case aS => exact (below_size (hb3_ HB.out GE129.out GE130.out GE135.out))); (case aL => have := LMc35.out; omega); intro v138 w42 ho hb hg hat; rw [← Ny137.out] at ho; have n0_ := Aside0.mk (Kd.R_over' (by (with_reducible repeat (first | apply Kd.R_alloc | apply Kd.R_drewN | apply Kd.R_drew)); exact (Kd.R_mono (Kd.R_far (p := ⟨gb135, 7, none⟩) (Kd.R_far (p := ⟨gb135, 6, none⟩) (Kd.R_far (p := ⟨gb135, 5, none⟩) (Kd.R_far (p := ⟨gb135, 4, none⟩) (Kd.R_far (p := ⟨gb135, 3, none⟩) (Kd.R_far (p := ⟨gb135, 2, none⟩) (Kd.R_far (p := ⟨gb135, 1, none⟩) (Kd.R_far (p := ⟨gb135, 0, none⟩) (Kd.R_types HO_131002.out BK135.out (by decide)) (fun _ hk => hk.2) (.int .i64 ((rd_T31 l0 x24_2).f0))) (fun _ hk => hk.2) (.int .i64 ((rd_T31 l0 x24_2).f1))) (fun _ hk => hk.2) (.slice A134_2 ((rd_T31 l0 x24_2).f2).length c134_2)) (fun _ hk => hk.2) (.slice A134_3 ((rd_T31 l0 x24_2).f3).length c134_3)) (fun _ hk => hk.2) (.slice A134_4 ((rd_T31 l0 x24_2).f4).length c134_4)) (fun _ hk => hk.2) (.slice A134_5 ((rd_T31 l0 x24_2).f5).length c134_5)) (fun _ hk => hk.2) (.slice A134_6 ((rd_T31 l0 x24_2).f6).length c134_6)) (fun _ hk => hk.2) (.bool ((rd_T31 l0 x24_2).f7))) (fun _ h_ => h_.1))) (Kd.R_typed (by (with_reducible repeat (first | apply Kd.R_alloc | apply Kd.R_drewN | apply Kd.R_drew)); exact (Kd.R_mono (Kd.R_far (p := ⟨gb135, 7, none⟩) (Kd.R_far (p := ⟨gb135, 6, none⟩) (Kd.R_far (p := ⟨gb135, 5, none⟩) (Kd.R_far (p := ⟨gb135, 4, none⟩) (Kd.R_far (p := ⟨gb135, 3, none⟩) (Kd.R_far (p := ⟨gb135, 2, none⟩) (Kd.R_far (p := ⟨gb135, 1, none⟩) (Kd.R_far (p := ⟨gb135, 0, none⟩) (Kd.R_types HO_131003.out BK135.out (by decide)) (fun _ hk => hk.2) (.int .i64 ((rd_T31 l0 x24_2).f0))) (fun _ hk => hk.2) (.int .i64 ((rd_T31 l0 x24_2).f1))) (fun _ hk => hk.2) (.slice A134_2 ((rd_T31 l0 x24_2).f2).length c134_2)) (fun _ hk => hk.2) (.slice A134_3 ((rd_T31 l0 x24_2).f3).length c134_3)) (fun _ hk => hk.2) (.slice A134_4 ((rd_T31 l0 x24_2).f4).length c134_4)) (fun _ hk => hk.2) (.slice A134_5 ((rd_T31 l0 x24_2).f5).length c134_5)) (fun _ hk => hk.2) (.slice A134_6 ((rd_T31 l0 x24_2).f6).length c134_6)) (fun _ hk => hk.2) (.bool ((rd_T31 l0 x24_2).f7))) (fun _ h_ => h_.1)))) (by decide) hg); have n1_ := Aside0.mk (blk_grown (g := gb129) (o := .cells #[.int .i64 x130000_2, .int .i64 x130001_2, .slice none 0 0, .slice none 0 0, .slice none 0 0, .slice none 0 0, .slice none 0 0, .bool x130007_2] 31 (0, 0)) (bf1_ BK129.out NB129_135.out) hg (Kd.R_ne HO_131003.out BK129.out (by decide))); have n2_ := Aside0.mk (blk_grown (g := gb130) (o := .cells #[.int .i64 x131000_2, .int .i64 x131001_2, u131002, u131003, .slice none 0 0, .slice none 0 0, .slice none 0 0, .bool false] 31 (0, 0)) (bf1_ BK130.out NB130_135.out) hg (Kd.R_ne HO_131003.out BK130.out (by decide))); have n3_ := Aside0.mk (blk_grown (g := gb135) (o := .cells #[.int .i64 ((rd_T31 l0 x24_2).f0), .int .i64 ((rd_T31 l0 x24_2).f1), .slice A134_2 ((rd_T31 l0 x24_2).f2).length c134_2, .slice A134_3 ((rd_T31 l0 x24_2).f3).length c134_3, .slice A134_4 ((rd_T31 l0 x24_2).f4).length c134_4, .slice A134_5 ((rd_T31 l0 x24_2).f5).length c134_5, .slice A134_6 ((rd_T31 l0 x24_2).f6).length c134_6, .bool ((rd_T31 l0 x24_2).f7)] 31 (0, 0)) (by (with_reducible repeat (first | refine blk_drewN ?_ _ | refine blk_drew ?_ | refine blk_alloc ?_ _)); refine blk_put (cs := #[.int .i64 ((rd_T31 l0 x24_2).f0), .int .i64 ((rd_T31 l0 x24_2).f1), .slice A134_2 ((rd_T31 l0 x24_2).f2).length c134_2, .slice A134_3 ((rd_T31 l0 x24_2).f3).length c134_3, .slice A134_4 ((rd_T31 l0 x24_2).f4).length c134_4, .slice A134_5 ((rd_T31 l0 x24_2).f5).length c134_5, .slice A134_6 ((rd_T31 l0 x24_2).f6).length c134_6, .bool false]) ?_ 7 _ rfl; (with_reducible repeat (first | refine blk_drewN ?_ _ | refine blk_drew ?_ | refine blk_alloc ?_ _)); refine blk_put (cs := #[.int .i64 ((rd_T31 l0 x24_2).f0), .int .i64 ((rd_T31 l0 x24_2).f1), .slice A134_2 ((rd_T31 l0 x24_2).f2).length c134_2, .slice A134_3 ((rd_T31 l0 x24_2).f3).length c134_3, .slice A134_4 ((rd_T31 l0 x24_2).f4).length c134_4, .slice A134_5 ((rd_T31 l0 x24_2).f5).length c134_5, .slice none 0 0, .bool false]) ?_ 6 _ rfl; (with_reducible repeat (first | refine blk_drewN ?_ _ | refine blk_drew ?_ | refine blk_alloc ?_ _)); refine blk_put (cs := #[.int .i64 ((rd_T31 l0 x24_2).f0), .int .i64 ((rd_T31 l0 x24_2).f1), .slice A134_2 ((rd_T31 l0 x24_2).f2).length c134_2, .slice A134_3 ((rd_T31 l0 x24_2).f3).length c134_3, .slice A134_4 ((rd_T31 l0 x24_2).f4).length c134_4, .slice none 0 0, .slice none 0 0, .bool false]) ?_ 5 _ rfl; (with_reducible repeat (first | refine blk_drewN ?_ _ | refine blk_drew ?_ | refine blk_alloc ?_ _)); refine blk_put (cs := #[.int .i64 ((rd_T31 l0 x24_2).f0), .int .i64 ((rd_T31 l0 x24_2).f1), .slice A134_2 ((rd_T31 l0 x24_2).f2).length c134_2, .slice A134_3 ((rd_T31 l0 x24_2).f3).length c134_3, .slice none 0 0, .slice none 0 0, .slice none 0 0, .bool false]) ?_ 4 _ rfl; (with_reducible repeat (first | refine blk_drewN ?_ _ | refine blk_drew ?_ | refine blk_alloc ?_ _)); refine blk_put (cs := #[.int .i64 ((rd_T31 l0 x24_2).f0), .int .i64 ((rd_T31 l0 x24_2).f1), .slice A134_2 ((rd_T31 l0 x24_2).f2).length c134_2, .slice none 0 0, .slice none 0 0, .slice none 0 0, .slice none 0 0, .bool false]) ?_ 3 _ rfl; (with_reducible repeat (first | refine blk_drewN ?_ _ | refine blk_drew ?_ | refine blk_alloc ?_ _)); refine blk_put (cs := #[.int .i64 ((rd_T31 l0 x24_2).f0), .int .i64 ((rd_T31 l0 x24_2).f1), .slice none 0 0, .slice none 0 0, .slice none 0 0, .slice none 0 0, .slice none 0 0, .bool false]) ?_ 2 _ rfl; (with_reducible repeat (first | refine blk_drewN ?_ _ | refine blk_drew ?_ | refine blk_alloc ?_ _)); refine blk_put (cs := #[.int .i64 ((rd_T31 l0 x24_2).f0), .int .i64 0, .slice none 0 0, .slice none 0 0, .slice none 0 0, .slice none 0 0, .slice none 0 0, .bool false]) ?_ 1 _ rfl; (with_reducible repeat (first | refine blk_drewN ?_ _ | refine blk_drew ?_ | refine blk_alloc ?_ _)); refine blk_put (cs := #[.int .i64 0, .int .i64 0, .slice none 0 0, .slice none 0 0, .slice none 0 0, .slice none 0 0, .slice none 0 0, .bool false]) ?_ 0 _ rfl; (with_reducible repeat (first | refine blk_drewN ?_ _ | refine blk_drew ?_ | refine blk_alloc ?_ _)); exact BK135.out) hg (Kd.R_ne HO_131003.out BK135.out (by decide))); have n4_ := Aside0.mk (hb); have n5_ := Aside0.mk (ho); clear HO_131002 BK129 BK130 BK135 HB HO_131003; have HO_131002 := n0_; have BK129 := n1_; have BK130 := n2_; have BK135 := n3_; have HB := n4_; have HO139 := n5_; clear n0_ n1_ n2_ n3_ n4_ n5_ ho hb hg hat; obtain ⟨Ao43, co43, eo43⟩ := Kd.R_slice HO139.out; subst eo43; have hcz44_0 : w42.cell? ⟨gb130, 0, none⟩ = some (.int .i64 x131000_2) := (blk_cell BK130.out 0).trans rfl; have hcz44_1 : w42.cell? ⟨gb130, 1, none⟩ = some (.int .i64 x131001_2) := (blk_cell BK130.out 1).trans rfl; have hcz44_2 : w42.cell? ⟨gb130, 2, none⟩ = some (u131002) := (blk_cell BK130.out 2).trans rfl; have hcz44_3 : w42.cell? ⟨gb130, 3, none⟩ = some (u131003) := (blk_cell BK130.out 3).trans rfl; have hcz44_4 : w42.cell? ⟨gb130, 4, none⟩ = some (.slice none 0 0) := (blk_cell BK130.out 4).trans rfl; have hcz44_5 : w42.cell? ⟨gb130, 5, none⟩ = some (.slice none 0 0) := (blk_cell BK130.out 5).trans rfl; have hcz44_6 : w42.cell? ⟨gb130, 6, none⟩ = some (.slice none 0 0) := (blk_cell BK130.out 6).trans rfl; have hcz44_7 : w42.cell? ⟨gb130, 7, none⟩ = some (.bool false) := (blk_cell BK130.out 7).trans rfl; have hfz44_0 := blk_frozen BK130.out 0; have hfz44_1 := blk_frozen BK130.out 1; have hfz44_2 := blk_frozen BK130.out 2; have hfz44_3 := blk_frozen BK130.out 3; have hfz44_4 := blk_frozen BK130.out 4; have hfz44_5 := blk_frozen BK130.out 5; have hfz44_6 := blk_frozen BK130.out 6; have hfz44_7 := blk_frozen BK130.out 7))
        go_loopg [] k2 (fun kq w' => ∃ (x131002_3 : List Int) (u131002 : Value), Aside0 (ref16_Lay.l2 kq t136 l0 (l0.length : Int) x24_2 x131000_2 x131001_2 x131002_3 y137 false ((rd_T31 l0 x24_2).f0) ((rd_T31 l0 x24_2).f1) ((rd_T31 l0 x24_2).f2) ((rd_T31 l0 x24_2).f3) ((rd_T31 l0 x24_2).f4) ((rd_T31 l0 x24_2).f5) ((rd_T31 l0 x24_2).f6) ((rd_T31 l0 x24_2).f7) = some (r1, r2, r3, r4, r5, r6, r7, r8, r9)) ∧ Aside0 (kq ≤ k2) ∧ Aside0 (Kd.R (Kd.int .u8) 5 w' w.heap.size (fun _ => True) u131002 x131002_3) ∧ Aside0 (Kd.R (Kd.int .i64) 3 w' w.heap.size (fun _ => True) (.slice Ao43 y137.length co43) y137) ∧ Aside0 (w'.heap[gb129]? = some (.cells #[.int .i64 x130000_2, .int .i64 x130001_2, (.slice none 0 0), (.slice none 0 0), (.slice none 0 0), (.slice none 0 0), (.slice none 0 0), .bool x130007_2] 31 (0, 0))) ∧ Aside0 (w'.heap[gb130]? = some (.cells #[.int .i64 x131000_2, .int .i64 x131001_2, u131002, (.slice Ao43 y137.length co43), (.slice none 0 0), (.slice none 0 0), (.slice none 0 0), .bool false] 31 (0, 0))) ∧ Aside0 (w'.heap[gb135]? = some (.cells #[.int .i64 ((rd_T31 l0 x24_2).f0), .int .i64 ((rd_T31 l0 x24_2).f1), (.slice A134_2 ((rd_T31 l0 x24_2).f2).length c134_2), (.slice A134_3 ((rd_T31 l0 x24_2).f3).length c134_3), (.slice A134_4 ((rd_T31 l0 x24_2).f4).length c134_4), (.slice A134_5 ((rd_T31 l0 x24_2).f5).length c134_5), (.slice A134_6 ((rd_T31 l0 x24_2).f6).length c134_6), .bool ((rd_T31 l0 x24_2).f7)] 31 (0, 0))) ∧ Aside0 (Below w.heap.size w w'))
        case atStart => exact ⟨(x131002_2), (u131002), H', ⟨Nat.le_refl _⟩, ⟨by (with_reducible repeat (first | apply Kd.R_alloc | apply Kd.R_drewN | apply Kd.R_drew)); exact Kd.R_mono (Kd.R_far (p := ⟨gb130, 3, none⟩) (Kd.R_types HO_131002.out BK130.out (by decide)) (fun _ hk => hk.2) (.slice Ao43 y137.length co43)) (fun _ hk => trivial)⟩, ⟨by (with_reducible repeat (first | apply Kd.R_alloc | apply Kd.R_drewN | apply Kd.R_drew)); exact Kd.R_mono (Kd.R_far (p := ⟨gb130, 3, none⟩) (Kd.R_types HO139.out BK130.out (by decide)) (fun _ hk => hk.2) (.slice Ao43 y137.length co43)) (fun _ hk => trivial)⟩, ⟨by (with_reducible repeat (first | refine blk_drewN ?_ _ | refine blk_drew ?_ | refine blk_alloc ?_ _)); refine blk_far ?_ NB129_130.out _; (with_reducible repeat (first | refine blk_drewN ?_ _ | refine blk_drew ?_ | refine blk_alloc ?_ _)); exact BK129.out⟩, ⟨by (with_reducible repeat (first | refine blk_drewN ?_ _ | refine blk_drew ?_ | refine blk_alloc ?_ _)); refine blk_put (cs := #[.int .i64 x131000_2, .int .i64 x131001_2, u131002, u131003, .slice none 0 0, .slice none 0 0, .slice none 0 0, .bool false]) ?_ 3 _ rfl; (with_reducible repeat (first | refine blk_drewN ?_ _ | refine blk_drew ?_ | refine blk_alloc ?_ _)); exact BK130.out⟩, ⟨by (with_reducible repeat (first | refine blk_drewN ?_ _ | refine blk_drew ?_ | refine blk_alloc ?_ _)); refine blk_far ?_ NB135_130.out _; (with_reducible repeat (first | refine blk_drewN ?_ _ | refine blk_drew ?_ | refine blk_alloc ?_ _)); exact BK135.out⟩, ⟨by repeat (first | (with_reducible first | exact HB.out | apply below_alloc | apply pw_below_drewN | apply below_drew1 | refine below_set ?_ GE129.out | refine below_set ?_ GE130.out | refine below_set ?_ GE135.out) | exact HB.out)⟩⟩
        case round =>
         clear H'
         try clear c1
         try clear p1
         try clear q1
         try clear hx1
         try clear c2
         try clear p2
         try clear c3
         try clear c4
         try clear c6
         try clear c6b0
         try clear p6
         try clear c7
         try clear c7b0
         try clear c8
         try clear c8b0
         try clear c10
         try clear c12
         try clear c13
         try clear p13
         try clear q13
         try clear hx13
         try clear c17
         try clear c18
         try clear c21
         try clear c23
         try clear c23b0
         try clear c24
         try clear c24b0
         try clear c25
         try clear c25b0
         try clear c27
         try clear c27b0
         try clear c29
         try clear c30
         try clear c31
         try clear c32
         try clear c35
         try clear c37
         try clear c38
         try clear c40
         try clear hcz14_0
         try clear hcz14_1
         try clear hcz14_2
         try clear hcz14_3
         try clear hcz14_4
         try clear hcz14_5
         try clear hcz14_6
         try clear hcz14_7
         try clear hcz19_0
         try clear hcz19_1
         try clear hcz19_2
         try clear hcz19_3
         try clear hcz19_4
         try clear hcz19_5
         try clear hcz19_6
         try clear hcz19_7
         try clear hcz22_0
         try clear hcz22_1
         try clear hcz22_2
         try clear hcz22_3
         try clear hcz22_4
         try clear hcz22_5
         try clear hcz22_6
         try clear hcz22_7
         try clear hcz31_0
         try clear hcz31_1
         try clear hcz31_2
         try clear hcz31_3
         try clear hcz31_4
         try clear hcz31_5
         try clear hcz31_6
         try clear hcz31_7
         try clear hcz33_0
         try clear hcz33_1
         try clear hcz33_2
         try clear hcz33_3
         try clear hcz33_4
         try clear hcz33_5
         try clear hcz33_6
         try clear hcz33_7
         try clear hcz34_0
         try clear hcz34_1
         try clear hcz34_2
         try clear hcz34_3
         try clear hcz34_4
         try clear hcz34_5
         try clear hcz34_6
         try clear hcz34_7
         try clear hcz39_0
         try clear hcz39_1
         try clear hcz39_2
         try clear hcz39_3
         try clear hcz39_4
         try clear hcz39_5
         try clear hcz39_6
         try clear hcz39_7
         try clear hcz41_0
         try clear hcz41_1
         try clear hcz41_2
         try clear hcz41_3
         try clear hcz41_4
         try clear hcz41_5
         try clear hcz41_6
         try clear hcz41_7
         try clear hcz44_0
         try clear hcz44_1
         try clear hcz44_2
         try clear hcz44_3
         try clear hcz44_4
         try clear hcz44_5
         try clear hcz44_6
         try clear hcz44_7
         try clear hcz5_0
         try clear hcz5_1
         try clear hcz5_2
         try clear hcz5_3
         try clear hcz5_4
         try clear hcz5_5
         try clear hcz5_6
         try clear hcz5_7
         try clear hfz14_0
         try clear hfz14_1
         try clear hfz14_2
         try clear hfz14_3
         try clear hfz14_4
         try clear hfz14_5
         try clear hfz14_6
         try clear hfz14_7
         try clear hfz19_0
         try clear hfz19_1
         try clear hfz19_2
         try clear hfz19_3
         try clear hfz19_4
         try clear hfz19_5
         try clear hfz19_6
         try clear hfz19_7
         try clear hfz22_0
         try clear hfz22_1
         try clear hfz22_2
         try clear hfz22_3
         try clear hfz22_4
         try clear hfz22_5
         try clear hfz22_6
         try clear hfz22_7
         try clear hfz31_0
         try clear hfz31_1
         try clear hfz31_2
         try clear hfz31_3
         try clear hfz31_4
         try clear hfz31_5
         try clear hfz31_6
         try clear hfz31_7
         try clear hfz33_0
         try clear hfz33_1
         try clear hfz33_2
         try clear hfz33_3
         try clear hfz33_4
         try clear hfz33_5
         try clear hfz33_6
         try clear hfz33_7
         try clear hfz34_0
         try clear hfz34_1
         try clear hfz34_2
         try clear hfz34_3
         try clear hfz34_4
         try clear hfz34_5
         try clear hfz34_6
         try clear hfz34_7
         try clear hfz39_0
         try clear hfz39_1
         try clear hfz39_2
         try clear hfz39_3
         try clear hfz39_4
         try clear hfz39_5
         try clear hfz39_6
         try clear hfz39_7
         try clear hfz41_0
         try clear hfz41_1
         try clear hfz41_2
         try clear hfz41_3
         try clear hfz41_4
         try clear hfz41_5
         try clear hfz41_6
         try clear hfz41_7
         try clear hfz44_0
         try clear hfz44_1
         try clear hfz44_2
         try clear hfz44_3
         try clear hfz44_4
         try clear hfz44_5
         try clear hfz44_6
         try clear hfz44_7
         try clear hfz5_0
         try clear hfz5_1
         try clear hfz5_2
         try clear hfz5_3
         try clear hfz5_4
         try clear hfz5_5
         try clear hfz5_6
         try clear hfz5_7
         try clear hx131_0
         try clear hx131_1
         try clear hx131_2
         try clear hx131_3
         try clear hx131_4
         try clear hx131_5
         try clear hx131_6
         try clear hx131_7
         try clear hx134_0
         try clear hx134_1
         try clear hx134_2
         try clear hx134_3
         try clear hx134_4
         try clear hx134_5
         try clear hx134_6
         try clear hx134_7
         try clear p1
         try clear p13
         try clear p131
         try clear p134
         try clear p2
         try clear p6
         try clear q1
         try clear q13
         try clear q131
         try clear q134
         obtain ⟨x131002_3, u131002, HA, HK3, HO_131002, HO_131003, BK129, BK130, BK135, HB⟩ := hrel
         cases gk with
         | zero => exact absurd HA.out (by simp [ref16_Lay.l2])
         | succ k3 =>
          have H := HA.out
          clear HA
          simp only [ref16_Lay.l2] at H
          by_cases c45 : (x131002_3.length : Int) < t136
          ·
           rw [if_pos c45] at H
           have c45b0 : decide ((x131002_3.length : Int) < t136) = true := decide_eq_true c45
           clear c45
           by_cases c46 : x131002_3.length < 140737488355328
           rotate_left
           ·
            rw [if_neg c46] at H
            exact absurd H (by simp)
           rw [if_pos c46] at H
           have LMc46 := Aside0.mk c46
           clear c46
           obtain ⟨y140, hy140⟩ : ∃ y_ : List Int, y_ = (x131002_3 ++ [0]) := ⟨_, rfl⟩
           replace H : (ref16_Lay.l2 k3 t136 l0 (l0.length : Int) x24_2 x131000_2 x131001_2 y140 y137 false ((rd_T31 l0 x24_2).f0) ((rd_T31 l0 x24_2).f1) ((rd_T31 l0 x24_2).f2) ((rd_T31 l0 x24_2).f3) ((rd_T31 l0 x24_2).f4) ((rd_T31 l0 x24_2).f5) ((rd_T31 l0 x24_2).f6) ((rd_T31 l0 x24_2).f7)) = some (r1, r2, r3, r4, r5, r6, r7, r8, r9) := by first | (rw [hy140]; with_reducible exact H) | (have H2_ := (Option.bind_some _ _).symm.trans H; rw [hy140]; with_reducible exact H2_) | (have H2_ := (Option.bind_some _ _).symm.trans H; with_reducible exact H2_) | with_reducible exact H | (rw [hy140]; exact H) | exact H
           have Ny140 := Aside0.mk hy140
           clear hy140
           have H' := Aside0.mk H
           clear H
           have hnb47 := NB130_129.out
           have hnc47 := NB129_130.out
           have hnb48 := NB130_135.out
           have hnc48 := NB135_130.out
           have hcz49_0 : wr.cell? ⟨gb130, 0, none⟩ = some (.int .i64 x131000_2) := (blk_cell BK130.out 0).trans rfl
           have hcz49_1 : wr.cell? ⟨gb130, 1, none⟩ = some (.int .i64 x131001_2) := (blk_cell BK130.out 1).trans rfl
           have hcz49_2 : wr.cell? ⟨gb130, 2, none⟩ = some (u131002) := (blk_cell BK130.out 2).trans rfl
           have hcz49_3 : wr.cell? ⟨gb130, 3, none⟩ = some (.slice Ao43 y137.length co43) := (blk_cell BK130.out 3).trans rfl
           have hcz49_4 : wr.cell? ⟨gb130, 4, none⟩ = some (.slice none 0 0) := (blk_cell BK130.out 4).trans rfl
           have hcz49_5 : wr.cell? ⟨gb130, 5, none⟩ = some (.slice none 0 0) := (blk_cell BK130.out 5).trans rfl
           have hcz49_6 : wr.cell? ⟨gb130, 6, none⟩ = some (.slice none 0 0) := (blk_cell BK130.out 6).trans rfl
           have hcz49_7 : wr.cell? ⟨gb130, 7, none⟩ = some (.bool false) := (blk_cell BK130.out 7).trans rfl
           have hfz49_0 := blk_frozen BK130.out 0
           have hfz49_1 := blk_frozen BK130.out 1
           have hfz49_2 := blk_frozen BK130.out 2
           have hfz49_3 := blk_frozen BK130.out 3
           have hfz49_4 := blk_frozen BK130.out 4
           have hfz49_5 := blk_frozen BK130.out 5
           have hfz49_6 := blk_frozen BK130.out 6
           have hfz49_7 := blk_frozen BK130.out 7
           obtain ⟨Ao50, co50, eo50⟩ := Kd.R_slice HO_131002.out
           subst eo50
           go_wp2_with (first | ((with_reducible refine gate_builtin (b := .append) (xs := #[.tmp 51, .tmp 52]) rfl ?_); at_builtin; refine Kd.R_append (Kd.int .u8) (w0 := w) w.heap.size rfl (.tmp 51) (.tmp 52) 27 5 (.int .u8 0) 1 rfl Try.underlying27 info5 rfl (by decide) (by omega) (.slice Ao50 x131002_3.length co50) x131002_3 0 [.int .u8 0] (fun _ => True) (fun _ => False) rfl rfl ?aP (fun _ hk => hk.elim) ?aF ?aO ?aB ?aS ?aL ?_; (case aP => exact rfl); (case aB => exact (hb3_ HB.out GE129.out GE130.out GE135.out)); (case aF => exact (fun _ _ => trivial)); (case aO => exact (kR_ HO_131002.out)); (case aS => exact (below_size (hb3_ HB.out GE129.out GE130.out GE135.out))); (case aL => have := LMc46.out; omega); intro v141 w51 ho hb hg hat; rw [← Ny140.out] at ho; have n0_ := Aside0.mk (Kd.R_over' (kR_ HO_131003.out) (Kd.R_typed (kR_ HO_131002.out)) (by decide) hg); have n1_ := Aside0.mk (blk_grown (g := gb129) (o := .cells #[.int .i64 x130000_2, .int .i64 x130001_2, .slice none 0 0, .slice none 0 0, .slice none 0 0, .slice none 0 0, .slice none 0 0, .bool x130007_2] 31 (0, 0)) (bk_ BK129.out) hg (Kd.R_ne HO_131002.out BK129.out (by decide))); have n2_ := Aside0.mk (blk_grown (g := gb130) (o := .cells #[.int .i64 x131000_2, .int .i64 x131001_2, .slice Ao50 x131002_3.length co50, .slice Ao43 y137.length co43, .slice none 0 0, .slice none 0 0, .slice none 0 0, .bool false] 31 (0, 0)) (bk_ BK130.out) hg (Kd.R_ne HO_131002.out BK130.out (by decide))); have n3_ := Aside0.mk (blk_grown (g := gb135) (o := .cells #[.int .i64 ((rd_T31 l0 x24_2).f0), .int .i64 ((rd_T31 l0 x24_2).f1), .slice A134_2 ((rd_T31 l0 x24_2).f2).length c134_2, .slice A134_3 ((rd_T31 l0 x24_2).f3).length c134_3, .slice A134_4 ((rd_T31 l0 x24_2).f4).length c134_4, .slice A134_5 ((rd_T31 l0 x24_2).f5).length c134_5, .slice A134_6 ((rd_T31 l0 x24_2).f6).length c134_6, .bool ((rd_T31 l0 x24_2).f7)] 31 (0, 0)) (bk_ BK135.out) hg (Kd.R_ne HO_131002.out BK135.out (by decide))); have n4_ := Aside0.mk (hb); have n5_ := Aside0.mk (ho); clear HO_131003 BK129 BK130 BK135 HB HO_131002; have HO_131003 := n0_; have BK129 := n1_; have BK130 := n2_; have BK135 := n3_; have HB := n4_; have HO142 := n5_; clear n0_ n1_ n2_ n3_ n4_ n5_ ho hb hg hat; obtain ⟨Ao52, co52, eo52⟩ := Kd.R_slice HO142.out; subst eo52; have hcz53_0 : w51.cell? ⟨gb130, 0, none⟩ = some (.int .i64 x131000_2) := (blk_cell BK130.out 0).trans rfl; have hcz53_1 : w51.cell? ⟨gb130, 1, none⟩ = some (.int .i64 x131001_2) := (blk_cell BK130.out 1).trans rfl; have hcz53_2 : w51.cell? ⟨gb130, 2, none⟩ = some (.slice Ao50 x131002_3.length co50) := (blk_cell BK130.out 2).trans rfl; have hcz53_3 : w51.cell? ⟨gb130, 3, none⟩ = some (.slice Ao43 y137.length co43) := (blk_cell BK130.out 3).trans rfl; have hcz53_4 : w51.cell? ⟨gb130, 4, none⟩ = some (.slice none 0 0) := (blk_cell BK130.out 4).trans rfl; have hcz53_5 : w51.cell? ⟨gb130, 5, none⟩ = some (.slice none 0 0) := (blk_cell BK130.out 5).trans rfl; have hcz53_6 : w51.cell? ⟨gb130, 6, none⟩ = some (.slice none 0 0) := (blk_cell BK130.out 6).trans rfl; have hcz53_7 : w51.cell? ⟨gb130, 7, none⟩ = some (.bool false) := (blk_cell BK130.out 7).trans rfl; have hfz53_0 := blk_frozen BK130.out 0; have hfz53_1 := blk_frozen BK130.out 1; have hfz53_2 := blk_frozen BK130.out 2; have hfz53_3 := blk_frozen BK130.out 3; have hfz53_4 := blk_frozen BK130.out 4; have hfz53_5 := blk_frozen BK130.out 5; have hfz53_6 := blk_frozen BK130.out 6; have hfz53_7 := blk_frozen BK130.out 7))
           go_roundg k3
           case measure => have := HK1.out; have := HK2.out; have := HK3.out; omega
           case rel => exact ⟨(y140), (.slice Ao52 y140.length co52), H', ⟨by have := HK1.out; have := HK2.out; have := HK3.out; omega⟩, ⟨by (with_reducible repeat (first | apply Kd.R_alloc | apply Kd.R_drewN | apply Kd.R_drew)); exact Kd.R_mono (Kd.R_far (p := ⟨gb130, 2, none⟩) (Kd.R_types HO142.out BK130.out (by decide)) (fun _ hk => hk.2) (.slice Ao52 y140.length co52)) (fun _ hk => trivial)⟩, ⟨by (with_reducible repeat (first | apply Kd.R_alloc | apply Kd.R_drewN | apply Kd.R_drew)); exact Kd.R_mono (Kd.R_far (p := ⟨gb130, 2, none⟩) (Kd.R_types HO_131003.out BK130.out (by decide)) (fun _ hk => hk.2) (.slice Ao52 y140.length co52)) (fun _ hk => trivial)⟩, ⟨by (with_reducible repeat (first | refine blk_drewN ?_ _ | refine blk_drew ?_ | refine blk_alloc ?_ _)); refine blk_far ?_ NB129_130.out _; (with_reducible repeat (first | refine blk_drewN ?_ _ | refine blk_drew ?_ | refine blk_alloc ?_ _)); exact BK129.out⟩, ⟨by (with_reducible repeat (first | refine blk_drewN ?_ _ | refine blk_drew ?_ | refine blk_alloc ?_ _)); refine blk_put (cs := #[.int .i64 x131000_2, .int .i64 x131001_2, .slice Ao50 x131002_3.length co50, .slice Ao43 y137.length co43, .slice none 0 0, .slice none 0 0, .slice none 0 0, .bool false]) ?_ 2 _ rfl; (with_reducible repeat (first | refine blk_drewN ?_ _ | refine blk_drew ?_ | refine blk_alloc ?_ _)); exact BK130.out⟩, ⟨by (with_reducible repeat (first | refine blk_drewN ?_ _ | refine blk_drew ?_ | refine blk_alloc ?_ _)); refine blk_far ?_ NB135_130.out _; (with_reducible repeat (first | refine blk_drewN ?_ _ | refine blk_drew ?_ | refine blk_alloc ?_ _)); exact BK135.out⟩, ⟨by repeat (first | (with_reducible first | exact HB.out | apply below_alloc | apply pw_below_drewN | apply below_drew1 | refine below_set ?_ GE129.out | refine below_set ?_ GE130.out | refine below_set ?_ GE135.out) | exact HB.out)⟩⟩
          ·
           rw [if_neg c45] at H
           have c45b0 : decide ((x131002_3.length : Int) < t136) = false := decide_eq_false c45
           clear c45
           by_cases c54 : x131002_3.length + ((rd_T31 l0 x24_2).f2).length < 140737488355328
           rotate_left
           ·
            rw [if_neg c54] at H
            exact absurd H (by simp)
           rw [if_pos c54] at H
           have LMc54 := Aside0.mk c54
           clear c54
           obtain ⟨y143, hy143⟩ : ∃ y_ : List Int, y_ = (x131002_3 ++ ((rd_T31 l0 x24_2).f2)) := ⟨_, rfl⟩
           replace H : (ref16_Lay.l1 k3 l0 (l0.length : Int) (wrap64 (x24_2 + 1)) (wrap64 (t136 + ((rd_T31 l0 x24_2).f0))) (mx x131001_2 ((rd_T31 l0 x24_2).f1)) y143 y137 false) = some (r1, r2, r3, r4, r5, r6, r7, r8, r9) := by first | (rw [hy143]; with_reducible exact H) | (have H2_ := (Option.bind_some _ _).symm.trans H; rw [hy143]; with_reducible exact H2_) | (have H2_ := (Option.bind_some _ _).symm.trans H; with_reducible exact H2_) | with_reducible exact H | (rw [hy143]; exact H) | exact H
           have Ny143 := Aside0.mk hy143
           clear hy143
           obtain ⟨ji55, hji55⟩ : ∃ j_ : Int, (mx x131001_2 ((rd_T31 l0 x24_2).f1)) = j_ := ⟨_, rfl⟩
           replace H : (ref16_Lay.l1 k3 l0 (l0.length : Int) (wrap64 (x24_2 + 1)) (wrap64 (t136 + ((rd_T31 l0 x24_2).f0))) ji55 y143 y137 false) = some (r1, r2, r3, r4, r5, r6, r7, r8, r9) := by first | (rw [hji55] at H; exact H) | (simp only [hji55] at H ⊢; exact H)
           have hji55_ : (if x131001_2 < ((rd_T31 l0 x24_2).f1) then ((rd_T31 l0 x24_2).f1) else x131001_2) = ji55 := hji55
           have H' := Aside0.mk H
           clear H
           have hnb56 := NB130_129.out
           have hnc56 := NB129_130.out
           have hnb57 := NB130_135.out
           have hnc57 := NB135_130.out
           have hcz58_0 : wr.cell? ⟨gb130, 0, none⟩ = some (.int .i64 x131000_2) := (blk_cell BK130.out 0).trans rfl
           have hcz58_1 : wr.cell? ⟨gb130, 1, none⟩ = some (.int .i64 x131001_2) := (blk_cell BK130.out 1).trans rfl
           have hcz58_2 : wr.cell? ⟨gb130, 2, none⟩ = some (u131002) := (blk_cell BK130.out 2).trans rfl
           have hcz58_3 : wr.cell? ⟨gb130, 3, none⟩ = some (.slice Ao43 y137.length co43) := (blk_cell BK130.out 3).trans rfl
           have hcz58_4 : wr.cell? ⟨gb130, 4, none⟩ = some (.slice none 0 0) := (blk_cell BK130.out 4).trans rfl
           have hcz58_5 : wr.cell? ⟨gb130, 5, none⟩ = some (.slice none 0 0) := (blk_cell BK130.out 5).trans rfl
           have hcz58_6 : wr.cell? ⟨gb130, 6, none⟩ = some (.slice none 0 0) := (blk_cell BK130.out 6).trans rfl
           have hcz58_7 : wr.cell? ⟨gb130, 7, none⟩ = some (.bool false) := (blk_cell BK130.out 7).trans rfl
           have hfz58_0 := blk_frozen BK130.out 0
           have hfz58_1 := blk_frozen BK130.out 1
           have hfz58_2 := blk_frozen BK130.out 2
           have hfz58_3 := blk_frozen BK130.out 3
           have hfz58_4 := blk_frozen BK130.out 4
           have hfz58_5 := blk_frozen BK130.out 5
           have hfz58_6 := blk_frozen BK130.out 6
           have hfz58_7 := blk_frozen BK130.out 7
           obtain ⟨Ao59, co59, eo59⟩ := Kd.R_slice HO_131002.out
           subst eo59
           have hnb60 := NB135_129.out
           have hnc60 := NB129_135.out
           have hcz61_0 : wr.cell? ⟨gb135, 0, none⟩ = some (.int .i64 ((rd_T31 l0 x24_2).f0)) := (blk_cell BK135.out 0).trans rfl
           have hcz61_1 : wr.cell? ⟨gb135, 1, none⟩ = some (.int .i64 ((rd_T31 l0 x24_2).f1)) := (blk_cell BK135.out 1).trans rfl
           have hcz61_2 : wr.cell? ⟨gb135, 2, none⟩ = some (.slice A134_2 ((rd_T31 l0 x24_2).f2).length c134_2) := (blk_cell BK135.out 2).trans rfl
           have hcz61_3 : wr.cell? ⟨gb135, 3, none⟩ = some (.slice A134_3 ((rd_T31 l0 x24_2).f3).length c134_3) := (blk_cell BK135.out 3).trans rfl
           have hcz61_4 : wr.cell? ⟨gb135, 4, none⟩ = some (.slice A134_4 ((rd_T31 l0 x24_2).f4).length c134_4) := (blk_cell BK135.out 4).trans rfl
           have hcz61_5 : wr.cell? ⟨gb135, 5, none⟩ = some (.slice A134_5 ((rd_T31 l0 x24_2).f5).length c134_5) := (blk_cell BK135.out 5).trans rfl
           have hcz61_6 : wr.cell? ⟨gb135, 6, none⟩ = some (.slice A134_6 ((rd_T31 l0 x24_2).f6).length c134_6) := (blk_cell BK135.out 6).trans rfl
           have hcz61_7 : wr.cell? ⟨gb135, 7, none⟩ = some (.bool ((rd_T31 l0 x24_2).f7)) := (blk_cell BK135.out 7).trans rfl
           have hfz61_0 := blk_frozen BK135.out 0
           have hfz61_1 := blk_frozen BK135.out 1
           have hfz61_2 := blk_frozen BK135.out 2
           have hfz61_3 := blk_frozen BK135.out 3
           have hfz61_4 := blk_frozen BK135.out 4
           have hfz61_5 := blk_frozen BK135.out 5
           have hfz61_6 := blk_frozen BK135.out 6
           have hfz61_7 := blk_frozen BK135.out 7
           try go_wp2_with (first | ((with_reducible refine gate_builtin (b := .append) (xs := #[.tmp 56, .tmp 58]) rfl ?_); at_builtin; refine Kd.R_append_rows (Kd.int .u8) (w0 := w) w.heap.size rfl (.tmp 56) (.tmp 58) 27 5 (.int .u8 0) 1 rfl Try.underlying27 info5 rfl (by decide) (by omega) (.slice Ao59 x131002_3.length co59) x131002_3 ((rd_T31 l0 x24_2).f2) _ _ _ (fun _ => True) (fun _ => False) rfl rfl ?aO ?aR (fun _ _ h => h) (fun _ h => h.elim) ?aF ?aB ?aS ?aL ?_; (case aR => repeat (first | exact (Kd.C_below HR134_2.out HB.out) | (with_reducible refine Kd.C_alloc ?_ _) | (with_reducible refine Kd.C_drewN ?_ _) | (with_reducible refine Kd.C_drew ?_))); (case aB => exact (hb3_ HB.out GE129.out GE130.out GE135.out)); (case aF => exact (fun _ _ => trivial)); (case aO => exact (kR_ HO_131002.out)); (case aS => exact (below_size (hb3_ HB.out GE129.out GE130.out GE135.out))); (case aL => have := LMc54.out; omega); intro v144 w62 ho hb hg hat; rw [← Ny143.out] at ho; have n0_ := Aside0.mk (Kd.R_over' (kR_ HO_131003.out) (Kd.R_typed (kR_ HO_131002.out)) (by decide) hg); have n1_ := Aside0.mk (blk_grown (g := gb129) (o := .cells #[.int .i64 x130000_2, .int .i64 x130001_2, .slice none 0 0, .slice none 0 0, .slice none 0 0, .slice none 0 0, .slice none 0 0, .bool x130007_2] 31 (0, 0)) (bk_ BK129.out) hg (Kd.R_ne HO_131002.out BK129.out (by decide))); have n2_ := Aside0.mk (blk_grown (g := gb130) (o := .cells #[.int .i64 x131000_2, .int .i64 x131001_2, .slice Ao59 x131002_3.length co59, .slice Ao43 y137.length co43, .slice none 0 0, .slice none 0 0, .slice none 0 0, .bool false] 31 (0, 0)) (bk_ BK130.out) hg (Kd.R_ne HO_131002.out BK130.out (by decide))); have n3_ := Aside0.mk (blk_grown (g := gb135) (o := .cells #[.int .i64 ((rd_T31 l0 x24_2).f0), .int .i64 ((rd_T31 l0 x24_2).f1), .slice A134_2 ((rd_T31 l0 x24_2).f2).length c134_2, .slice A134_3 ((rd_T31 l0 x24_2).f3).length c134_3, .slice A134_4 ((rd_T31 l0 x24_2).f4).length c134_4, .slice A134_5 ((rd_T31 l0 x24_2).f5).length c134_5, .slice A134_6 ((rd_T31 l0 x24_2).f6).length c134_6, .bool ((rd_T31 l0 x24_2).f7)] 31 (0, 0)) (bk_ BK135.out) hg (Kd.R_ne HO_131002.out BK135.out (by decide))); have n4_ := Aside0.mk (hb); have n5_ := Aside0.mk (ho); clear HO_131003 BK129 BK130 BK135 HB HO_131002; have HO_131003 := n0_; have BK129 := n1_; have BK130 := n2_; have BK135 := n3_; have HB := n4_; have HO145 := n5_; clear n0_ n1_ n2_ n3_ n4_ n5_ ho hb hg hat; obtain ⟨Ao63, co63, eo63⟩ := Kd.R_slice HO145.out; subst eo63; have hcz64_0 : w62.cell? ⟨gb130, 0, none⟩ = some (.int .i64 x131000_2) := (blk_cell BK130.out 0).trans rfl; have hcz64_1 : w62.cell? ⟨gb130, 1, none⟩ = some (.int .i64 x131001_2) := (blk_cell BK130.out 1).trans rfl; have hcz64_2 : w62.cell? ⟨gb130, 2, none⟩ = some (.slice Ao59 x131002_3.length co59) := (blk_cell BK130.out 2).trans rfl; have hcz64_3 : w62.cell? ⟨gb130, 3, none⟩ = some (.slice Ao43 y137.length co43) := (blk_cell BK130.out 3).trans rfl; have hcz64_4 : w62.cell? ⟨gb130, 4, none⟩ = some (.slice none 0 0) := (blk_cell BK130.out 4).trans rfl; have hcz64_5 : w62.cell? ⟨gb130, 5, none⟩ = some (.slice none 0 0) := (blk_cell BK130.out 5).trans rfl; have hcz64_6 : w62.cell? ⟨gb130, 6, none⟩ = some (.slice none 0 0) := (blk_cell BK130.out 6).trans rfl; have hcz64_7 : w62.cell? ⟨gb130, 7, none⟩ = some (.bool false) := (blk_cell BK130.out 7).trans rfl; have hfz64_0 := blk_frozen BK130.out 0; have hfz64_1 := blk_frozen BK130.out 1; have hfz64_2 := blk_frozen BK130.out 2; have hfz64_3 := blk_frozen BK130.out 3; have hfz64_4 := blk_frozen BK130.out 4; have hfz64_5 := blk_frozen BK130.out 5; have hfz64_6 := blk_frozen BK130.out 6; have hfz64_7 := blk_frozen BK130.out 7))
           have n0_ : Aside0 (Kd.R (Kd.int .i64) 3 (w62.setCell ⟨gb130, 2, none⟩ (.slice Ao63 y143.length co63)) w.heap.size (fun _ => True) (.slice Ao43 y137.length co43) y137) := ⟨by (with_reducible repeat (first | apply Kd.R_alloc | apply Kd.R_drewN | apply Kd.R_drew)); exact Kd.R_mono (Kd.R_far (p := ⟨gb130, 2, none⟩) (Kd.R_types HO_131003.out BK130.out (by decide)) (fun _ hk => hk.2) (.slice Ao63 y143.length co63)) (fun _ hk => trivial)⟩
           have n1_ : Aside0 (Kd.R (Kd.int .u8) 5 (w62.setCell ⟨gb130, 2, none⟩ (.slice Ao63 y143.length co63)) w.heap.size (fun _ => True) (.slice Ao63 y143.length co63) y143) := ⟨by (with_reducible repeat (first | apply Kd.R_alloc | apply Kd.R_drewN | apply Kd.R_drew)); exact Kd.R_mono (Kd.R_far (p := ⟨gb130, 2, none⟩) (Kd.R_types HO145.out BK130.out (by decide)) (fun _ hk => hk.2) (.slice Ao63 y143.length co63)) (fun _ hk => trivial)⟩
           have n2_ : Aside0 ((w62.setCell ⟨gb130, 2, none⟩ (.slice Ao63 y143.length co63)).heap[gb129]? = some (.cells #[.int .i64 x130000_2, .int .i64 x130001_2, .slice none 0 0, .slice none 0 0, .slice none 0 0, .slice none 0 0, .slice none 0 0, .bool x130007_2] 31 (0, 0))) := ⟨by (with_reducible repeat (first | refine blk_drewN ?_ _ | refine blk_drew ?_ | refine blk_alloc ?_ _)); refine blk_far ?_ NB129_130.out _; (with_reducible repeat (first | refine blk_drewN ?_ _ | refine blk_drew ?_ | refine blk_alloc ?_ _)); exact BK129.out⟩
           have n3_ : Aside0 ((w62.setCell ⟨gb130, 2, none⟩ (.slice Ao63 y143.length co63)).heap[gb130]? = some (.cells #[.int .i64 x131000_2, .int .i64 x131001_2, .slice Ao63 y143.length co63, .slice Ao43 y137.length co43, .slice none 0 0, .slice none 0 0, .slice none 0 0, .bool false] 31 (0, 0))) := ⟨by (with_reducible repeat (first | refine blk_drewN ?_ _ | refine blk_drew ?_ | refine blk_alloc ?_ _)); refine blk_put (cs := #[.int .i64 x131000_2, .int .i64 x131001_2, .slice Ao59 x131002_3.length co59, .slice Ao43 y137.length co43, .slice none 0 0, .slice none 0 0, .slice none 0 0, .bool false]) ?_ 2 _ rfl; (with_reducible repeat (first | refine blk_drewN ?_ _ | refine blk_drew ?_ | refine blk_alloc ?_ _)); exact BK130.out⟩
           have n4_ : Aside0 ((w62.setCell ⟨gb130, 2, none⟩ (.slice Ao63 y143.length co63)).heap[gb135]? = some (.cells #[.int .i64 ((rd_T31 l0 x24_2).f0), .int .i64 ((rd_T31 l0 x24_2).f1), .slice A134_2 ((rd_T31 l0 x24_2).f2).length c134_2, .slice A134_3 ((rd_T31 l0 x24_2).f3).length c134_3, .slice A134_4 ((rd_T31 l0 x24_2).f4).length c134_4, .slice A134_5 ((rd_T31 l0 x24_2).f5).length c134_5, .slice A134_6 ((rd_T31 l0 x24_2).f6).length c134_6, .bool ((rd_T31 l0 x24_2).f7)] 31 (0, 0))) := ⟨by (with_reducible repeat (first | refine blk_drewN ?_ _ | refine blk_drew ?_ | refine blk_alloc ?_ _)); refine blk_far ?_ NB135_130.out _; (with_reducible repeat (first | refine blk_drewN ?_ _ | refine blk_drew ?_ | refine blk_alloc ?_ _)); exact BK135.out⟩
           have n5_ : Aside0 (Below w.heap.size w (w62.setCell ⟨gb130, 2, none⟩ (.slice Ao63 y143.length co63))) := ⟨by repeat (first | (with_reducible first | exact HB.out | apply below_alloc | apply pw_below_drewN | apply below_drew1 | refine below_set ?_ GE129.out | refine below_set ?_ GE130.out | refine below_set ?_ GE135.out) | exact HB.out)⟩
           (try clear HO_131003)
           (try clear HO145)
           (try clear BK129)
           (try clear BK130)
           (try clear BK135)
           (try clear HB)
           generalize (w62.setCell ⟨gb130, 2, none⟩ (.slice Ao63 y143.length co63)) = w65 at n0_ n1_ n2_ n3_ n4_ n5_ ⊢
           have HO_131003 := n0_
           have HO145 := n1_
           have BK129 := n2_
           have BK130 := n3_
           have BK135 := n4_
           have HB := n5_
           clear n0_ n1_ n2_ n3_ n4_ n5_
           have n0_ := Aside0.mk (Kd.R_drew HO_131003.out)
           have n1_ := Aside0.mk (Kd.R_drew HO145.out)
           have n2_ := Aside0.mk (blk_drew BK129.out)
           have n3_ := Aside0.mk (blk_drew BK130.out)
           have n4_ := Aside0.mk (blk_drew BK135.out)
           have n5_ := Aside0.mk (below_drew1 HB.out)
           clear HO_131003
           clear HO145
           clear BK129
           clear BK130
           clear BK135
           clear HB
           have HO_131003 := n0_
           have HO145 := n1_
           have BK129 := n2_
           have BK130 := n3_
           have BK135 := n4_
           have HB := n5_
           clear n0_ n1_ n2_ n3_ n4_ n5_
           refine start_ (n := 13) (S := fun w' => w'.cell? ⟨gb135, 0, none⟩ = some (.int .i64 ((rd_T31 l0 x24_2).f0)) ∧ w'.cell? ⟨gb135, 1, none⟩ = some (.int .i64 ((rd_T31 l0 x24_2).f1)) ∧ w'.cell? ⟨gb130, 1, none⟩ = some (.int .i64 x131001_2)) (ds := [12]) #[false,false,false,false,false,false,false,false,false,false,false,false,false] (by kernel_rfl) rfl rfl ⟨(blk_cell BK135.out 0).trans rfl, (blk_cell BK135.out 1).trans rfl, (blk_cell BK130.out 1).trans rfl⟩ (fun hHeld => ?_); refine with_tabW ref16_Lay.tab18 ref16_Lay.bits18 (fun HT_ HW_ => ?_)
           generalize w65.drew = w66 at HO_131003 HO145 BK129 BK130 BK135 HB hHeld ⊢
           refine pure_ (i := 0) (N := some 61) (v := ?_) (a' := ?_) #[true,false,false,false,false,false,false,false,false,false,false,false,false] rfl rfl (any_of HT_.out (by kernel_rfl)) (fun _ _ _ h => h) (Or.inl ⟨by rfl, ?_⟩) ?_ ?_
           rotate_left
           ·
            intro w'
            go_simp
            with_reducible rfl
           rotate_left
           ·
            simp only [Act.put, setIfInBounds_toArray, set_cons_zero, set_cons_succ, i64_w, i32_w]
            rfl
           refine pure_ (i := 1) (N := some 62) (v := ?_) (a' := ?_) #[true,true,false,false,false,false,false,false,false,false,false,false,false] rfl rfl (any_of HT_.out (by kernel_rfl)) (fun _ _ _ h => h) (Or.inl ⟨by rfl, ?_⟩) ?_ ?_
           rotate_left
           ·
            intro w'
            go_simp
            with_reducible rfl
           rotate_left
           ·
            simp only [Act.put, setIfInBounds_toArray, set_cons_zero, set_cons_succ, i64_w, i32_w]
            rfl
           refine pure_ (i := 4) (N := some 65) (v := ?_) (a' := ?_) #[true,true,false,false,true,false,false,false,false,false,false,false,false] rfl rfl (any_of HT_.out (by kernel_rfl)) (fun _ _ _ h => h) (Or.inl ⟨by rfl, ?_⟩) ?_ ?_
           rotate_left
           ·
            intro w'
            go_simp
            with_reducible rfl
           rotate_left
           ·
            simp only [Act.put, setIfInBounds_toArray, set_cons_zero, set_cons_succ, i64_w, i32_w]
            rfl
           refine pure_ (i := 6) (N := some 67) (v := ?_) (a' := ?_) #[true,true,false,false,true,false,true,false,false,false,false,false,false] rfl rfl (any_of HT_.out (by kernel_rfl)) (fun _ _ _ h => h) (Or.inl ⟨by rfl, ?_⟩) ?_ ?_
           rotate_left
           ·
            intro w'
            go_simp
            with_reducible rfl
           rotate_left
           ·
            simp only [Act.put, setIfInBounds_toArray, set_cons_zero, set_cons_succ, i64_w, i32_w]
            rfl
           refine take_ (i := 2) (N := some 63) (v := ?_) (a' := ?_) #[true,true,true,false,true,false,true,false,false,false,false,false,false] rfl rfl (take_ofW HT_.out HW_.out (by kernel_rfl)) (fun _ _ _ h => h) (Or.inl ⟨by rfl, ?_⟩) hHeld ?_ ?_
           rotate_left
           ·
            rintro w' ⟨s0, s1, s2⟩
            go_simp
            with_reducible rfl
           rotate_left
           ·
            simp only [Act.put, setIfInBounds_toArray, set_cons_zero, set_cons_succ, i64_w, i32_w]
            rfl
           refine pure_ (i := 3) (N := some 64) (v := ?_) (a' := ?_) #[true,true,true,true,true,false,true,false,false,false,false,false,false] rfl rfl (any_of HT_.out (by kernel_rfl)) (fun _ _ _ h => h) (Or.inl ⟨by rfl, ?_⟩) ?_ ?_
           rotate_left
           ·
            intro w'
            go_simp
            with_reducible rfl
           rotate_left
           ·
            simp only [Act.put, setIfInBounds_toArray, set_cons_zero, set_cons_succ, i64_w, i32_w]
            rfl
           refine take_ (i := 5) (N := some 66) (v := ?_) (a' := ?_) #[true,true,true,true,true,true,true,false,false,false,false,false,false] rfl rfl (take_ofW HT_.out HW_.out (by kernel_rfl)) (fun _ _ _ h => h) (Or.inl ⟨by rfl, ?_⟩) hHeld ?_ ?_
           rotate_left
           ·
            rintro w' ⟨s0, s1, s2⟩
            go_simp
            with_reducible rfl
           rotate_left
           ·
            simp only [Act.put, setIfInBounds_toArray, set_cons_zero, set_cons_succ, i64_w, i32_w]
            rfl
           refine pure_ (i := 9) (N := some 70) (v := ?_) (a' := ?_) #[true,true,true,true,true,true,true,false,false,true,false,false,false] rfl rfl (any_of HT_.out (by kernel_rfl)) (fun _ _ _ h => h) (Or.inl ⟨by rfl, ?_⟩) ?_ ?_
           rotate_left
           ·
            intro w'
            go_simp
            with_reducible rfl
           rotate_left
           ·
            simp only [Act.put, setIfInBounds_toArray, set_cons_zero, set_cons_succ, i64_w, i32_w]
            rfl
           refine take_ (i := 7) (N := some 68) (v := ?_) (a' := ?_) #[true,true,true,true,true,true,true,true,false,true,false,false,false] rfl rfl (take_ofW HT_.out HW_.out (by kernel_rfl)) (fun _ _ _ h => h) (Or.inl ⟨by rfl, ?_⟩) hHeld ?_ ?_
           rotate_left
           ·
            rintro w' ⟨s0, s1, s2⟩
            go_simp
            with_reducible rfl
           rotate_left
           ·
            simp only [Act.put, setIfInBounds_toArray, set_cons_zero, set_cons_succ, i64_w, i32_w]
            rfl
           refine pure_ (i := 8) (N := some 69) (v := ?_) (a' := ?_) #[true,true,true,true,true,true,true,true,true,true,false,false,false] rfl rfl (any_of HT_.out (by kernel_rfl)) (fun _ _ _ h => h) (Or.inl ⟨by rfl, ?_⟩) ?_ ?_
           rotate_left
           ·
            intro w'
            go_simp
            with_reducible rfl
           rotate_left
           ·
            simp only [Act.put, setIfInBounds_toArray, set_cons_zero, set_cons_succ, i64_w, i32_w]
            rfl
           refine one_ (i := 10) (N := none) #[true,true,true,true,true,true,true,true,true,true,true,false,false] rfl rfl (one_of HT_.out (by kernel_rfl)) (by decide) (fun K hK => ?_)
           have hs67 : w66.cell? ⟨gb130, 0, none⟩ = some (.int .i64 x131000_2) := (blk_cell BK130.out 0).trans rfl
           have hfs67 := blk_frozen BK130.out 0
           have hns67_0 := NB129_130.out
           have hns67_2 := NB135_130.out
           have hms67_0 := NB130_129.out
           have hms67_2 := NB130_135.out
           refine skip_ (w1 := ?_) (by rfl) rfl ?_ ?_
           rotate_left
           ·
            go_simp
            rfl
           refine hK.out _ _ ⟨((cell_far (p := ⟨gb130, _, none⟩) NB135_130.out _).trans (hHeld.1)), ((cell_far (p := ⟨gb130, _, none⟩) NB135_130.out _).trans (hHeld.2.1)), ((World.cell?_setCell_other _ ⟨gb130, 0, none⟩ ⟨gb130, 1, none⟩ _ (by simp)).trans (hHeld.2.2))⟩ (fun hHeld => ?_)
           clear hK K
           refine pure_ (i := 11) (N := some 71) (v := ?_) (a' := ?_) #[true,true,true,true,true,true,true,true,true,true,true,true,false] rfl rfl (any_of HT_.out (by kernel_rfl)) (fun _ _ _ h => h) (Or.inl ⟨by rfl, ?_⟩) ?_ ?_
           rotate_left
           ·
            intro w'
            go_simp
            with_reducible rfl
           rotate_left
           ·
            simp only [Act.put, setIfInBounds_toArray, set_cons_zero, set_cons_succ, i64_w, i32_w]
            rfl
           refine last_ (i := 12) (N := none) #[true,true,true,true,true,true,true,true,true,true,true,true,true] rfl rfl (one_of HT_.out (by kernel_rfl)) (by decide) (fun K hK => ?_)
           have hs68 : w66.cell? ⟨gb130, 1, none⟩ = some (.int .i64 x131001_2) := (blk_cell BK130.out 1).trans rfl
           have hfs68 := blk_frozen BK130.out 1
           have hns68_0 := NB129_130.out
           have hns68_2 := NB135_130.out
           have hms68_0 := NB130_129.out
           have hms68_2 := NB130_135.out
           refine skip_ (w1 := ?_) (by rfl) rfl ?_ ?_
           rotate_left
           ·
            go_simp
            rfl
           refine hK.out _ _ ?_
           clear hK K
           refine done_ (done_of HT_.out (by kernel_rfl)) ?_
           try go_wp2
           go_roundg k3
           case measure => have := HK1.out; have := HK2.out; have := HK3.out; omega
           case rel => exact ⟨(wrap64 (x24_2 + 1)), (x130000_2), (x130001_2), (x130007_2), (wrap64 (t136 + ((rd_T31 l0 x24_2).f0))), (ji55), (y143), (y137), (.slice Ao63 y143.length co63), (.slice Ao43 y137.length co43), (by first | rfl | (simp; done) | (simp [*]; done)), H', ⟨by have := HK1.out; have := HK2.out; have := HK3.out; omega⟩, ⟨by (with_reducible repeat (first | apply Kd.R_alloc | apply Kd.R_drewN | apply Kd.R_drew)); exact Kd.R_mono (Kd.R_far (p := ⟨gb130, 1, none⟩) (Kd.R_far (p := ⟨gb130, 0, none⟩) (Kd.R_types HO145.out BK130.out (by decide)) (fun _ hk => hk.2) (.int .i64 (wrap64 (t136 + ((rd_T31 l0 x24_2).f0))))) (fun _ hk => hk.2) (.int .i64 ji55)) (fun _ hk => trivial)⟩, ⟨by (with_reducible repeat (first | apply Kd.R_alloc | apply Kd.R_drewN | apply Kd.R_drew)); exact Kd.R_mono (Kd.R_far (p := ⟨gb130, 1, none⟩) (Kd.R_far (p := ⟨gb130, 0, none⟩) (Kd.R_types HO_131003.out BK130.out (by decide)) (fun _ hk => hk.2) (.int .i64 (wrap64 (t136 + ((rd_T31 l0 x24_2).f0))))) (fun _ hk => hk.2) (.int .i64 ji55)) (fun _ hk => trivial)⟩, ⟨by (with_reducible repeat (first | refine blk_drewN ?_ _ | refine blk_drew ?_ | refine blk_alloc ?_ _)); refine blk_far ?_ NB129_130.out _; (with_reducible repeat (first | refine blk_drewN ?_ _ | refine blk_drew ?_ | refine blk_alloc ?_ _)); refine blk_far ?_ NB129_130.out _; (with_reducible repeat (first | refine blk_drewN ?_ _ | refine blk_drew ?_ | refine blk_alloc ?_ _)); exact BK129.out⟩, ⟨by (with_reducible repeat (first | refine blk_drewN ?_ _ | refine blk_drew ?_ | refine blk_alloc ?_ _)); refine blk_put (cs := #[.int .i64 (wrap64 (t136 + ((rd_T31 l0 x24_2).f0))), .int .i64 x131001_2, .slice Ao63 y143.length co63, .slice Ao43 y137.length co43, .slice none 0 0, .slice none 0 0, .slice none 0 0, .bool false]) ?_ 1 _ rfl; (with_reducible repeat (first | refine blk_drewN ?_ _ | refine blk_drew ?_ | refine blk_alloc ?_ _)); refine blk_put (cs := #[.int .i64 x131000_2, .int .i64 x131001_2, .slice Ao63 y143.length co63, .slice Ao43 y137.length co43, .slice none 0 0, .slice none 0 0, .slice none 0 0, .bool false]) ?_ 0 _ rfl; (with_reducible repeat (first | refine blk_drewN ?_ _ | refine blk_drew ?_ | refine blk_alloc ?_ _)); exact BK130.out⟩, ⟨by repeat (first | (with_reducible first | exact HB.out | apply below_alloc | apply pw_below_drewN | apply below_drew1 | refine below_set ?_ GE129.out | refine below_set ?_ GE130.out | refine below_set ?_ GE135.out) | exact HB.out)⟩⟩
      ·
       rw [if_neg c23] at H
       have c23b0 : decide (x24_2 < (l0.length : Int)) = false := decide_eq_false c23
       clear c23
       simp only [Option.some.injEq, Prod.mk.injEq] at H
       obtain ⟨rfl, rfl, rfl, rfl, rfl, rfl, rfl, rfl, rfl⟩ := H
       have hnb69 := NB130_129.out
       have hnc69 := NB129_130.out
       have hcz70_0 : wr.cell? ⟨gb130, 0, none⟩ = some (.int .i64 x131000_2) := (blk_cell BK130.out 0).trans rfl
       have hcz70_1 : wr.cell? ⟨gb130, 1, none⟩ = some (.int .i64 x131001_2) := (blk_cell BK130.out 1).trans rfl
       have hcz70_2 : wr.cell? ⟨gb130, 2, none⟩ = some (u131002) := (blk_cell BK130.out 2).trans rfl
       have hcz70_3 : wr.cell? ⟨gb130, 3, none⟩ = some (u131003) := (blk_cell BK130.out 3).trans rfl
       have hcz70_4 : wr.cell? ⟨gb130, 4, none⟩ = some (.slice none 0 0) := (blk_cell BK130.out 4).trans rfl
       have hcz70_5 : wr.cell? ⟨gb130, 5, none⟩ = some (.slice none 0 0) := (blk_cell BK130.out 5).trans rfl
       have hcz70_6 : wr.cell? ⟨gb130, 6, none⟩ = some (.slice none 0 0) := (blk_cell BK130.out 6).trans rfl
       have hcz70_7 : wr.cell? ⟨gb130, 7, none⟩ = some (.bool false) := (blk_cell BK130.out 7).trans rfl
       have hfz70_0 := blk_frozen BK130.out 0
       have hfz70_1 := blk_frozen BK130.out 1
       have hfz70_2 := blk_frozen BK130.out 2
       have hfz70_3 := blk_frozen BK130.out 3
       have hfz70_4 := blk_frozen BK130.out 4
       have hfz70_5 := blk_frozen BK130.out 5
       have hfz70_6 := blk_frozen BK130.out 6
       have hfz70_7 := blk_frozen BK130.out 7
       have hcz71_0 : wr.cell? ⟨gb129, 0, none⟩ = some (.int .i64 x130000_2) := (blk_cell BK129.out 0).trans rfl
       have hcz71_1 : wr.cell? ⟨gb129, 1, none⟩ = some (.int .i64 x130001_2) := (blk_cell BK129.out 1).trans rfl
       have hcz71_2 : wr.cell? ⟨gb129, 2, none⟩ = some (.slice none 0 0) := (blk_cell BK129.out 2).trans rfl
       have hcz71_3 : wr.cell? ⟨gb129, 3, none⟩ = some (.slice none 0 0) := (blk_cell BK129.out 3).trans rfl
       have hcz71_4 : wr.cell? ⟨gb129, 4, none⟩ = some (.slice none 0 0) := (blk_cell BK129.out 4).trans rfl
       have hcz71_5 : wr.cell? ⟨gb129, 5, none⟩ = some (.slice none 0 0) := (blk_cell BK129.out 5).trans rfl
       have hcz71_6 : wr.cell? ⟨gb129, 6, none⟩ = some (.slice none 0 0) := (blk_cell BK129.out 6).trans rfl
       have hcz71_7 : wr.cell? ⟨gb129, 7, none⟩ = some (.bool x130007_2) := (blk_cell BK129.out 7).trans rfl
       have hfz71_0 := blk_frozen BK129.out 0
       have hfz71_1 := blk_frozen BK129.out 1
       have hfz71_2 := blk_frozen BK129.out 2
       have hfz71_3 := blk_frozen BK129.out 3
       have hfz71_4 := blk_frozen BK129.out 4
       have hfz71_5 := blk_frozen BK129.out 5
       have hfz71_6 := blk_frozen BK129.out 6
       have hfz71_7 := blk_frozen BK129.out 7
       obtain ⟨Ao72, co72, eo72⟩ := Kd.R_slice HO_131002.out
       subst eo72
       obtain ⟨Ao73, co73, eo73⟩ := Kd.R_slice HO_131003.out
       subst eo73
       go_wp2
       refine bodyPost_ret (results_ct rfl _ _ gb129 31 #[.int .i64 x131000_2, .int .i64 x131001_2, .slice Ao72 x131002_2.length co72, .slice Ao73 x131003_2.length co73, .slice none 0 0, .slice none 0 0, .slice none 0 0, .bool false] (0, 0) _ rfl (by (with_reducible repeat (first | refine blk_drewN ?_ _ | refine blk_drew ?_ | refine blk_alloc ?_ _)); refine blk_put (cs := #[.int .i64 x131000_2, .int .i64 x131001_2, .slice Ao72 x131002_2.length co72, .slice Ao73 x131003_2.length co73, .slice none 0 0, .slice none 0 0, .slice none 0 0, .bool x130007_2]) ?_ 7 _ rfl; (with_reducible repeat (first | refine blk_drewN ?_ _ | refine blk_drew ?_ | refine blk_alloc ?_ _)); refine blk_put (cs := #[.int .i64 x131000_2, .int .i64 x131001_2, .slice Ao72 x131002_2.length co72, .slice Ao73 x131003_2.length co73, .slice none 0 0, .slice none 0 0, .slice none 0 0, .bool x130007_2]) ?_ 6 _ rfl; (with_reducible repeat (first | refine blk_drewN ?_ _ | refine blk_drew ?_ | refine blk_alloc ?_ _)); refine blk_put (cs := #[.int .i64 x131000_2, .int .i64 x131001_2, .slice Ao72 x131002_2.length co72, .slice Ao73 x131003_2.length co73, .slice none 0 0, .slice none 0 0, .slice none 0 0, .bool x130007_2]) ?_ 5 _ rfl; (with_reducible repeat (first | refine blk_drewN ?_ _ | refine blk_drew ?_ | refine blk_alloc ?_ _)); refine blk_put (cs := #[.int .i64 x131000_2, .int .i64 x131001_2, .slice Ao72 x131002_2.length co72, .slice Ao73 x131003_2.length co73, .slice none 0 0, .slice none 0 0, .slice none 0 0, .bool x130007_2]) ?_ 4 _ rfl; (with_reducible repeat (first | refine blk_drewN ?_ _ | refine blk_drew ?_ | refine blk_alloc ?_ _)); refine blk_put (cs := #[.int .i64 x131000_2, .int .i64 x131001_2, .slice Ao72 x131002_2.length co72, .slice none 0 0, .slice none 0 0, .slice none 0 0, .slice none 0 0, .bool x130007_2]) ?_ 3 _ rfl; (with_reducible repeat (first | refine blk_drewN ?_ _ | refine blk_drew ?_ | refine blk_alloc ?_ _)); refine blk_put (cs := #[.int .i64 x131000_2, .int .i64 x131001_2, .slice none 0 0, .slice none 0 0, .slice none 0 0, .slice none 0 0, .slice none 0 0, .bool x130007_2]) ?_ 2 _ rfl; (with_reducible repeat (first | refine blk_drewN ?_ _ | refine blk_drew ?_ | refine blk_alloc ?_ _)); refine blk_put (cs := #[.int .i64 x131000_2, .int .i64 x130001_2, .slice none 0 0, .slice none 0 0, .slice none 0 0, .slice none 0 0, .slice none 0 0, .bool x130007_2]) ?_ 1 _ rfl; (with_reducible repeat (first | refine blk_drewN ?_ _ | refine blk_drew ?_ | refine blk_alloc ?_ _)); refine blk_put (cs := #[.int .i64 x130000_2, .int .i64 x130001_2, .slice none 0 0, .slice none 0 0, .slice none 0 0, .slice none 0 0, .slice none 0 0, .bool x130007_2]) ?_ 0 _ rfl; (with_reducible repeat (first | refine blk_drewN ?_ _ | refine blk_drew ?_ | refine blk_alloc ?_ _)); exact BK129.out) Try.underlying31 rfl (by kernel_rfl)) rfl ?_
       exact ⟨_, _, _, _, _, by first | rfl | (simp [errW_none, errW_some] <;> rfl) | (simp [*, errW_none, errW_some] <;> rfl), by (with_reducible repeat (first | apply Kd.R_alloc | apply Kd.R_drewN | apply Kd.R_drew)); exact Kd.R_mono (Kd.R_far (p := ⟨gb129, 7, none⟩) (Kd.R_far (p := ⟨gb129, 6, none⟩) (Kd.R_far (p := ⟨gb129, 5, none⟩) (Kd.R_far (p := ⟨gb129, 4, none⟩) (Kd.R_far (p := ⟨gb129, 3, none⟩) (Kd.R_far (p := ⟨gb129, 2, none⟩) (Kd.R_far (p := ⟨gb129, 1, none⟩) (Kd.R_far (p := ⟨gb129, 0, none⟩) (Kd.R_types HO_131002.out BK129.out (by decide)) (fun _ hk => hk.2) (.int .i64 x131000_2)) (fun _ hk => hk.2) (.int .i64 x131001_2)) (fun _ hk => hk.2) (.slice Ao72 x131002_2.length co72)) (fun _ hk => hk.2) (.slice Ao73 x131003_2.length co73)) (fun _ hk => hk.2) (.slice none 0 0)) (fun _ hk => hk.2) (.slice none 0 0)) (fun _ hk => hk.2) (.slice none 0 0)) (fun _ hk => hk.2) (.bool false)) (fun _ hk => trivial), by (with_reducible repeat (first | apply Kd.R_alloc | apply Kd.R_drewN | apply Kd.R_drew)); exact Kd.R_mono (Kd.R_far (p := ⟨gb129, 7, none⟩) (Kd.R_far (p := ⟨gb129, 6, none⟩) (Kd.R_far (p := ⟨gb129, 5, none⟩) (Kd.R_far (p := ⟨gb129, 4, none⟩) (Kd.R_far (p := ⟨gb129, 3, none⟩) (Kd.R_far (p := ⟨gb129, 2, none⟩) (Kd.R_far (p := ⟨gb129, 1, none⟩) (Kd.R_far (p := ⟨gb129, 0, none⟩) (Kd.R_types HO_131003.out BK129.out (by decide)) (fun _ hk => hk.2) (.int .i64 x131000_2)) (fun _ hk => hk.2) (.int .i64 x131001_2)) (fun _ hk => hk.2) (.slice Ao72 x131002_2.length co72)) (fun _ hk => hk.2) (.slice Ao73 x131003_2.length co73)) (fun _ hk => hk.2) (.slice none 0 0)) (fun _ hk => hk.2) (.slice none 0 0)) (fun _ hk => hk.2) (.slice none 0 0)) (fun _ hk => hk.2) (.bool false)) (fun _ hk => (by simp [Value.ownBlock])), by first | exact Kd.R_nil _ _ _ _ _ | exact Kd.N_nil _ _ _ _ _ | exact Kd.V_nil _ _ _ _ _ | exact Kd.Q_nil _ _ _ _ _ | exact Kd.S_nil _ _ _ _ _, by first | exact Kd.R_nil _ _ _ _ _ | exact Kd.N_nil _ _ _ _ _ | exact Kd.V_nil _ _ _ _ _ | exact Kd.Q_nil _ _ _ _ _ | exact Kd.S_nil _ _ _ _ _, by first | exact Kd.R_nil _ _ _ _ _ | exact Kd.N_nil _ _ _ _ _ | exact Kd.V_nil _ _ _ _ _ | exact Kd.Q_nil _ _ _ _ _ | exact Kd.S_nil _ _ _ _ _, by repeat (first | (with_reducible first | exact HB.out | apply below_alloc | apply pw_below_drewN | apply below_drew1 | refine below_set ?_ GE129.out | refine below_set ?_ GE130.out) | exact HB.out)⟩

end Go.Proofs.Ytpcephbhnbfcmaa.F
