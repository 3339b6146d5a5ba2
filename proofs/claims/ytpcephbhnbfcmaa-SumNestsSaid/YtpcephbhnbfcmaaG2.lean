-- Written by this session's program fork.py: a Lean function for each Go function and its walk. Not trusted: Lean checks it.
import Derived.Test.YtpcephbhnbfcmaaG0
import Derived.Test.YtpcephbhnbfcmaaG1
namespace Go.Proofs.Ytpcephbhnbfcmaa.G
open Go.RowKit Go.Proofs.YtpcephbhnbfcmaaW.PrintWords Go.Proofs.YtpcephbhnbfcmaaW.PrintLast Go.Proofs.YtpcephbhnbfcmaaW.PrintMore
attribute [local go_sem] max2_int min2_int max_two min_two max_three min_three max_four min_four   -- for this text's walks alone
set_option linter.unusedVariables false
set_option linter.unusedSimpArgs false

open List (setIfInBounds_toArray set_cons_zero set_cons_succ)
/-! ### ref16_Lay: function 25 -/
mutual
def ref16_Lay.l0 : Nat → List (S31) → List (S31) → Int → Int → Int → Int → Bool → Option (Int × Int × List Int × List Int × (List (S101)) × (List (S79)) × List Int × Bool × Int)
 | 0, _, _, _, _, _, _, _ => none
 | k + 1, x0, x11, x12, x13, x104000, x104001, x104007 => if x13 < x12 then (if 0 ≤ x13 then (if x13 < (x11.length : Int) then ((ref15_Valid.f ((rd_T31 x11 x13).f0) ((rd_T31 x11 x13).f1) ((rd_T31 x11 x13).f2) ((rd_T31 x11 x13).f3) ((rd_T31 x11 x13).f4) ((rd_T31 x11 x13).f5) ((rd_T31 x11 x13).f6) ((rd_T31 x11 x13).f7)).bind fun t106 => (if t106 = true then (ref16_Lay.l0 k x0 x11 x12 (wrap64 (x13 + 1)) x104000 x104001 x104007) else (some (0, 0, ([] : List Int), ([] : List Int), ([] : List (S101)), ([] : List (S79)), ([] : List Int), false, 19)))) else (none)) else (none)) else (ref16_Lay.l1 k x0 (x0.length : Int) 0 x104000 x104001 ([] : List Int) ([] : List Int) x104007)
def ref16_Lay.l1 : Nat → List (S31) → Int → Int → Int → Int → List Int → List Int → Bool → Option (Int × Int × List Int × List Int × (List (S101)) × (List (S79)) × List Int × Bool × Int)
 | 0, _, _, _, _, _, _, _, _ => none
 | k + 1, x22, x23, x24, x104000, x104001, x104002, x104003, x104007 => if x24 < x23 then (if 0 ≤ x24 then (if x24 < (x22.length : Int) then ((ref16_Align.f x104000 ((rd_T31 x22 x24).f1)).bind fun t109 => (if (wrap64 (t109 + ((rd_T31 x22 x24).f0))) > 1024 then (some (0, 0, ([] : List Int), ([] : List Int), ([] : List (S101)), ([] : List (S79)), ([] : List Int), false, 4)) else (if x104003.length < 17592186044416 then (ref16_Lay.l2 k t109 x22 x23 x24 x104000 x104001 x104002 (x104003 ++ [t109]) x104007 ((rd_T31 x22 x24).f0) ((rd_T31 x22 x24).f1) ((rd_T31 x22 x24).f2) ((rd_T31 x22 x24).f3) ((rd_T31 x22 x24).f4) ((rd_T31 x22 x24).f5) ((rd_T31 x22 x24).f6) ((rd_T31 x22 x24).f7)) else (none)))) else (none)) else (none)) else (some (x104000, x104001, x104002, x104003, ([] : List (S101)), ([] : List (S79)), ([] : List Int), x104007, 0))
def ref16_Lay.l2 : Nat → Int → List (S31) → Int → Int → Int → Int → List Int → List Int → Bool → Int → Int → List Int → List Int → List (S101) → List (S79) → List Int → Bool → Option (Int × Int × List Int × List Int × (List (S101)) × (List (S79)) × List Int × Bool × Int)
 | 0, _, _, _, _, _, _, _, _, _, _, _, _, _, _, _, _, _ => none
 | k + 1, x9, x22, x23, x24, x104000, x104001, x104002, x104003, x104007, x109000, x109001, x109002, x109003, x109004, x109005, x109006, x109007 => if (x104002.length : Int) < x9 then (if x104002.length < 140737488355328 then (ref16_Lay.l2 k x9 x22 x23 x24 x104000 x104001 (x104002 ++ [0]) x104003 x104007 x109000 x109001 x109002 x109003 x109004 x109005 x109006 x109007) else (none)) else (if x104002.length + x109002.length < 140737488355328 then (ref16_Lay.l1 k x22 x23 (wrap64 (x24 + 1)) (wrap64 (x9 + x109000)) (mx x104001 x109001) (x104002 ++ x109002) x104003 x104007) else (none))
end
def ref16_Lay.f (k : Nat) (l0 : List (S31)) : Option (Int × Int × List Int × List Int × (List (S101)) × (List (S79)) × List Int × Bool × Int) := ref16_Lay.l0 k l0 l0 (l0.length : Int) 0 0 1 false
theorem ref16_Lay.mono_l : ∀ k, (∀ y0 y1 y2 y3 y4 y5 y6, LeO (ref16_Lay.l0 k y0 y1 y2 y3 y4 y5 y6) (ref16_Lay.l0 (k + 1) y0 y1 y2 y3 y4 y5 y6)) ∧ (∀ y0 y1 y2 y3 y4 y5 y6 y7, LeO (ref16_Lay.l1 k y0 y1 y2 y3 y4 y5 y6 y7) (ref16_Lay.l1 (k + 1) y0 y1 y2 y3 y4 y5 y6 y7)) ∧ (∀ y0 y1 y2 y3 y4 y5 y6 y7 y8 y9 y10 y11 y12 y13 y14 y15 y16, LeO (ref16_Lay.l2 k y0 y1 y2 y3 y4 y5 y6 y7 y8 y9 y10 y11 y12 y13 y14 y15 y16) (ref16_Lay.l2 (k + 1) y0 y1 y2 y3 y4 y5 y6 y7 y8 y9 y10 y11 y12 y13 y14 y15 y16))
 | 0 => ⟨fun _ _ _ _ _ _ _ r h => by simp [ref16_Lay.l0] at h, fun _ _ _ _ _ _ _ _ r h => by simp [ref16_Lay.l1] at h, fun _ _ _ _ _ _ _ _ _ _ _ _ _ _ _ _ _ r h => by simp [ref16_Lay.l2] at h⟩
 | k + 1 => by
  obtain ⟨ih0, ih1, ih2⟩ := ref16_Lay.mono_l k
  refine ⟨?_, ?_, ?_⟩
  ·
   intro y0 y1 y2 y3 y4 y5 y6
   unfold ref16_Lay.l0
   repeat' first
   | (with_reducible exact ih0 _ _ _ _ _ _ _)
   | (with_reducible exact ih1 _ _ _ _ _ _ _ _)
   | (with_reducible exact ih2 _ _ _ _ _ _ _ _ _ _ _ _ _ _ _ _ _)
   | (with_reducible exact LeO.refl _)
   | (with_reducible exact LeO.none _)
   | (with_reducible refine LeO.ite ?_ ?_)
   | (with_reducible refine LeO.bind ?_ (fun _ => ?_))
   | exact ih0 _ _ _ _ _ _ _
   | exact ih1 _ _ _ _ _ _ _ _
   | exact ih2 _ _ _ _ _ _ _ _ _ _ _ _ _ _ _ _ _
   | exact LeO.none _
   | refine LeO.ite ?_ ?_
   | refine LeO.bind ?_ (fun _ => ?_)
  ·
   intro y0 y1 y2 y3 y4 y5 y6 y7
   unfold ref16_Lay.l1
   repeat' first
   | (with_reducible exact ih0 _ _ _ _ _ _ _)
   | (with_reducible exact ih1 _ _ _ _ _ _ _ _)
   | (with_reducible exact ih2 _ _ _ _ _ _ _ _ _ _ _ _ _ _ _ _ _)
   | (with_reducible exact LeO.refl _)
   | (with_reducible exact LeO.none _)
   | (with_reducible refine LeO.ite ?_ ?_)
   | (with_reducible refine LeO.bind ?_ (fun _ => ?_))
   | exact ih0 _ _ _ _ _ _ _
   | exact ih1 _ _ _ _ _ _ _ _
   | exact ih2 _ _ _ _ _ _ _ _ _ _ _ _ _ _ _ _ _
   | exact LeO.none _
   | refine LeO.ite ?_ ?_
   | refine LeO.bind ?_ (fun _ => ?_)
  ·
   intro y0 y1 y2 y3 y4 y5 y6 y7 y8 y9 y10 y11 y12 y13 y14 y15 y16
   unfold ref16_Lay.l2
   repeat' first
   | (with_reducible exact ih0 _ _ _ _ _ _ _)
   | (with_reducible exact ih1 _ _ _ _ _ _ _ _)
   | (with_reducible exact ih2 _ _ _ _ _ _ _ _ _ _ _ _ _ _ _ _ _)
   | (with_reducible exact LeO.refl _)
   | (with_reducible exact LeO.none _)
   | (with_reducible refine LeO.ite ?_ ?_)
   | (with_reducible refine LeO.bind ?_ (fun _ => ?_))
   | exact ih0 _ _ _ _ _ _ _
   | exact ih1 _ _ _ _ _ _ _ _
   | exact ih2 _ _ _ _ _ _ _ _ _ _ _ _ _ _ _ _ _
   | exact LeO.none _
   | refine LeO.ite ?_ ?_
   | refine LeO.bind ?_ (fun _ => ?_)
theorem ref16_Lay.mono : ∀ a0 k, LeO (ref16_Lay.f k a0) (ref16_Lay.f (k + 1) a0) := by
 intro a0 k
 obtain ⟨ih0, ih1, ih2⟩ := ref16_Lay.mono_l k
 unfold ref16_Lay.f
 repeat' first
   | (with_reducible exact ih0 _ _ _ _ _ _ _)
   | (with_reducible exact ih1 _ _ _ _ _ _ _ _)
   | (with_reducible exact ih2 _ _ _ _ _ _ _ _ _ _ _ _ _ _ _ _ _)
   | (with_reducible exact LeO.refl _)
   | (with_reducible exact LeO.none _)
   | (with_reducible refine LeO.ite ?_ ?_)
   | (with_reducible refine LeO.bind ?_ (fun _ => ?_))
   | exact ih0 _ _ _ _ _ _ _
   | exact ih1 _ _ _ _ _ _ _ _
   | exact ih2 _ _ _ _ _ _ _ _ _ _ _ _ _ _ _ _ _
   | exact LeO.none _
   | refine LeO.ite ?_ ?_
   | refine LeO.bind ?_ (fun _ => ?_)
def ref16_Lay.T18 : Bool × List (List Nat × List Nat) := (true, [([], []), ([], []), ([1], [1]), ([0, 2], [0, 2]), ([], []), ([4], [4]), ([], []), ([6], [6]), ([5, 7], [5, 7]), ([0, 1, 2, 3, 4, 5], []), ([9, 3, 0, 1, 2, 3, 4, 5], [3, 9]), ([0, 1, 2, 3, 4, 5, 6, 7, 8, 9, 10], []), ([11, 8, 10, 0, 1, 2, 3, 4, 5, 6, 7, 8, 9, 10], [8, 11])])
def ref16_Lay.B18 : List Nat := [0, 0, 2, 7, 0, 16, 0, 64, 240, 63, 575, 2047, 4095]
theorem ref16_Lay.tab18 : rtab .any (opsOf Try.f25 18) = ref16_Lay.T18 := by kernel_rfl
theorem ref16_Lay.bits18 : waitsOk ref16_Lay.T18.2 ref16_Lay.B18 = true := by kernel_rfl
set_option maxHeartbeats 8000000 in
set_option maxRecDepth 100000 in
theorem ref16_Lay.calls (k : Nat) (A0 : Option Addr) (c0 : Nat) (l0 : List (S31)) (r1 : Int) (r2 : Int) (r3 : List Int) (r4 : List Int) (r5 : List (S101)) (r6 : List (S79)) (r7 : List Int) (r8 : Bool) (r9 : Int) (w : World) (hr0 : Kd.C k31 w A0 l0.length l0) (hc0 : l0.length ≤ c0) (h : ref16_Lay.f k l0 = some (r1, r2, r3, r4, r5, r6, r7, r8, r9)) :
  Calls Try.prog 25 #[.slice A0 l0.length c0] w fun e w' => ∃ v2_ v3_ v4_ v5_ v6_ : Value, e = .returned (.tuple #[.agg #[.int .i64 r1, .int .i64 r2, v2_, v3_, v4_, v5_, v6_, .bool r8], .int .i64 r9]) ∧ Kd.R (Kd.int .u8) 5 w' w.heap.size (fun _ => True) v2_ r3 ∧ Kd.R (Kd.int .i64) 3 w' w.heap.size (fun k_ => some k_ ≠ (v6_ : Value).ownBlock) v3_ r4 ∧ Kd.R k101 101 w' w.heap.size (fun _ => True) v4_ r5 ∧ Kd.R k79 79 w' w.heap.size (fun k_ => some k_ ≠ (v3_ : Value).ownBlock ∧ some k_ ≠ (v4_ : Value).ownBlock ∧ some k_ ≠ (v6_ : Value).ownBlock) v5_ r6 ∧ Kd.R (Kd.int .i64) 3 w' w.heap.size (fun k_ => some k_ ≠ (v3_ : Value).ownBlock) v6_ r7 ∧ Below w.heap.size w w' := by
 have hu31 := Try.underlying31
 have HR0 := Aside0.mk hr0
 have HC0 := Aside0.mk hc0
 clear hr0 hc0
 have HB := Aside0.mk (Below.refl w.heap.size w)
 have H : (ref16_Lay.l0 k l0 l0 (l0.length : Int) 0 0 1 false) = some (r1, r2, r3, r4, r5, r6, r7, r8, r9) := h
 clear h
 have H' := Aside0.mk H
 clear H
 go_enter Try.func25, Try.ntmps25
 go_wp2_with (first | ((with_reducible refine gate_dst (N := 2) rfl ?_); refine box_event ?hg (N := 2) ?hd (cs := #[.int .i64 0, .int .i64 0, .slice none 0 0, .slice none 0 0, .slice none 0 0, .slice none 0 0, .slice none 0 0, .bool false]) (t := 31) ?hr ?_; (case hd => rfl); (case hg => rfl); (case hr => first | (go_simp; done) | (go_simp; rfl)); intro gb102 hg w2 hbox hb; have n0_ := Aside0.mk (below_step (hb0_ HB.out) hb); have n1_ := Aside0.mk (hbox); have n2_ := Aside0.mk ((by rw [hg]; exact (below_size (hb0_ HB.out)) : w.heap.size ≤ gb102)); have n3_ := Aside0.mk ((by rw [hg]; exact (below_size (hb0_ HB.out)) : w.heap.size ≤ gb102)); clear HB; revert n0_ n1_ n2_ n3_; intro HB BK102 GW102 GE102; clear hb hbox hg) | ((with_reducible refine gate_dst (N := 4) rfl ?_); refine box_event ?hg (N := 4) ?hd (cs := #[.int .i64 0, .int .i64 0, .slice none 0 0, .slice none 0 0, .slice none 0 0, .slice none 0 0, .slice none 0 0, .bool false]) (t := 31) ?hr ?_; (case hd => rfl); (case hg => rfl); (case hr => first | (go_simp; done) | (go_simp; rfl)); intro gb103 hg w3 hbox hb; have n0_ := Aside0.mk (blk_below (g := gb102) (o := .cells #[.int .i64 0, .int .i64 0, .slice none 0 0, .slice none 0 0, .slice none 0 0, .slice none 0 0, .slice none 0 0, .bool false] 31 (0, 0)) (bk_ BK102.out) hb); have n1_ := Aside0.mk (below_step (hb1_ HB.out GE102.out) hb); have n2_ := Aside0.mk (hbox); have n3_ := Aside0.mk ((by rw [hg]; exact (below_size (hb1_ HB.out GE102.out)) : w.heap.size ≤ gb103)); have n4_ := Aside0.mk ((by rw [hg]; exact (below_size (hb1_ HB.out GE102.out)) : w.heap.size ≤ gb103)); have n5_ := Aside0.mk ((by rw [hg]; exact Nat.ne_of_lt (blk_lt (g := gb102) (o := .cells #[.int .i64 0, .int .i64 0, .slice none 0 0, .slice none 0 0, .slice none 0 0, .slice none 0 0, .slice none 0 0, .bool false] 31 (0, 0)) (bk_ BK102.out)) : gb102 ≠ gb103)); have n6_ := Aside0.mk ((by rw [hg]; exact Nat.ne_of_gt (blk_lt (g := gb102) (o := .cells #[.int .i64 0, .int .i64 0, .slice none 0 0, .slice none 0 0, .slice none 0 0, .slice none 0 0, .slice none 0 0, .bool false] 31 (0, 0)) (bk_ BK102.out)) : gb103 ≠ gb102)); clear BK102 HB; revert n0_ n1_ n2_ n3_ n4_ n5_ n6_; intro BK102 HB BK103 GW103 GE103 NB102_103 NB103_102; clear hb hbox hg; have hnb4 := NB103_102.out; have hnc4 := NB102_103.out; obtain ⟨hcz5_0, hcz5_1, hcz5_2, hcz5_3, hcz5_4, hcz5_5, hcz5_6, hcz5_7, hfz5_0, hfz5_1, hfz5_2, hfz5_3, hfz5_4, hfz5_5, hfz5_6, hfz5_7⟩ := bx8_ BK103.out))
 go_loopg [13] k (fun kq v13 w' => ∃ (x13_1 : Int) (x103000_1 : Int) (x103001_1 : Int) (x103007_1 : Bool), v13 = .int .i64 x13_1 ∧ Aside0 (ref16_Lay.l0 kq l0 l0 (l0.length : Int) x13_1 0 1 false = some (r1, r2, r3, r4, r5, r6, r7, r8, r9)) ∧ Aside0 (kq ≤ k) ∧ Aside0 (w'.heap[gb102]? = some (.cells #[.int .i64 x103000_1, .int .i64 x103001_1, (.slice none 0 0), (.slice none 0 0), (.slice none 0 0), (.slice none 0 0), (.slice none 0 0), .bool x103007_1] 31 (0, 0))) ∧ Aside0 (w'.heap[gb103]? = some (.cells #[.int .i64 0, .int .i64 1, (.slice none 0 0), (.slice none 0 0), (.slice none 0 0), (.slice none 0 0), (.slice none 0 0), .bool false] 31 (0, 0))) ∧ Aside0 (Below w.heap.size w w'))
 case atStart => exact ⟨(0), (0), (0), (false), (by first | rfl | (simp; done) | (simp [*]; done)), H', ⟨Nat.le_refl _⟩, ⟨by (with_reducible repeat (first | refine blk_drewN ?_ _ | refine blk_drew ?_ | refine blk_alloc ?_ _)); refine blk_far ?_ NB102_103.out _; (with_reducible repeat (first | refine blk_drewN ?_ _ | refine blk_drew ?_ | refine blk_alloc ?_ _)); refine blk_far ?_ NB102_103.out _; (with_reducible repeat (first | refine blk_drewN ?_ _ | refine blk_drew ?_ | refine blk_alloc ?_ _)); refine blk_far ?_ NB102_103.out _; (with_reducible repeat (first | refine blk_drewN ?_ _ | refine blk_drew ?_ | refine blk_alloc ?_ _)); refine blk_far ?_ NB102_103.out _; (with_reducible repeat (first | refine blk_drewN ?_ _ | refine blk_drew ?_ | refine blk_alloc ?_ _)); refine blk_far ?_ NB102_103.out _; (with_reducible repeat (first | refine blk_drewN ?_ _ | refine blk_drew ?_ | refine blk_alloc ?_ _)); refine blk_far ?_ NB102_103.out _; (with_reducible repeat (first | refine blk_drewN ?_ _ | refine blk_drew ?_ | refine blk_alloc ?_ _)); refine blk_far ?_ NB102_103.out _; (with_reducible repeat (first | refine blk_drewN ?_ _ | refine blk_drew ?_ | refine blk_alloc ?_ _)); refine blk_far ?_ NB102_103.out _; (with_reducible repeat (first | refine blk_drewN ?_ _ | refine blk_drew ?_ | refine blk_alloc ?_ _)); exact BK102.out⟩, ⟨by (with_reducible repeat (first | refine blk_drewN ?_ _ | refine blk_drew ?_ | refine blk_alloc ?_ _)); refine blk_put (cs := #[.int .i64 0, .int .i64 1, .slice none 0 0, .slice none 0 0, .slice none 0 0, .slice none 0 0, .slice none 0 0, .bool false]) ?_ 7 _ rfl; (with_reducible repeat (first | refine blk_drewN ?_ _ | refine blk_drew ?_ | refine blk_alloc ?_ _)); refine blk_put (cs := #[.int .i64 0, .int .i64 1, .slice none 0 0, .slice none 0 0, .slice none 0 0, .slice none 0 0, .slice none 0 0, .bool false]) ?_ 6 _ rfl; (with_reducible repeat (first | refine blk_drewN ?_ _ | refine blk_drew ?_ | refine blk_alloc ?_ _)); refine blk_put (cs := #[.int .i64 0, .int .i64 1, .slice none 0 0, .slice none 0 0, .slice none 0 0, .slice none 0 0, .slice none 0 0, .bool false]) ?_ 5 _ rfl; (with_reducible repeat (first | refine blk_drewN ?_ _ | refine blk_drew ?_ | refine blk_alloc ?_ _)); refine blk_put (cs := #[.int .i64 0, .int .i64 1, .slice none 0 0, .slice none 0 0, .slice none 0 0, .slice none 0 0, .slice none 0 0, .bool false]) ?_ 4 _ rfl; (with_reducible repeat (first | refine blk_drewN ?_ _ | refine blk_drew ?_ | refine blk_alloc ?_ _)); refine blk_put (cs := #[.int .i64 0, .int .i64 1, .slice none 0 0, .slice none 0 0, .slice none 0 0, .slice none 0 0, .slice none 0 0, .bool false]) ?_ 3 _ rfl; (with_reducible repeat (first | refine blk_drewN ?_ _ | refine blk_drew ?_ | refine blk_alloc ?_ _)); refine blk_put (cs := #[.int .i64 0, .int .i64 1, .slice none 0 0, .slice none 0 0, .slice none 0 0, .slice none 0 0, .slice none 0 0, .bool false]) ?_ 2 _ rfl; (with_reducible repeat (first | refine blk_drewN ?_ _ | refine blk_drew ?_ | refine blk_alloc ?_ _)); refine blk_put (cs := #[.int .i64 0, .int .i64 0, .slice none 0 0, .slice none 0 0, .slice none 0 0, .slice none 0 0, .slice none 0 0, .bool false]) ?_ 1 _ rfl; (with_reducible repeat (first | refine blk_drewN ?_ _ | refine blk_drew ?_ | refine blk_alloc ?_ _)); refine blk_put (cs := #[.int .i64 0, .int .i64 0, .slice none 0 0, .slice none 0 0, .slice none 0 0, .slice none 0 0, .slice none 0 0, .bool false]) ?_ 0 _ rfl; (with_reducible repeat (first | refine blk_drewN ?_ _ | refine blk_drew ?_ | refine blk_alloc ?_ _)); exact BK103.out⟩, ⟨(hb2_ HB.out GE102.out GE103.out)⟩⟩
 case round =>
  clear H'
  try clear c2
  try clear p2
  try clear c4
  try clear hcz5_0
  try clear hcz5_1
  try clear hcz5_2
  try clear hcz5_3
  try clear hcz5_4
  try clear hcz5_5
  try clear hcz5_6
  try clear hcz5_7
  try clear hfz5_0
  try clear hfz5_1
  try clear hfz5_2
  try clear hfz5_3
  try clear hfz5_4
  try clear hfz5_5
  try clear hfz5_6
  try clear hfz5_7
  obtain ⟨x13_1, x103000_1, x103001_1, x103007_1, rfl, HA, HK1, BK102, BK103, HB⟩ := hrel
  cases gk with
  | zero => exact absurd HA.out (by simp [ref16_Lay.l0])
  | succ k1 =>
   have H := HA.out
   clear HA
   simp only [ref16_Lay.l0] at H
   by_cases c6 : x13_1 < (l0.length : Int)
   ·
    rw [if_pos c6] at H
    have c6b0 : decide (x13_1 < (l0.length : Int)) = true := decide_eq_true c6
    clear c6
    by_cases c7 : 0 ≤ x13_1
    rotate_left
    ·
     rw [if_neg c7] at H
     exact absurd H (by simp)
    rw [if_pos c7] at H
    have c7b0 : decide (0 ≤ x13_1) = true := decide_eq_true c7
    clear c7
    by_cases c8 : x13_1 < (l0.length : Int)
    rotate_left
    ·
     rw [if_neg c8] at H
     exact absurd H (by simp)
    rw [if_pos c8] at H
    have c8b0 : decide (x13_1 < (l0.length : Int)) = true := decide_eq_true c8
    clear c8
    replace H := Option.bind_eq_some_iff.mp H
    obtain ⟨t106, A90, H⟩ := H
    replace H : (if t106 = true then (ref16_Lay.l0 k1 l0 l0 (l0.length : Int) (wrap64 (x13_1 + 1)) 0 1 false) else (some (0, 0, ([] : List Int), ([] : List Int), ([] : List (S101)), ([] : List (S79)), ([] : List Int), false, 19))) = some (r1, r2, r3, r4, r5, r6, r7, r8, r9) := H
    have A9 := Aside0.mk A90
    clear A90
    by_cases c10 : t106 = true
    ·
     subst c10
     have H1 : (ref16_Lay.l0 k1 l0 l0 (l0.length : Int) (wrap64 (x13_1 + 1)) 0 1 false) = some (r1, r2, r3, r4, r5, r6, r7, r8, r9) := by rw [if_pos rfl] at H; exact H
     clear H
     have H := H1
     clear H1
     have H' := Aside0.mk H
     clear H
     have p104 : 0 ≤ (x13_1 : Int) := od_
     have q104 : x13_1 < (l0.length : Int) := od_
     obtain ⟨ad104, A104_2, c104_2, A104_3, c104_3, A104_4, c104_4, A104_5, c104_5, A104_6, c104_6, e104, hx104_0, hx104_1, hx104_2, hx104_3, hx104_4, hx104_5, hx104_6, hx104_7, hl104_2, hi104_2, hl104_3, hi104_3, hl104_4, hi104_4, hl104_5, hi104_5, hl104_6, hi104_6⟩ := at_T31 HR0.out x13_1 p104 q104
     cases e104
     replace hx104_0 := (HB.out.cell (World.block_lt_of_cell? w _ hx104_0)).trans hx104_0
     replace hx104_1 := (HB.out.cell (World.block_lt_of_cell? w _ hx104_1)).trans hx104_1
     replace hx104_2 := (HB.out.cell (World.block_lt_of_cell? w _ hx104_2)).trans hx104_2
     replace hx104_3 := (HB.out.cell (World.block_lt_of_cell? w _ hx104_3)).trans hx104_3
     replace hx104_4 := (HB.out.cell (World.block_lt_of_cell? w _ hx104_4)).trans hx104_4
     replace hx104_5 := (HB.out.cell (World.block_lt_of_cell? w _ hx104_5)).trans hx104_5
     replace hx104_6 := (HB.out.cell (World.block_lt_of_cell? w _ hx104_6)).trans hx104_6
     replace hx104_7 := (HB.out.cell (World.block_lt_of_cell? w _ hx104_7)).trans hx104_7
     have HR104_2 := Aside0.mk hi104_2
     have HC104_2 := Aside0.mk hl104_2
     clear hi104_2 hl104_2
     have HR104_3 := Aside0.mk hi104_3
     have HC104_3 := Aside0.mk hl104_3
     clear hi104_3 hl104_3
     have HR104_4 := Aside0.mk hi104_4
     have HC104_4 := Aside0.mk hl104_4
     clear hi104_4 hl104_4
     have HR104_5 := Aside0.mk hi104_5
     have HC104_5 := Aside0.mk hl104_5
     clear hi104_5 hl104_5
     have HR104_6 := Aside0.mk hi104_6
     have HC104_6 := Aside0.mk hl104_6
     clear hi104_6 hl104_6
     replace p104 := eq_true p104
     replace q104 := eq_true q104
     go_wp2_with (first | ((with_reducible refine gate_dst (N := 6) rfl ?_); refine box_event ?hg (N := 6) ?hd (cs := #[.int .i64 0, .int .i64 0, .slice none 0 0, .slice none 0 0, .slice none 0 0, .slice none 0 0, .slice none 0 0, .bool false]) (t := 31) ?hr ?_; (case hd => rfl); (case hg => rfl); (case hr => first | (go_simp; done) | (go_simp; rfl)); intro gb105 hg w11 hbox hb; have n0_ := Aside0.mk (blk_below (g := gb102) (o := .cells #[.int .i64 x103000_1, .int .i64 x103001_1, .slice none 0 0, .slice none 0 0, .slice none 0 0, .slice none 0 0, .slice none 0 0, .bool x103007_1] 31 (0, 0)) (bk_ BK102.out) hb); have n1_ := Aside0.mk (blk_below (g := gb103) (o := .cells #[.int .i64 0, .int .i64 1, .slice none 0 0, .slice none 0 0, .slice none 0 0, .slice none 0 0, .slice none 0 0, .bool false] 31 (0, 0)) (bk_ BK103.out) hb); have n2_ := Aside0.mk (below_step (hb2_ HB.out GE102.out GE103.out) hb); have n3_ := Aside0.mk (hbox); have n4_ := Aside0.mk ((by rw [hg]; exact (below_size (hb2_ HB.out GE102.out GE103.out)) : w.heap.size ≤ gb105)); have n5_ := Aside0.mk ((by rw [hg]; exact (below_size (hb2_ HB.out GE102.out GE103.out)) : w.heap.size ≤ gb105)); have n6_ := Aside0.mk ((by rw [hg]; exact Nat.ne_of_lt (blk_lt (g := gb102) (o := .cells #[.int .i64 x103000_1, .int .i64 x103001_1, .slice none 0 0, .slice none 0 0, .slice none 0 0, .slice none 0 0, .slice none 0 0, .bool x103007_1] 31 (0, 0)) (bk_ BK102.out)) : gb102 ≠ gb105)); have n7_ := Aside0.mk ((by rw [hg]; exact Nat.ne_of_gt (blk_lt (g := gb102) (o := .cells #[.int .i64 x103000_1, .int .i64 x103001_1, .slice none 0 0, .slice none 0 0, .slice none 0 0, .slice none 0 0, .slice none 0 0, .bool x103007_1] 31 (0, 0)) (bk_ BK102.out)) : gb105 ≠ gb102)); have n8_ := Aside0.mk ((by rw [hg]; exact Nat.ne_of_lt (blk_lt (g := gb103) (o := .cells #[.int .i64 0, .int .i64 1, .slice none 0 0, .slice none 0 0, .slice none 0 0, .slice none 0 0, .slice none 0 0, .bool false] 31 (0, 0)) (bk_ BK103.out)) : gb103 ≠ gb105)); have n9_ := Aside0.mk ((by rw [hg]; exact Nat.ne_of_gt (blk_lt (g := gb103) (o := .cells #[.int .i64 0, .int .i64 1, .slice none 0 0, .slice none 0 0, .slice none 0 0, .slice none 0 0, .slice none 0 0, .bool false] 31 (0, 0)) (bk_ BK103.out)) : gb105 ≠ gb103)); clear BK102 BK103 HB; revert n0_ n1_ n2_ n3_ n4_ n5_ n6_ n7_ n8_ n9_; intro BK102 BK103 HB BK105 GW105 GE105 NB102_105 NB105_102 NB103_105 NB105_103; clear hb hbox hg; have hnb12 := NB105_102.out; have hnc12 := NB102_105.out; have hnb13 := NB105_103.out; have hnc13 := NB103_105.out; obtain ⟨hcz14_0, hcz14_1, hcz14_2, hcz14_3, hcz14_4, hcz14_5, hcz14_6, hcz14_7, hfz14_0, hfz14_1, hfz14_2, hfz14_3, hfz14_4, hfz14_5, hfz14_6, hfz14_7⟩ := bx8_ BK105.out) | ((with_reducible refine gate_callee (f := 27) rfl ?_); refine goesL_ (some 18) rfl rfl Try.func27 (by kernel_rfl) rfl #[.agg #[.int .i64 ((rd_T31 l0 x13_1).f0), .int .i64 ((rd_T31 l0 x13_1).f1), .slice A104_2 ((rd_T31 l0 x13_1).f2).length c104_2, .slice A104_3 ((rd_T31 l0 x13_1).f3).length c104_3, .slice A104_4 ((rd_T31 l0 x13_1).f4).length c104_4, .slice A104_5 ((rd_T31 l0 x13_1).f5).length c104_5, .slice A104_6 ((rd_T31 l0 x13_1).f6).length c104_6, .bool ((rd_T31 l0 x13_1).f7)]] rfl (by (try simp only [List.map_toArray, List.map_cons, List.map_nil]); first | done | rfl | (simp only [List.length_drop, List.length_take]; rfl)) ?_; (with_reducible refine (ref15_Valid.calls ((rd_T31 l0 x13_1).f0) ((rd_T31 l0 x13_1).f1) _ _ ((rd_T31 l0 x13_1).f2) _ _ ((rd_T31 l0 x13_1).f3) _ _ ((rd_T31 l0 x13_1).f4) _ _ ((rd_T31 l0 x13_1).f5) _ _ ((rd_T31 l0 x13_1).f6) ((rd_T31 l0 x13_1).f7) true _ ?side1 ?side2 ?side3 ?side4 ?side5 ?side6 ?side7 ?side8 ?side9 ?side10 A9.out).mono ?_); (case side1 => exact Kd.C_below HR104_2.out (hb3_ HB.out GE102.out GE103.out GE105.out)); (case side2 => exact HC104_2.out); (case side3 => exact Kd.C_below HR104_3.out (hb3_ HB.out GE102.out GE103.out GE105.out)); (case side4 => exact HC104_3.out); (case side5 => exact Kd.C_below HR104_4.out (hb3_ HB.out GE102.out GE103.out GE105.out)); (case side6 => exact HC104_4.out); (case side7 => exact Kd.C_below HR104_5.out (hb3_ HB.out GE102.out GE103.out GE105.out)); (case side8 => exact HC104_5.out); (case side9 => exact Kd.C_below HR104_6.out (hb3_ HB.out GE102.out GE103.out GE105.out)); (case side10 => exact HC104_6.out); rintro e w15 ⟨rfl, hb⟩; refine ⟨_, rfl, ?_⟩; have n0_ := Aside0.mk (blk_below (g := gb102) (o := .cells #[.int .i64 x103000_1, .int .i64 x103001_1, .slice none 0 0, .slice none 0 0, .slice none 0 0, .slice none 0 0, .slice none 0 0, .bool x103007_1] 31 (0, 0)) (bf1_ BK102.out NB102_105.out) hb); have n1_ := Aside0.mk (blk_below (g := gb103) (o := .cells #[.int .i64 0, .int .i64 1, .slice none 0 0, .slice none 0 0, .slice none 0 0, .slice none 0 0, .slice none 0 0, .bool false] 31 (0, 0)) (bf1_ BK103.out NB103_105.out) hb); have n2_ := Aside0.mk (blk_below (g := gb105) (o := .cells #[.int .i64 ((rd_T31 l0 x13_1).f0), .int .i64 ((rd_T31 l0 x13_1).f1), .slice A104_2 ((rd_T31 l0 x13_1).f2).length c104_2, .slice A104_3 ((rd_T31 l0 x13_1).f3).length c104_3, .slice A104_4 ((rd_T31 l0 x13_1).f4).length c104_4, .slice A104_5 ((rd_T31 l0 x13_1).f5).length c104_5, .slice A104_6 ((rd_T31 l0 x13_1).f6).length c104_6, .bool ((rd_T31 l0 x13_1).f7)] 31 (0, 0)) (by (with_reducible repeat (first | refine blk_drewN ?_ _ | refine blk_drew ?_ | refine blk_alloc ?_ _)); refine blk_put (cs := #[.int .i64 ((rd_T31 l0 x13_1).f0), .int .i64 ((rd_T31 l0 x13_1).f1), .slice A104_2 ((rd_T31 l0 x13_1).f2).length c104_2, .slice A104_3 ((rd_T31 l0 x13_1).f3).length c104_3, .slice A104_4 ((rd_T31 l0 x13_1).f4).length c104_4, .slice A104_5 ((rd_T31 l0 x13_1).f5).length c104_5, .slice A104_6 ((rd_T31 l0 x13_1).f6).length c104_6, .bool false]) ?_ 7 _ rfl; (with_reducible repeat (first | refine blk_drewN ?_ _ | refine blk_drew ?_ | refine blk_alloc ?_ _)); refine blk_put (cs := #[.int .i64 ((rd_T31 l0 x13_1).f0), .int .i64 ((rd_T31 l0 x13_1).f1), .slice A104_2 ((rd_T31 l0 x13_1).f2).length c104_2, .slice A104_3 ((rd_T31 l0 x13_1).f3).length c104_3, .slice A104_4 ((rd_T31 l0 x13_1).f4).length c104_4, .slice A104_5 ((rd_T31 l0 x13_1).f5).length c104_5, .slice none 0 0, .bool false]) ?_ 6 _ rfl; (with_reducible repeat (first | refine blk_drewN ?_ _ | refine blk_drew ?_ | refine blk_alloc ?_ _)); refine blk_put (cs := #[.int .i64 ((rd_T31 l0 x13_1).f0), .int .i64 ((rd_T31 l0 x13_1).f1), .slice A104_2 ((rd_T31 l0 x13_1).f2).length c104_2, .slice A104_3 ((rd_T31 l0 x13_1).f3).length c104_3, .slice A104_4 ((rd_T31 l0 x13_1).f4).length c104_4, .slice none 0 0, .slice none 0 0, .bool false]) ?_ 5 _ rfl; (with_reducible repeat (first | refine blk_drewN ?_ _ | refine blk_drew ?_ | refine blk_alloc ?_ _)); refine blk_put (cs := #[.int .i64 ((rd_T31 l0 x13_1).f0), .int .i64 ((rd_T31 l0 x13_1).f1), .slice A104_2 ((rd_T31 l0 x13_1).f2).length c104_2, .slice A104_3 ((rd_T31 l0 x13_1).f3).length c104_3, .slice none 0 0, .slice none 0 0, .slice none 0 0, .bool false]) ?_ 4 _ rfl; (with_reducible repeat (first | refine blk_drewN ?_ _ | refine blk_drew ?_ | refine blk_alloc ?_ _)); refine blk_put (cs := #[.int .i64 ((rd_T31 l0 x13_1).f0), .int .i64 ((rd_T31 l0 x13_1).f1), .slice A104_2 ((rd_T31 l0 x13_1).f2).length c104_2, .slice none 0 0, .slice none 0 0, .slice none 0 0, .slice none 0 0, .bool false]) ?_ 3 _ rfl; (with_reducible repeat (first | refine blk_drewN ?_ _ | refine blk_drew ?_ | refine blk_alloc ?_ _)); refine blk_put (cs := #[.int .i64 ((rd_T31 l0 x13_1).f0), .int .i64 ((rd_T31 l0 x13_1).f1), .slice none 0 0, .slice none 0 0, .slice none 0 0, .slice none 0 0, .slice none 0 0, .bool false]) ?_ 2 _ rfl; (with_reducible repeat (first | refine blk_drewN ?_ _ | refine blk_drew ?_ | refine blk_alloc ?_ _)); refine blk_put (cs := #[.int .i64 ((rd_T31 l0 x13_1).f0), .int .i64 0, .slice none 0 0, .slice none 0 0, .slice none 0 0, .slice none 0 0, .slice none 0 0, .bool false]) ?_ 1 _ rfl; (with_reducible repeat (first | refine blk_drewN ?_ _ | refine blk_drew ?_ | refine blk_alloc ?_ _)); refine blk_put (cs := #[.int .i64 0, .int .i64 0, .slice none 0 0, .slice none 0 0, .slice none 0 0, .slice none 0 0, .slice none 0 0, .bool false]) ?_ 0 _ rfl; (with_reducible repeat (first | refine blk_drewN ?_ _ | refine blk_drew ?_ | refine blk_alloc ?_ _)); exact BK105.out) hb); have n3_ := Aside0.mk (below_step (hb3_ HB.out GE102.out GE103.out GE105.out) hb); clear BK102 BK103 BK105 HB; revert n0_ n1_ n2_ n3_; intro BK102 BK103 BK105 HB; (try clear hb); (try clear hb2); (try clear hk); (try clear hi)))
     go_roundg k1
     case measure => have := HK1.out; omega
     case rel => exact ⟨(wrap64 (x13_1 + 1)), (x103000_1), (x103001_1), (x103007_1), (by first | rfl | (simp; done) | (simp [*]; done)), H', ⟨by have := HK1.out; omega⟩, ⟨by (with_reducible repeat (first | refine blk_drewN ?_ _ | refine blk_drew ?_ | refine blk_alloc ?_ _)); exact BK102.out⟩, ⟨by (with_reducible repeat (first | refine blk_drewN ?_ _ | refine blk_drew ?_ | refine blk_alloc ?_ _)); exact BK103.out⟩, ⟨(hb3_ HB.out GE102.out GE103.out GE105.out)⟩⟩
    ·
     replace c10 := Bool.eq_false_iff.mpr c10
     subst c10
     have H1 : (some (0, 0, ([] : List Int), ([] : List Int), ([] : List (S101)), ([] : List (S79)), ([] : List Int), false, 19)) = some (r1, r2, r3, r4, r5, r6, r7, r8, r9) := by rw [if_neg (show ¬ (false = true) by decide)] at H; exact H
     clear H
     have H := H1
     clear H1
     simp only [Option.some.injEq, Prod.mk.injEq] at H
     obtain ⟨rfl, rfl, rfl, rfl, rfl, rfl, rfl, rfl, rfl⟩ := H
     have p104 : 0 ≤ (x13_1 : Int) := od_
     have q104 : x13_1 < (l0.length : Int) := od_
     obtain ⟨ad104, A104_2, c104_2, A104_3, c104_3, A104_4, c104_4, A104_5, c104_5, A104_6, c104_6, e104, hx104_0, hx104_1, hx104_2, hx104_3, hx104_4, hx104_5, hx104_6, hx104_7, hl104_2, hi104_2, hl104_3, hi104_3, hl104_4, hi104_4, hl104_5, hi104_5, hl104_6, hi104_6⟩ := at_T31 HR0.out x13_1 p104 q104
     cases e104
     replace hx104_0 := (HB.out.cell (World.block_lt_of_cell? w _ hx104_0)).trans hx104_0
     replace hx104_1 := (HB.out.cell (World.block_lt_of_cell? w _ hx104_1)).trans hx104_1
     replace hx104_2 := (HB.out.cell (World.block_lt_of_cell? w _ hx104_2)).trans hx104_2
     replace hx104_3 := (HB.out.cell (World.block_lt_of_cell? w _ hx104_3)).trans hx104_3
     replace hx104_4 := (HB.out.cell (World.block_lt_of_cell? w _ hx104_4)).trans hx104_4
     replace hx104_5 := (HB.out.cell (World.block_lt_of_cell? w _ hx104_5)).trans hx104_5
     replace hx104_6 := (HB.out.cell (World.block_lt_of_cell? w _ hx104_6)).trans hx104_6
     replace hx104_7 := (HB.out.cell (World.block_lt_of_cell? w _ hx104_7)).trans hx104_7
     have HR104_2 := Aside0.mk hi104_2
     have HC104_2 := Aside0.mk hl104_2
     clear hi104_2 hl104_2
     have HR104_3 := Aside0.mk hi104_3
     have HC104_3 := Aside0.mk hl104_3
     clear hi104_3 hl104_3
     have HR104_4 := Aside0.mk hi104_4
     have HC104_4 := Aside0.mk hl104_4
     clear hi104_4 hl104_4
     have HR104_5 := Aside0.mk hi104_5
     have HC104_5 := Aside0.mk hl104_5
     clear hi104_5 hl104_5
     have HR104_6 := Aside0.mk hi104_6
     have HC104_6 := Aside0.mk hl104_6
     clear hi104_6 hl104_6
     replace p104 := eq_true p104
     replace q104 := eq_true q104
     go_wp2_with (first | ((with_reducible refine gate_dst (N := 6) rfl ?_); refine box_event ?hg (N := 6) ?hd (cs := #[.int .i64 0, .int .i64 0, .slice none 0 0, .slice none 0 0, .slice none 0 0, .slice none 0 0, .slice none 0 0, .bool false]) (t := 31) ?hr ?_; (case hd => rfl); (case hg => rfl); (case hr => first | (go_simp; done) | (go_simp; rfl)); intro gb105 hg w16 hbox hb; have n0_ := Aside0.mk (blk_below (g := gb102) (o := .cells #[.int .i64 x103000_1, .int .i64 x103001_1, .slice none 0 0, .slice none 0 0, .slice none 0 0, .slice none 0 0, .slice none 0 0, .bool x103007_1] 31 (0, 0)) (bk_ BK102.out) hb); have n1_ := Aside0.mk (blk_below (g := gb103) (o := .cells #[.int .i64 0, .int .i64 1, .slice none 0 0, .slice none 0 0, .slice none 0 0, .slice none 0 0, .slice none 0 0, .bool false] 31 (0, 0)) (bk_ BK103.out) hb); have n2_ := Aside0.mk (below_step (hb2_ HB.out GE102.out GE103.out) hb); have n3_ := Aside0.mk (hbox); have n4_ := Aside0.mk ((by rw [hg]; exact (below_size (hb2_ HB.out GE102.out GE103.out)) : w.heap.size ≤ gb105)); have n5_ := Aside0.mk ((by rw [hg]; exact (below_size (hb2_ HB.out GE102.out GE103.out)) : w.heap.size ≤ gb105)); have n6_ := Aside0.mk ((by rw [hg]; exact Nat.ne_of_lt (blk_lt (g := gb102) (o := .cells #[.int .i64 x103000_1, .int .i64 x103001_1, .slice none 0 0, .slice none 0 0, .slice none 0 0, .slice none 0 0, .slice none 0 0, .bool x103007_1] 31 (0, 0)) (bk_ BK102.out)) : gb102 ≠ gb105)); have n7_ := Aside0.mk ((by rw [hg]; exact Nat.ne_of_gt (blk_lt (g := gb102) (o := .cells #[.int .i64 x103000_1, .int .i64 x103001_1, .slice none 0 0, .slice none 0 0, .slice none 0 0, .slice none 0 0, .slice none 0 0, .bool x103007_1] 31 (0, 0)) (bk_ BK102.out)) : gb105 ≠ gb102)); have n8_ := Aside0.mk ((by rw [hg]; exact Nat.ne_of_lt (blk_lt (g := gb103) (o := .cells #[.int .i64 0, .int .i64 1, .slice none 0 0, .slice none 0 0, .slice none 0 0, .slice none 0 0, .slice none 0 0, .bool false] 31 (0, 0)) (bk_ BK103.out)) : gb103 ≠ gb105)); have n9_ := Aside0.mk ((by rw [hg]; exact Nat.ne_of_gt (blk_lt (g := gb103) (o := .cells #[.int .i64 0, .int .i64 1, .slice none 0 0, .slice none 0 0, .slice none 0 0, .slice none 0 0, .slice none 0 0, .bool false] 31 (0, 0)) (bk_ BK103.out)) : gb105 ≠ gb103)); clear BK102 BK103 HB; revert n0_ n1_ n2_ n3_ n4_ n5_ n6_ n7_ n8_ n9_; intro BK102 BK103 HB BK105 GW105 GE105 NB102_105 NB105_102 NB103_105 NB105_103; clear hb hbox hg; have hnb17 := NB105_102.out; have hnc17 := NB102_105.out; have hnb18 := NB105_103.out; have hnc18 := NB103_105.out; obtain ⟨hcz19_0, hcz19_1, hcz19_2, hcz19_3, hcz19_4, hcz19_5, hcz19_6, hcz19_7, hfz19_0, hfz19_1, hfz19_2, hfz19_3, hfz19_4, hfz19_5, hfz19_6, hfz19_7⟩ := bx8_ BK105.out) | ((with_reducible refine gate_callee (f := 27) rfl ?_); refine goesL_ (some 18) rfl rfl Try.func27 (by kernel_rfl) rfl #[.agg #[.int .i64 ((rd_T31 l0 x13_1).f0), .int .i64 ((rd_T31 l0 x13_1).f1), .slice A104_2 ((rd_T31 l0 x13_1).f2).length c104_2, .slice A104_3 ((rd_T31 l0 x13_1).f3).length c104_3, .slice A104_4 ((rd_T31 l0 x13_1).f4).length c104_4, .slice A104_5 ((rd_T31 l0 x13_1).f5).length c104_5, .slice A104_6 ((rd_T31 l0 x13_1).f6).length c104_6, .bool ((rd_T31 l0 x13_1).f7)]] rfl (by (try simp only [List.map_toArray, List.map_cons, List.map_nil]); first | done | rfl | (simp only [List.length_drop, List.length_take]; rfl)) ?_; (with_reducible refine (ref15_Valid.calls ((rd_T31 l0 x13_1).f0) ((rd_T31 l0 x13_1).f1) _ _ ((rd_T31 l0 x13_1).f2) _ _ ((rd_T31 l0 x13_1).f3) _ _ ((rd_T31 l0 x13_1).f4) _ _ ((rd_T31 l0 x13_1).f5) _ _ ((rd_T31 l0 x13_1).f6) ((rd_T31 l0 x13_1).f7) false _ ?side1 ?side2 ?side3 ?side4 ?side5 ?side6 ?side7 ?side8 ?side9 ?side10 A9.out).mono ?_); (case side1 => exact Kd.C_below HR104_2.out (hb3_ HB.out GE102.out GE103.out GE105.out)); (case side2 => exact HC104_2.out); (case side3 => exact Kd.C_below HR104_3.out (hb3_ HB.out GE102.out GE103.out GE105.out)); (case side4 => exact HC104_3.out); (case side5 => exact Kd.C_below HR104_4.out (hb3_ HB.out GE102.out GE103.out GE105.out)); (case side6 => exact HC104_4.out); (case side7 => exact Kd.C_below HR104_5.out (hb3_ HB.out GE102.out GE103.out GE105.out)); (case side8 => exact HC104_5.out); (case side9 => exact Kd.C_below HR104_6.out (hb3_ HB.out GE102.out GE103.out GE105.out)); (case side10 => exact HC104_6.out); rintro e w20 ⟨rfl, hb⟩; refine ⟨_, rfl, ?_⟩; have n0_ := Aside0.mk (blk_below (g := gb102) (o := .cells #[.int .i64 x103000_1, .int .i64 x103001_1, .slice none 0 0, .slice none 0 0, .slice none 0 0, .slice none 0 0, .slice none 0 0, .bool x103007_1] 31 (0, 0)) (bf1_ BK102.out NB102_105.out) hb); have n1_ := Aside0.mk (blk_below (g := gb103) (o := .cells #[.int .i64 0, .int .i64 1, .slice none 0 0, .slice none 0 0, .slice none 0 0, .slice none 0 0, .slice none 0 0, .bool false] 31 (0, 0)) (bf1_ BK103.out NB103_105.out) hb); have n2_ := Aside0.mk (blk_below (g := gb105) (o := .cells #[.int .i64 ((rd_T31 l0 x13_1).f0), .int .i64 ((rd_T31 l0 x13_1).f1), .slice A104_2 ((rd_T31 l0 x13_1).f2).length c104_2, .slice A104_3 ((rd_T31 l0 x13_1).f3).length c104_3, .slice A104_4 ((rd_T31 l0 x13_1).f4).length c104_4, .slice A104_5 ((rd_T31 l0 x13_1).f5).length c104_5, .slice A104_6 ((rd_T31 l0 x13_1).f6).length c104_6, .bool ((rd_T31 l0 x13_1).f7)] 31 (0, 0)) (by (with_reducible repeat (first | refine blk_drewN ?_ _ | refine blk_drew ?_ | refine blk_alloc ?_ _)); refine blk_put (cs := #[.int .i64 ((rd_T31 l0 x13_1).f0), .int .i64 ((rd_T31 l0 x13_1).f1), .slice A104_2 ((rd_T31 l0 x13_1).f2).length c104_2, .slice A104_3 ((rd_T31 l0 x13_1).f3).length c104_3, .slice A104_4 ((rd_T31 l0 x13_1).f4).length c104_4, .slice A104_5 ((rd_T31 l0 x13_1).f5).length c104_5, .slice A104_6 ((rd_T31 l0 x13_1).f6).length c104_6, .bool false]) ?_ 7 _ rfl; (with_reducible repeat (first | refine blk_drewN ?_ _ | refine blk_drew ?_ | refine blk_alloc ?_ _)); refine blk_put (cs := #[.int .i64 ((rd_T31 l0 x13_1).f0), .int .i64 ((rd_T31 l0 x13_1).f1), .slice A104_2 ((rd_T31 l0 x13_1).f2).length c104_2, .slice A104_3 ((rd_T31 l0 x13_1).f3).length c104_3, .slice A104_4 ((rd_T31 l0 x13_1).f4).length c104_4, .slice A104_5 ((rd_T31 l0 x13_1).f5).length c104_5, .slice none 0 0, .bool false]) ?_ 6 _ rfl; (with_reducible repeat (first | refine blk_drewN ?_ _ | refine blk_drew ?_ | refine blk_alloc ?_ _)); refine blk_put (cs := #[.int .i64 ((rd_T31 l0 x13_1).f0), .int .i64 ((rd_T31 l0 x13_1).f1), .slice A104_2 ((rd_T31 l0 x13_1).f2).length c104_2, .slice A104_3 ((rd_T31 l0 x13_1).f3).length c104_3, .slice A104_4 ((rd_T31 l0 x13_1).f4).length c104_4, .slice none 0 0, .slice none 0 0, .bool false]) ?_ 5 _ rfl; (with_reducible repeat (first | refine blk_drewN ?_ _ | refine blk_drew ?_ | refine blk_alloc ?_ _)); refine blk_put (cs := #[.int .i64 ((rd_T31 l0 x13_1).f0), .int .i64 ((rd_T31 l0 x13_1).f1), .slice A104_2 ((rd_T31 l0 x13_1).f2).length c104_2, .slice A104_3 ((rd_T31 l0 x13_1).f3).length c104_3, .slice none 0 0, .slice none 0 0, .slice none 0 0, .bool false]) ?_ 4 _ rfl; (with_reducible repeat (first | refine blk_drewN ?_ _ | refine blk_drew ?_ | refine blk_alloc ?_ _)); refine blk_put (cs := #[.int .i64 ((rd_T31 l0 x13_1).f0), .int .i64 ((rd_T31 l0 x13_1).f1), .slice A104_2 ((rd_T31 l0 x13_1).f2).length c104_2, .slice none 0 0, .slice none 0 0, .slice none 0 0, .slice none 0 0, .bool false]) ?_ 3 _ rfl; (with_reducible repeat (first | refine blk_drewN ?_ _ | refine blk_drew ?_ | refine blk_alloc ?_ _)); refine blk_put (cs := #[.int .i64 ((rd_T31 l0 x13_1).f0), .int .i64 ((rd_T31 l0 x13_1).f1), .slice none 0 0, .slice none 0 0, .slice none 0 0, .slice none 0 0, .slice none 0 0, .bool false]) ?_ 2 _ rfl; (with_reducible repeat (first | refine blk_drewN ?_ _ | refine blk_drew ?_ | refine blk_alloc ?_ _)); refine blk_put (cs := #[.int .i64 ((rd_T31 l0 x13_1).f0), .int .i64 0, .slice none 0 0, .slice none 0 0, .slice none 0 0, .slice none 0 0, .slice none 0 0, .bool false]) ?_ 1 _ rfl; (with_reducible repeat (first | refine blk_drewN ?_ _ | refine blk_drew ?_ | refine blk_alloc ?_ _)); refine blk_put (cs := #[.int .i64 0, .int .i64 0, .slice none 0 0, .slice none 0 0, .slice none 0 0, .slice none 0 0, .slice none 0 0, .bool false]) ?_ 0 _ rfl; (with_reducible repeat (first | refine blk_drewN ?_ _ | refine blk_drew ?_ | refine blk_alloc ?_ _)); exact BK105.out) hb); have n3_ := Aside0.mk (below_step (hb3_ HB.out GE102.out GE103.out GE105.out) hb); clear BK102 BK103 BK105 HB; revert n0_ n1_ n2_ n3_; intro BK102 BK103 BK105 HB; (try clear hb); (try clear hb2); (try clear hk); (try clear hi); have hnb21 := NB102_103.out; have hnc21 := NB103_102.out; obtain ⟨hcz22_0, hcz22_1, hcz22_2, hcz22_3, hcz22_4, hcz22_5, hcz22_6, hcz22_7, hfz22_0, hfz22_1, hfz22_2, hfz22_3, hfz22_4, hfz22_5, hfz22_6, hfz22_7⟩ := bx8_ BK102.out))
     refine bodyPost_ret (results_ct rfl _ _ gb102 31 #[.int .i64 0, .int .i64 0, .slice none 0 0, .slice none 0 0, .slice none 0 0, .slice none 0 0, .slice none 0 0, .bool false] (0, 0) _ rfl (by (with_reducible repeat (first | refine blk_drewN ?_ _ | refine blk_drew ?_ | refine blk_alloc ?_ _)); refine blk_put (cs := #[.int .i64 0, .int .i64 0, .slice none 0 0, .slice none 0 0, .slice none 0 0, .slice none 0 0, .slice none 0 0, .bool x103007_1]) ?_ 7 _ rfl; (with_reducible repeat (first | refine blk_drewN ?_ _ | refine blk_drew ?_ | refine blk_alloc ?_ _)); refine blk_put (cs := #[.int .i64 0, .int .i64 0, .slice none 0 0, .slice none 0 0, .slice none 0 0, .slice none 0 0, .slice none 0 0, .bool x103007_1]) ?_ 6 _ rfl; (with_reducible repeat (first | refine blk_drewN ?_ _ | refine blk_drew ?_ | refine blk_alloc ?_ _)); refine blk_put (cs := #[.int .i64 0, .int .i64 0, .slice none 0 0, .slice none 0 0, .slice none 0 0, .slice none 0 0, .slice none 0 0, .bool x103007_1]) ?_ 5 _ rfl; (with_reducible repeat (first | refine blk_drewN ?_ _ | refine blk_drew ?_ | refine blk_alloc ?_ _)); refine blk_put (cs := #[.int .i64 0, .int .i64 0, .slice none 0 0, .slice none 0 0, .slice none 0 0, .slice none 0 0, .slice none 0 0, .bool x103007_1]) ?_ 4 _ rfl; (with_reducible repeat (first | refine blk_drewN ?_ _ | refine blk_drew ?_ | refine blk_alloc ?_ _)); refine blk_put (cs := #[.int .i64 0, .int .i64 0, .slice none 0 0, .slice none 0 0, .slice none 0 0, .slice none 0 0, .slice none 0 0, .bool x103007_1]) ?_ 3 _ rfl; (with_reducible repeat (first | refine blk_drewN ?_ _ | refine blk_drew ?_ | refine blk_alloc ?_ _)); refine blk_put (cs := #[.int .i64 0, .int .i64 0, .slice none 0 0, .slice none 0 0, .slice none 0 0, .slice none 0 0, .slice none 0 0, .bool x103007_1]) ?_ 2 _ rfl; (with_reducible repeat (first | refine blk_drewN ?_ _ | refine blk_drew ?_ | refine blk_alloc ?_ _)); refine blk_put (cs := #[.int .i64 0, .int .i64 x103001_1, .slice none 0 0, .slice none 0 0, .slice none 0 0, .slice none 0 0, .slice none 0 0, .bool x103007_1]) ?_ 1 _ rfl; (with_reducible repeat (first | refine blk_drewN ?_ _ | refine blk_drew ?_ | refine blk_alloc ?_ _)); refine blk_put (cs := #[.int .i64 x103000_1, .int .i64 x103001_1, .slice none 0 0, .slice none 0 0, .slice none 0 0, .slice none 0 0, .slice none 0 0, .bool x103007_1]) ?_ 0 _ rfl; (with_reducible repeat (first | refine blk_drewN ?_ _ | refine blk_drew ?_ | refine blk_alloc ?_ _)); exact BK102.out) Try.underlying31 rfl (by kernel_rfl)) rfl ?_
     exact ⟨_, _, _, _, _, by first | rfl | (simp [errW_none, errW_some] <;> rfl) | (simp [*, errW_none, errW_some] <;> rfl), by first | exact Kd.R_nil _ _ _ _ _ | exact Kd.N_nil _ _ _ _ _ | exact Kd.V_nil _ _ _ _ _ | exact Kd.Q_nil _ _ _ _ _ | exact Kd.S_nil _ _ _ _ _, by first | exact Kd.R_nil _ _ _ _ _ | exact Kd.N_nil _ _ _ _ _ | exact Kd.V_nil _ _ _ _ _ | exact Kd.Q_nil _ _ _ _ _ | exact Kd.S_nil _ _ _ _ _, by first | exact Kd.R_nil _ _ _ _ _ | exact Kd.N_nil _ _ _ _ _ | exact Kd.V_nil _ _ _ _ _ | exact Kd.Q_nil _ _ _ _ _ | exact Kd.S_nil _ _ _ _ _, by first | exact Kd.R_nil _ _ _ _ _ | exact Kd.N_nil _ _ _ _ _ | exact Kd.V_nil _ _ _ _ _ | exact Kd.Q_nil _ _ _ _ _ | exact Kd.S_nil _ _ _ _ _, by first | exact Kd.R_nil _ _ _ _ _ | exact Kd.N_nil _ _ _ _ _ | exact Kd.V_nil _ _ _ _ _ | exact Kd.Q_nil _ _ _ _ _ | exact Kd.S_nil _ _ _ _ _, (hb3_ HB.out GE102.out GE103.out GE105.out)⟩
   ·
    rw [if_neg c6] at H
    have c6b0 : decide (x13_1 < (l0.length : Int)) = false := decide_eq_false c6
    clear c6
    have H' := Aside0.mk H
    clear H
    go_wp2
    go_loopg [24] k1 (fun kq v24 w' => ∃ (x24_2 : Int) (x103000_2 : Int) (x103001_2 : Int) (x103007_2 : Bool) (x104000_2 : Int) (x104001_2 : Int) (x104002_2 : List Int) (x104003_2 : List Int) (u104002 : Value) (u104003 : Value), v24 = .int .i64 x24_2 ∧ Aside0 (ref16_Lay.l1 kq l0 (l0.length : Int) x24_2 x104000_2 x104001_2 x104002_2 x104003_2 false = some (r1, r2, r3, r4, r5, r6, r7, r8, r9)) ∧ Aside0 (kq ≤ k1) ∧ Aside0 (Kd.R (Kd.int .u8) 5 w' w.heap.size (fun _ => True) u104002 x104002_2) ∧ Aside0 (Kd.R (Kd.int .i64) 3 w' w.heap.size (fun _ => True) u104003 x104003_2) ∧ Aside0 (w'.heap[gb102]? = some (.cells #[.int .i64 x103000_2, .int .i64 x103001_2, (.slice none 0 0), (.slice none 0 0), (.slice none 0 0), (.slice none 0 0), (.slice none 0 0), .bool x103007_2] 31 (0, 0))) ∧ Aside0 (w'.heap[gb103]? = some (.cells #[.int .i64 x104000_2, .int .i64 x104001_2, u104002, u104003, (.slice none 0 0), (.slice none 0 0), (.slice none 0 0), .bool false] 31 (0, 0))) ∧ Aside0 (Below w.heap.size w w'))
    case atStart => exact ⟨(0), (x103000_1), (x103001_1), (x103007_1), (0), (1), (([] : List Int)), (([] : List Int)), (.slice none 0 0), (.slice none 0 0), (by first | rfl | (simp; done) | (simp [*]; done)), H', ⟨Nat.le_refl _⟩, ⟨by first | exact Kd.R_nil _ _ _ _ _ | exact Kd.N_nil _ _ _ _ _ | exact Kd.V_nil _ _ _ _ _ | exact Kd.Q_nil _ _ _ _ _ | exact Kd.S_nil _ _ _ _ _⟩, ⟨by first | exact Kd.R_nil _ _ _ _ _ | exact Kd.N_nil _ _ _ _ _ | exact Kd.V_nil _ _ _ _ _ | exact Kd.Q_nil _ _ _ _ _ | exact Kd.S_nil _ _ _ _ _⟩, ⟨by (with_reducible repeat (first | refine blk_drewN ?_ _ | refine blk_drew ?_ | refine blk_alloc ?_ _)); exact BK102.out⟩, ⟨by (with_reducible repeat (first | refine blk_drewN ?_ _ | refine blk_drew ?_ | refine blk_alloc ?_ _)); exact BK103.out⟩, ⟨(hb2_ HB.out GE102.out GE103.out)⟩⟩
    case round =>
     clear H'
     try clear c1
     try clear p1
     try clear q1
     try clear hx1
     try clear c2
     try clear p2
     try clear c4
     try clear c6
     try clear c6b0
     try clear p6
     try clear c7
     try clear c7b0
     try clear c8
     try clear c8b0
     try clear c10
     try clear p10
     try clear q10
     try clear hx10
     try clear c12
     try clear c13
     try clear c17
     try clear c18
     try clear c21
     try clear hcz14_0
     try clear hcz14_1
     try clear hcz14_2
     try clear hcz14_3
     try clear hcz14_4
     try clear hcz14_5
     try clear hcz14_6
     try clear hcz14_7
     try clear hcz19_0
     try clear hcz19_1
     try clear hcz19_2
     try clear hcz19_3
     try clear hcz19_4
     try clear hcz19_5
     try clear hcz19_6
     try clear hcz19_7
     try clear hcz22_0
     try clear hcz22_1
     try clear hcz22_2
     try clear hcz22_3
     try clear hcz22_4
     try clear hcz22_5
     try clear hcz22_6
     try clear hcz22_7
     try clear hcz5_0
     try clear hcz5_1
     try clear hcz5_2
     try clear hcz5_3
     try clear hcz5_4
     try clear hcz5_5
     try clear hcz5_6
     try clear hcz5_7
     try clear hfz14_0
     try clear hfz14_1
     try clear hfz14_2
     try clear hfz14_3
     try clear hfz14_4
     try clear hfz14_5
     try clear hfz14_6
     try clear hfz14_7
     try clear hfz19_0
     try clear hfz19_1
     try clear hfz19_2
     try clear hfz19_3
     try clear hfz19_4
     try clear hfz19_5
     try clear hfz19_6
     try clear hfz19_7
     try clear hfz22_0
     try clear hfz22_1
     try clear hfz22_2
     try clear hfz22_3
     try clear hfz22_4
     try clear hfz22_5
     try clear hfz22_6
     try clear hfz22_7
     try clear hfz5_0
     try clear hfz5_1
     try clear hfz5_2
     try clear hfz5_3
     try clear hfz5_4
     try clear hfz5_5
     try clear hfz5_6
     try clear hfz5_7
     try clear hx104_0
     try clear hx104_1
     try clear hx104_2
     try clear hx104_3
     try clear hx104_4
     try clear hx104_5
     try clear hx104_6
     try clear hx104_7
     try clear p104
     try clear p2
     try clear q104
     obtain ⟨x24_2, x103000_2, x103001_2, x103007_2, x104000_2, x104001_2, x104002_2, x104003_2, u104002, u104003, rfl, HA, HK2, HO_104002, HO_104003, BK102, BK103, HB⟩ := hrel
     cases gk with
     | zero => exact absurd HA.out (by simp [ref16_Lay.l1])
     | succ k2 =>
      have H := HA.out
      clear HA
      simp only [ref16_Lay.l1] at H
      by_cases c23 : x24_2 < (l0.length : Int)
      ·
       rw [if_pos c23] at H
       have c23b0 : decide (x24_2 < (l0.length : Int)) = true := decide_eq_true c23
       clear c23
       by_cases c24 : 0 ≤ x24_2
       rotate_left
       ·
        rw [if_neg c24] at H
        exact absurd H (by simp)
       rw [if_pos c24] at H
       have c24b0 : decide (0 ≤ x24_2) = true := decide_eq_true c24
       clear c24
       by_cases c25 : x24_2 < (l0.length : Int)
       rotate_left
       ·
        rw [if_neg c25] at H
        exact absurd H (by simp)
       rw [if_pos c25] at H
       have c25b0 : decide (x24_2 < (l0.length : Int)) = true := decide_eq_true c25
       clear c25
       replace H := Option.bind_eq_some_iff.mp H
       obtain ⟨t109, A260, H⟩ := H
       replace H : (if (wrap64 (t109 + ((rd_T31 l0 x24_2).f0))) > 1024 then (some (0, 0, ([] : List Int), ([] : List Int), ([] : List (S101)), ([] : List (S79)), ([] : List Int), false, 4)) else (if x104003_2.length < 17592186044416 then (ref16_Lay.l2 k2 t109 l0 (l0.length : Int) x24_2 x104000_2 x104001_2 x104002_2 (x104003_2 ++ [t109]) false ((rd_T31 l0 x24_2).f0) ((rd_T31 l0 x24_2).f1) ((rd_T31 l0 x24_2).f2) ((rd_T31 l0 x24_2).f3) ((rd_T31 l0 x24_2).f4) ((rd_T31 l0 x24_2).f5) ((rd_T31 l0 x24_2).f6) ((rd_T31 l0 x24_2).f7)) else (none))) = some (r1, r2, r3, r4, r5, r6, r7, r8, r9) := H
       have A26 := Aside0.mk A260
       clear A260
       by_cases c27 : (wrap64 (t109 + ((rd_T31 l0 x24_2).f0))) > 1024
       ·
        rw [if_pos c27] at H
        have c27b0 : decide (1024 < (wrap64 (t109 + ((rd_T31 l0 x24_2).f0)))) = true := decide_eq_true c27
        clear c27
        simp only [Option.some.injEq, Prod.mk.injEq] at H
        obtain ⟨rfl, rfl, rfl, rfl, rfl, rfl, rfl, rfl, rfl⟩ := H
        have p107 : 0 ≤ (x24_2 : Int) := od_
        have q107 : x24_2 < (l0.length : Int) := od_
        obtain ⟨ad107, A107_2, c107_2, A107_3, c107_3, A107_4, c107_4, A107_5, c107_5, A107_6, c107_6, e107, hx107_0, hx107_1, hx107_2, hx107_3, hx107_4, hx107_5, hx107_6, hx107_7, hl107_2, hi107_2, hl107_3, hi107_3, hl107_4, hi107_4, hl107_5, hi107_5, hl107_6, hi107_6⟩ := at_T31 HR0.out x24_2 p107 q107
        cases e107
        replace hx107_0 := (HB.out.cell (World.block_lt_of_cell? w _ hx107_0)).trans hx107_0
        replace hx107_1 := (HB.out.cell (World.block_lt_of_cell? w _ hx107_1)).trans hx107_1
        replace hx107_2 := (HB.out.cell (World.block_lt_of_cell? w _ hx107_2)).trans hx107_2
        replace hx107_3 := (HB.out.cell (World.block_lt_of_cell? w _ hx107_3)).trans hx107_3
        replace hx107_4 := (HB.out.cell (World.block_lt_of_cell? w _ hx107_4)).trans hx107_4
        replace hx107_5 := (HB.out.cell (World.block_lt_of_cell? w _ hx107_5)).trans hx107_5
        replace hx107_6 := (HB.out.cell (World.block_lt_of_cell? w _ hx107_6)).trans hx107_6
        replace hx107_7 := (HB.out.cell (World.block_lt_of_cell? w _ hx107_7)).trans hx107_7
        have HR107_2 := Aside0.mk hi107_2
        have HC107_2 := Aside0.mk hl107_2
        clear hi107_2 hl107_2
        have HR107_3 := Aside0.mk hi107_3
        have HC107_3 := Aside0.mk hl107_3
        clear hi107_3 hl107_3
        have HR107_4 := Aside0.mk hi107_4
        have HC107_4 := Aside0.mk hl107_4
        clear hi107_4 hl107_4
        have HR107_5 := Aside0.mk hi107_5
        have HC107_5 := Aside0.mk hl107_5
        clear hi107_5 hl107_5
        have HR107_6 := Aside0.mk hi107_6
        have HC107_6 := Aside0.mk hl107_6
        clear hi107_6 hl107_6
        replace p107 := eq_true p107
        replace q107 := eq_true q107
        go_wp2_with (first | ((with_reducible refine gate_dst (N := 8) rfl ?_); refine box_event ?hg (N := 8) ?hd (cs := #[.int .i64 0, .int .i64 0, .slice none 0 0, .slice none 0 0, .slice none 0 0, .slice none 0 0, .slice none 0 0, .bool false]) (t := 31) ?hr ?_; (case hd => rfl); (case hg => rfl); (case hr => first | (go_simp; done) | (go_simp; rfl)); intro gb108 hg w28 hbox hb; have n0_ := Aside0.mk (Kd.R_below (kR_ HO_104002.out) hb); have n1_ := Aside0.mk (Kd.R_below (kR_ HO_104003.out) hb); have n2_ := Aside0.mk (blk_below (g := gb102) (o := .cells #[.int .i64 x103000_2, .int .i64 x103001_2, .slice none 0 0, .slice none 0 0, .slice none 0 0, .slice none 0 0, .slice none 0 0, .bool x103007_2] 31 (0, 0)) (bk_ BK102.out) hb); have n3_ := Aside0.mk (blk_below (g := gb103) (o := .cells #[.int .i64 x104000_2, .int .i64 x104001_2, u104002, u104003, .slice none 0 0, .slice none 0 0, .slice none 0 0, .bool false] 31 (0, 0)) (bk_ BK103.out) hb); have n4_ := Aside0.mk (below_step (hb2_ HB.out GE102.out GE103.out) hb); have n5_ := Aside0.mk (hbox); have n6_ := Aside0.mk ((by rw [hg]; exact (below_size (hb2_ HB.out GE102.out GE103.out)) : w.heap.size ≤ gb108)); have n7_ := Aside0.mk ((by rw [hg]; exact (below_size (hb2_ HB.out GE102.out GE103.out)) : w.heap.size ≤ gb108)); have n8_ := Aside0.mk ((by rw [hg]; exact Nat.ne_of_lt (blk_lt (g := gb102) (o := .cells #[.int .i64 x103000_2, .int .i64 x103001_2, .slice none 0 0, .slice none 0 0, .slice none 0 0, .slice none 0 0, .slice none 0 0, .bool x103007_2] 31 (0, 0)) (bk_ BK102.out)) : gb102 ≠ gb108)); have n9_ := Aside0.mk ((by rw [hg]; exact Nat.ne_of_gt (blk_lt (g := gb102) (o := .cells #[.int .i64 x103000_2, .int .i64 x103001_2, .slice none 0 0, .slice none 0 0, .slice none 0 0, .slice none 0 0, .slice none 0 0, .bool x103007_2] 31 (0, 0)) (bk_ BK102.out)) : gb108 ≠ gb102)); have n10_ := Aside0.mk ((by rw [hg]; exact Nat.ne_of_lt (blk_lt (g := gb103) (o := .cells #[.int .i64 x104000_2, .int .i64 x104001_2, u104002, u104003, .slice none 0 0, .slice none 0 0, .slice none 0 0, .bool false] 31 (0, 0)) (bk_ BK103.out)) : gb103 ≠ gb108)); have n11_ := Aside0.mk ((by rw [hg]; exact Nat.ne_of_gt (blk_lt (g := gb103) (o := .cells #[.int .i64 x104000_2, .int .i64 x104001_2, u104002, u104003, .slice none 0 0, .slice none 0 0, .slice none 0 0, .bool false] 31 (0, 0)) (bk_ BK103.out)) : gb108 ≠ gb103)); clear HO_104002 HO_104003 BK102 BK103 HB; revert n0_ n1_ n2_ n3_ n4_ n5_ n6_ n7_ n8_ n9_ n10_ n11_; intro HO_104002 HO_104003 BK102 BK103 HB BK108 GW108 GE108 NB102_108 NB108_102 NB103_108 NB108_103; clear hb hbox hg; have hnb29 := NB108_102.out; have hnc29 := NB102_108.out; have hnb30 := NB108_103.out; have hnc30 := NB103_108.out; obtain ⟨hcz31_0, hcz31_1, hcz31_2, hcz31_3, hcz31_4, hcz31_5, hcz31_6, hcz31_7, hfz31_0, hfz31_1, hfz31_2, hfz31_3, hfz31_4, hfz31_5, hfz31_6, hfz31_7⟩ := bx8_ BK108.out; have hnb32 := NB103_102.out; have hnc32 := NB102_103.out; obtain ⟨hcz33_0, hcz33_1, hcz33_2, hcz33_3, hcz33_4, hcz33_5, hcz33_6, hcz33_7, hfz33_0, hfz33_1, hfz33_2, hfz33_3, hfz33_4, hfz33_5, hfz33_6, hfz33_7⟩ := bx8_ BK103.out) | ((with_reducible refine gate_callee (f := 31) rfl ?_); refine goesL_ (some 32) rfl rfl Try.func31 (by kernel_rfl) rfl #[.int .i64 x104000_2, .int .i64 ((rd_T31 l0 x24_2).f1)] rfl (by (try simp only [List.map_toArray, List.map_cons, List.map_nil]); first | done | rfl | (simp only [List.length_drop, List.length_take]; rfl)) ?_; (with_reducible refine (ref16_Align.calls x104000_2 ((rd_T31 l0 x24_2).f1) t109 _ A26.out).mono ?_); rintro e w' ⟨rfl, ⟨nd, rfl⟩⟩; refine ⟨_, rfl, ?_⟩; obtain ⟨hcz34_0, hcz34_1, hcz34_2, hcz34_3, hcz34_4, hcz34_5, hcz34_6, hcz34_7, hfz34_0, hfz34_1, hfz34_2, hfz34_3, hfz34_4, hfz34_5, hfz34_6, hfz34_7⟩ := bx8_ BK102.out))
        refine bodyPost_ret (results_ct rfl _ _ gb102 31 #[.int .i64 0, .int .i64 0, .slice none 0 0, .slice none 0 0, .slice none 0 0, .slice none 0 0, .slice none 0 0, .bool false] (0, 0) _ rfl (by (with_reducible repeat (first | refine blk_drewN ?_ _ | refine blk_drew ?_ | refine blk_alloc ?_ _)); refine blk_put (cs := #[.int .i64 0, .int .i64 0, .slice none 0 0, .slice none 0 0, .slice none 0 0, .slice none 0 0, .slice none 0 0, .bool x103007_2]) ?_ 7 _ rfl; (with_reducible repeat (first | refine blk_drewN ?_ _ | refine blk_drew ?_ | refine blk_alloc ?_ _)); refine blk_put (cs := #[.int .i64 0, .int .i64 0, .slice none 0 0, .slice none 0 0, .slice none 0 0, .slice none 0 0, .slice none 0 0, .bool x103007_2]) ?_ 6 _ rfl; (with_reducible repeat (first | refine blk_drewN ?_ _ | refine blk_drew ?_ | refine blk_alloc ?_ _)); refine blk_put (cs := #[.int .i64 0, .int .i64 0, .slice none 0 0, .slice none 0 0, .slice none 0 0, .slice none 0 0, .slice none 0 0, .bool x103007_2]) ?_ 5 _ rfl; (with_reducible repeat (first | refine blk_drewN ?_ _ | refine blk_drew ?_ | refine blk_alloc ?_ _)); refine blk_put (cs := #[.int .i64 0, .int .i64 0, .slice none 0 0, .slice none 0 0, .slice none 0 0, .slice none 0 0, .slice none 0 0, .bool x103007_2]) ?_ 4 _ rfl; (with_reducible repeat (first | refine blk_drewN ?_ _ | refine blk_drew ?_ | refine blk_alloc ?_ _)); refine blk_put (cs := #[.int .i64 0, .int .i64 0, .slice none 0 0, .slice none 0 0, .slice none 0 0, .slice none 0 0, .slice none 0 0, .bool x103007_2]) ?_ 3 _ rfl; (with_reducible repeat (first | refine blk_drewN ?_ _ | refine blk_drew ?_ | refine blk_alloc ?_ _)); refine blk_put (cs := #[.int .i64 0, .int .i64 0, .slice none 0 0, .slice none 0 0, .slice none 0 0, .slice none 0 0, .slice none 0 0, .bool x103007_2]) ?_ 2 _ rfl; (with_reducible repeat (first | refine blk_drewN ?_ _ | refine blk_drew ?_ | refine blk_alloc ?_ _)); refine blk_put (cs := #[.int .i64 0, .int .i64 x103001_2, .slice none 0 0, .slice none 0 0, .slice none 0 0, .slice none 0 0, .slice none 0 0, .bool x103007_2]) ?_ 1 _ rfl; (with_reducible repeat (first | refine blk_drewN ?_ _ | refine blk_drew ?_ | refine blk_alloc ?_ _)); refine blk_put (cs := #[.int .i64 x103000_2, .int .i64 x103001_2, .slice none 0 0, .slice none 0 0, .slice none 0 0, .slice none 0 0, .slice none 0 0, .bool x103007_2]) ?_ 0 _ rfl; (with_reducible repeat (first | refine blk_drewN ?_ _ | refine blk_drew ?_ | refine blk_alloc ?_ _)); refine blk_far ?_ NB102_108.out _; (with_reducible repeat (first | refine blk_drewN ?_ _ | refine blk_drew ?_ | refine blk_alloc ?_ _)); refine blk_far ?_ NB102_108.out _; (with_reducible repeat (first | refine blk_drewN ?_ _ | refine blk_drew ?_ | refine blk_alloc ?_ _)); refine blk_far ?_ NB102_108.out _; (with_reducible repeat (first | refine blk_drewN ?_ _ | refine blk_drew ?_ | refine blk_alloc ?_ _)); refine blk_far ?_ NB102_108.out _; (with_reducible repeat (first | refine blk_drewN ?_ _ | refine blk_drew ?_ | refine blk_alloc ?_ _)); refine blk_far ?_ NB102_108.out _; (with_reducible repeat (first | refine blk_drewN ?_ _ | refine blk_drew ?_ | refine blk_alloc ?_ _)); refine blk_far ?_ NB102_108.out _; (with_reducible repeat (first | refine blk_drewN ?_ _ | refine blk_drew ?_ | refine blk_alloc ?_ _)); refine blk_far ?_ NB102_108.out _; (with_reducible repeat (first | refine blk_drewN ?_ _ | refine blk_drew ?_ | refine blk_alloc ?_ _)); refine blk_far ?_ NB102_108.out _; (with_reducible repeat (first | refine blk_drewN ?_ _ | refine blk_drew ?_ | refine blk_alloc ?_ _)); exact BK102.out) Try.underlying31 rfl (by kernel_rfl)) rfl ?_
        exact ⟨_, _, _, _, _, by first | rfl | (simp [errW_none, errW_some] <;> rfl) | (simp [*, errW_none, errW_some] <;> rfl), by first | exact Kd.R_nil _ _ _ _ _ | exact Kd.N_nil _ _ _ _ _ | exact Kd.V_nil _ _ _ _ _ | exact Kd.Q_nil _ _ _ _ _ | exact Kd.S_nil _ _ _ _ _, by first | exact Kd.R_nil _ _ _ _ _ | exact Kd.N_nil _ _ _ _ _ | exact Kd.V_nil _ _ _ _ _ | exact Kd.Q_nil _ _ _ _ _ | exact Kd.S_nil _ _ _ _ _, by first | exact Kd.R_nil _ _ _ _ _ | exact Kd.N_nil _ _ _ _ _ | exact Kd.V_nil _ _ _ _ _ | exact Kd.Q_nil _ _ _ _ _ | exact Kd.S_nil _ _ _ _ _, by first | exact Kd.R_nil _ _ _ _ _ | exact Kd.N_nil _ _ _ _ _ | exact Kd.V_nil _ _ _ _ _ | exact Kd.Q_nil _ _ _ _ _ | exact Kd.S_nil _ _ _ _ _, by first | exact Kd.R_nil _ _ _ _ _ | exact Kd.N_nil _ _ _ _ _ | exact Kd.V_nil _ _ _ _ _ | exact Kd.Q_nil _ _ _ _ _ | exact Kd.S_nil _ _ _ _ _, (hb3_ HB.out GE102.out GE103.out GE108.out)⟩
       ·
        rw [if_neg c27] at H
        have c27b0 : decide (1024 < (wrap64 (t109 + ((rd_T31 l0 x24_2).f0)))) = false := decide_eq_false c27
        clear c27
        by_cases c35 : x104003_2.length < 17592186044416
        rotate_left
        ·
         rw [if_neg c35] at H
         exact absurd H (by simp)
        rw [if_pos c35] at H
        have LMc35 := Aside0.mk c35
        clear c35
        obtain ⟨y110, hy110⟩ : ∃ y_ : List Int, y_ = (x104003_2 ++ [t109]) := ⟨_, rfl⟩
        replace H : (ref16_Lay.l2 k2 t109 l0 (l0.length : Int) x24_2 x104000_2 x104001_2 x104002_2 y110 false ((rd_T31 l0 x24_2).f0) ((rd_T31 l0 x24_2).f1) ((rd_T31 l0 x24_2).f2) ((rd_T31 l0 x24_2).f3) ((rd_T31 l0 x24_2).f4) ((rd_T31 l0 x24_2).f5) ((rd_T31 l0 x24_2).f6) ((rd_T31 l0 x24_2).f7)) = some (r1, r2, r3, r4, r5, r6, r7, r8, r9) := by first | (rw [hy110]; with_reducible exact H) | (have H2_ := (Option.bind_some _ _).symm.trans H; rw [hy110]; with_reducible exact H2_) | (have H2_ := (Option.bind_some _ _).symm.trans H; with_reducible exact H2_) | with_reducible exact H | (rw [hy110]; exact H) | exact H
        have Ny110 := Aside0.mk hy110
        clear hy110
        have H' := Aside0.mk H
        clear H
        have p107 : 0 ≤ (x24_2 : Int) := od_
        have q107 : x24_2 < (l0.length : Int) := od_
        obtain ⟨ad107, A107_2, c107_2, A107_3, c107_3, A107_4, c107_4, A107_5, c107_5, A107_6, c107_6, e107, hx107_0, hx107_1, hx107_2, hx107_3, hx107_4, hx107_5, hx107_6, hx107_7, hl107_2, hi107_2, hl107_3, hi107_3, hl107_4, hi107_4, hl107_5, hi107_5, hl107_6, hi107_6⟩ := at_T31 HR0.out x24_2 p107 q107
        cases e107
        replace hx107_0 := (HB.out.cell (World.block_lt_of_cell? w _ hx107_0)).trans hx107_0
        replace hx107_1 := (HB.out.cell (World.block_lt_of_cell? w _ hx107_1)).trans hx107_1
        replace hx107_2 := (HB.out.cell (World.block_lt_of_cell? w _ hx107_2)).trans hx107_2
        replace hx107_3 := (HB.out.cell (World.block_lt_of_cell? w _ hx107_3)).trans hx107_3
        replace hx107_4 := (HB.out.cell (World.block_lt_of_cell? w _ hx107_4)).trans hx107_4
        replace hx107_5 := (HB.out.cell (World.block_lt_of_cell? w _ hx107_5)).trans hx107_5
        replace hx107_6 := (HB.out.cell (World.block_lt_of_cell? w _ hx107_6)).trans hx107_6
        replace hx107_7 := (HB.out.cell (World.block_lt_of_cell? w _ hx107_7)).trans hx107_7
        have HR107_2 := Aside0.mk hi107_2
        have HC107_2 := Aside0.mk hl107_2
        clear hi107_2 hl107_2
        have HR107_3 := Aside0.mk hi107_3
        have HC107_3 := Aside0.mk hl107_3
        clear hi107_3 hl107_3
        have HR107_4 := Aside0.mk hi107_4
        have HC107_4 := Aside0.mk hl107_4
        clear hi107_4 hl107_4
        have HR107_5 := Aside0.mk hi107_5
        have HC107_5 := Aside0.mk hl107_5
        clear hi107_5 hl107_5
        have HR107_6 := Aside0.mk hi107_6
        have HC107_6 := Aside0.mk hl107_6
        clear hi107_6 hl107_6
        replace p107 := eq_true p107
        replace q107 := eq_true q107
        go_wp2_with (first | ((with_reducible refine gate_dst (N := 8) rfl ?_); refine box_event ?hg (N := 8) ?hd (cs := #[.int .i64 0, .int .i64 0, .slice none 0 0, .slice none 0 0, .slice none 0 0, .slice none 0 0, .slice none 0 0, .bool false]) (t := 31) ?hr ?_; (case hd => rfl); (case hg => rfl); (case hr => first | (go_simp; done) | (go_simp; rfl)); intro gb108 hg w36 hbox hb; have n0_ := Aside0.mk (Kd.R_below (kR_ HO_104002.out) hb); have n1_ := Aside0.mk (Kd.R_below (kR_ HO_104003.out) hb); have n2_ := Aside0.mk (blk_below (g := gb102) (o := .cells #[.int .i64 x103000_2, .int .i64 x103001_2, .slice none 0 0, .slice none 0 0, .slice none 0 0, .slice none 0 0, .slice none 0 0, .bool x103007_2] 31 (0, 0)) (bk_ BK102.out) hb); have n3_ := Aside0.mk (blk_below (g := gb103) (o := .cells #[.int .i64 x104000_2, .int .i64 x104001_2, u104002, u104003, .slice none 0 0, .slice none 0 0, .slice none 0 0, .bool false] 31 (0, 0)) (bk_ BK103.out) hb); have n4_ := Aside0.mk (below_step (hb2_ HB.out GE102.out GE103.out) hb); have n5_ := Aside0.mk (hbox); have n6_ := Aside0.mk ((by rw [hg]; exact (below_size (hb2_ HB.out GE102.out GE103.out)) : w.heap.size ≤ gb108)); have n7_ := Aside0.mk ((by rw [hg]; exact (below_size (hb2_ HB.out GE102.out GE103.out)) : w.heap.size ≤ gb108)); have n8_ := Aside0.mk ((by rw [hg]; exact Nat.ne_of_lt (blk_lt (g := gb102) (o := .cells #[.int .i64 x103000_2, .int .i64 x103001_2, .slice none 0 0, .slice none 0 0, .slice none 0 0, .slice none 0 0, .slice none 0 0, .bool x103007_2] 31 (0, 0)) (bk_ BK102.out)) : gb102 ≠ gb108)); have n9_ := Aside0.mk ((by rw [hg]; exact Nat.ne_of_gt (blk_lt (g := gb102) (o := .cells #[.int .i64 x103000_2, .int .i64 x103001_2, .slice none 0 0, .slice none 0 0, .slice none 0 0, .slice none 0 0, .slice none 0 0, .bool x103007_2] 31 (0, 0)) (bk_ BK102.out)) : gb108 ≠ gb102)); have n10_ := Aside0.mk ((by rw [hg]; exact Nat.ne_of_lt (blk_lt (g := gb103) (o := .cells #[.int .i64 x104000_2, .int .i64 x104001_2, u104002, u104003, .slice none 0 0, .slice none 0 0, .slice none 0 0, .bool false] 31 (0, 0)) (bk_ BK103.out)) : gb103 ≠ gb108)); have n11_ := Aside0.mk ((by rw [hg]; exact Nat.ne_of_gt (blk_lt (g := gb103) (o := .cells #[.int .i64 x104000_2, .int .i64 x104001_2, u104002, u104003, .slice none 0 0, .slice none 0 0, .slice none 0 0, .bool false] 31 (0, 0)) (bk_ BK103.out)) : gb108 ≠ gb103)); clear HO_104002 HO_104003 BK102 BK103 HB; revert n0_ n1_ n2_ n3_ n4_ n5_ n6_ n7_ n8_ n9_ n10_ n11_; intro HO_104002 HO_104003 BK102 BK103 HB BK108 GW108 GE108 NB102_108 NB108_102 NB103_108 NB108_103; clear hb hbox hg; have hnb37 := NB108_102.out; have hnc37 := NB102_108.out; have hnb38 := NB108_103.out; have hnc38 := NB103_108.out; obtain ⟨hcz39_0, hcz39_1, hcz39_2, hcz39_3, hcz39_4, hcz39_5, hcz39_6, hcz39_7, hfz39_0, hfz39_1, hfz39_2, hfz39_3, hfz39_4, hfz39_5, hfz39_6, hfz39_7⟩ := bx8_ BK108.out; have hnb40 := NB103_102.out; have hnc40 := NB102_103.out; obtain ⟨hcz41_0, hcz41_1, hcz41_2, hcz41_3, hcz41_4, hcz41_5, hcz41_6, hcz41_7, hfz41_0, hfz41_1, hfz41_2, hfz41_3, hfz41_4, hfz41_5, hfz41_6, hfz41_7⟩ := bx8_ BK103.out) | ((with_reducible refine gate_callee (f := 31) rfl ?_); refine goesL_ (some 32) rfl rfl Try.func31 (by kernel_rfl) rfl #[.int .i64 x104000_2, .int .i64 ((rd_T31 l0 x24_2).f1)] rfl (by (try simp only [List.map_toArray, List.map_cons, List.map_nil]); first | done | rfl | (simp only [List.length_drop, List.length_take]; rfl)) ?_; (with_reducible refine (ref16_Align.calls x104000_2 ((rd_T31 l0 x24_2).f1) t109 _ A26.out).mono ?_); rintro e w' ⟨rfl, ⟨nd, rfl⟩⟩; refine ⟨_, rfl, ?_⟩) | ((with_reducible refine gate_builtin (b := .append) (xs := #[.tmp 40, .tmp 42]) rfl ?_); at_builtin; refine Kd.R_append (Kd.int .i64) (w0 := w) w.heap.size rfl (.tmp 40) (.tmp 42) 23 3 (.int .i64 0) 8 rfl Try.underlying23 info3 rfl (by decide) (by omega) u104003 x104003_2 t109 [.int .i64 t109] (fun _ => True) (fun _ => False) rfl (by first | (go_simp; done) | (go_simp; rfl)) ?aP (fun _ hk => hk.elim) ?aF ?aO ?aB ?aS ?aL ?_; (case aP => exact rfl); (case aB => exact (hb3_ HB.out GE102.out GE103.out GE108.out)); (case aF => exact (fun _ _ => trivial)); (case aO => exact (by (with_reducible repeat (first | apply Kd.R_alloc | apply Kd.R_drewN | apply Kd.R_drew)); exact Kd.R_mono (Kd.R_far (p := ⟨gb108, 7, none⟩) (Kd.R_far (p := ⟨gb108, 6, none⟩) (Kd.R_far (p := ⟨gb108, 5, none⟩) (Kd.R_far (p := ⟨gb108, 4, none⟩) (Kd.R_far (p := ⟨gb108, 3, none⟩) (Kd.R_far (p := ⟨gb108, 2, none⟩) (Kd.R_far (p := ⟨gb108, 1, none⟩) (Kd.R_far (p := ⟨gb108, 0, none⟩) (Kd.R_types HO_104003.out BK108.out (by decide)) (fun _ hk => hk.2) (.int .i64 ((rd_T31 l0 x24_2).f0))) (fun _ hk => hk.2) (.int .i64 ((rd_T31 l0 x24_2).f1))) (fun _ hk => hk.2) (.slice A107_2 ((rd_T31 l0 x24_2).f2).length c107_2)) (fun _ hk => hk.2) (.slice A107_3 ((rd_T31 l0 x24_2).f3).length c107_3)) (fun _ hk => hk.2) (.slice A107_4 ((rd_T31 l0 x24_2).f4).length c107_4)) (fun _ hk => hk.2) (.slice A107_5 ((rd_T31 l0 x24_2).f5).length c107_5)) (fun _ hk => hk.2) (.slice A107_6 ((rd_T31 l0 x24_2).f6).length c107_6)) (fun _ hk => hk.2) (.bool ((rd_T31 l0 x24_2).f7))) (fun _ hk => trivial))); (case aS => exact (below_size (hb3_ HB.out GE102.out GE103.out GE108.out))); (case aL => have := LMc35.out; omega); intro v111 w42 ho hb hg hat; rw [← Ny110.out] at ho; have n0_ := Aside0.mk (Kd.R_over' (by (with_reducible repeat (first | apply Kd.R_alloc | apply Kd.R_drewN | apply Kd.R_drew)); exact (Kd.R_mono (Kd.R_far (p := ⟨gb108, 7, none⟩) (Kd.R_far (p := ⟨gb108, 6, none⟩) (Kd.R_far (p := ⟨gb108, 5, none⟩) (Kd.R_far (p := ⟨gb108, 4, none⟩) (Kd.R_far (p := ⟨gb108, 3, none⟩) (Kd.R_far (p := ⟨gb108, 2, none⟩) (Kd.R_far (p := ⟨gb108, 1, none⟩) (Kd.R_far (p := ⟨gb108, 0, none⟩) (Kd.R_types HO_104002.out BK108.out (by decide)) (fun _ hk => hk.2) (.int .i64 ((rd_T31 l0 x24_2).f0))) (fun _ hk => hk.2) (.int .i64 ((rd_T31 l0 x24_2).f1))) (fun _ hk => hk.2) (.slice A107_2 ((rd_T31 l0 x24_2).f2).length c107_2)) (fun _ hk => hk.2) (.slice A107_3 ((rd_T31 l0 x24_2).f3).length c107_3)) (fun _ hk => hk.2) (.slice A107_4 ((rd_T31 l0 x24_2).f4).length c107_4)) (fun _ hk => hk.2) (.slice A107_5 ((rd_T31 l0 x24_2).f5).length c107_5)) (fun _ hk => hk.2) (.slice A107_6 ((rd_T31 l0 x24_2).f6).length c107_6)) (fun _ hk => hk.2) (.bool ((rd_T31 l0 x24_2).f7))) (fun _ h_ => h_.1))) (Kd.R_typed (by (with_reducible repeat (first | apply Kd.R_alloc | apply Kd.R_drewN | apply Kd.R_drew)); exact (Kd.R_mono (Kd.R_far (p := ⟨gb108, 7, none⟩) (Kd.R_far (p := ⟨gb108, 6, none⟩) (Kd.R_far (p := ⟨gb108, 5, none⟩) (Kd.R_far (p := ⟨gb108, 4, none⟩) (Kd.R_far (p := ⟨gb108, 3, none⟩) (Kd.R_far (p := ⟨gb108, 2, none⟩) (Kd.R_far (p := ⟨gb108, 1, none⟩) (Kd.R_far (p := ⟨gb108, 0, none⟩) (Kd.R_types HO_104003.out BK108.out (by decide)) (fun _ hk => hk.2) (.int .i64 ((rd_T31 l0 x24_2).f0))) (fun _ hk => hk.2) (.int .i64 ((rd_T31 l0 x24_2).f1))) (fun _ hk => hk.2) (.slice A107_2 ((rd_T31 l0 x24_2).f2).length c107_2)) (fun _ hk => hk.2) (.slice A107_3 ((rd_T31 l0 x24_2).f3).length c107_3)) (fun _ hk => hk.2) (.slice A107_4 ((rd_T31 l0 x24_2).f4).length c107_4)) (fun _ hk => hk.2) (.slice A107_5 ((rd_T31 l0 x24_2).f5).length c107_5)) (fun _ hk => hk.2) (.slice A107_6 ((rd_T31 l0 x24_2).f6).length c107_6)) (fun _ hk => hk.2) (.bool ((rd_T31 l0 x24_2).f7))) (fun _ h_ => h_.1)))) (by decide) hg); have n1_ := Aside0.mk (blk_grown (g := gb102) (o := .cells #[.int .i64 x103000_2, .int .i64 x103001_2, .slice none 0 0, .slice none 0 0, .slice none 0 0, .slice none 0 0, .slice none 0 0, .bool x103007_2] 31 (0, 0)) (bf1_ BK102.out NB102_108.out) hg (Kd.R_ne HO_104003.out BK102.out (by decide))); have n2_ := Aside0.mk (blk_grown (g := gb103) (o := .cells #[.int .i64 x104000_2, .int .i64 x104001_2, u104002, u104003, .slice none 0 0, .slice none 0 0, .slice none 0 0, .bool false] 31 (0, 0)) (bf1_ BK103.out NB103_108.out) hg (Kd.R_ne HO_104003.out BK103.out (by decide))); have n3_ := Aside0.mk (blk_grown (g := gb108) (o := .cells #[.int .i64 ((rd_T31 l0 x24_2).f0), .int .i64 ((rd_T31 l0 x24_2).f1), .slice A107_2 ((rd_T31 l0 x24_2).f2).length c107_2, .slice A107_3 ((rd_T31 l0 x24_2).f3).length c107_3, .slice A107_4 ((rd_T31 l0 x24_2).f4).length c107_4, .slice A107_5 ((rd_T31 l0 x24_2).f5).length c107_5, .slice A107_6 ((rd_T31 l0 x24_2).f6).length c107_6, .bool ((rd_T31 l0 x24_2).f7)] 31 (0, 0)) (by (with_reducible repeat (first | refine blk_drewN ?_ _ | refine blk_drew ?_ | refine blk_alloc ?_ _)); refine blk_put (cs := #[.int .i64 ((rd_T31 l0 x24_2).f0), .int .i64 ((rd_T31 l0 x24_2).f1), .slice A107_2 ((rd_T31 l0 x24_2).f2).length c107_2, .slice A107_3 ((rd_T31 l0 x24_2).f3).length c107_3, .slice A107_4 ((rd_T31 l0 x24_2).f4).length c107_4, .slice A107_5 ((rd_T31 l0 x24_2).f5).length c107_5, .slice A107_6 ((rd_T31 l0 x24_2).f6).length c107_6, .bool false]) ?_ 7 _ rfl; (with_reducible repeat (first | refine blk_drewN ?_ _ | refine blk_drew ?_ | refine blk_alloc ?_ _)); refine blk_put (cs := #[.int .i64 ((rd_T31 l0 x24_2).f0), .int .i64 ((rd_T31 l0 x24_2).f1), .slice A107_2 ((rd_T31 l0 x24_2).f2).length c107_2, .slice A107_3 ((rd_T31 l0 x24_2).f3).length c107_3, .slice A107_4 ((rd_T31 l0 x24_2).f4).length c107_4, .slice A107_5 ((rd_T31 l0 x24_2).f5).length c107_5, .slice none 0 0, .bool false]) ?_ 6 _ rfl; (with_reducible repeat (first | refine blk_drewN ?_ _ | refine blk_drew ?_ | refine blk_alloc ?_ _)); refine blk_put (cs := #[.int .i64 ((rd_T31 l0 x24_2).f0), .int .i64 ((rd_T31 l0 x24_2).f1), .slice A107_2 ((rd_T31 l0 x24_2).f2).length c107_2, .slice A107_3 ((rd_T31 l0 x24_2).f3).length c107_3, .slice A107_4 ((rd_T31 l0 x24_2).f4).length c107_4, .slice none 0 0, .slice none 0 0, .bool false]) ?_ 5 _ rfl; (with_reducible repeat (first | refine blk_drewN ?_ _ | refine blk_drew ?_ | refine blk_alloc ?_ _)); refine blk_put (cs := #[.int .i64 ((rd_T31 l0 x24_2).f0), .int .i64 ((rd_T31 l0 x24_2).f1), .slice A107_2 ((rd_T31 l0 x24_2).f2).length c107_2, .slice A107_3 ((rd_T31 l0 x24_2).f3).length c107_3, .slice none 0 0, .slice none 0 0, .slice none 0 0, .bool false]) ?_ 4 _ rfl; (with_reducible repeat (first | refine blk_drewN ?_ _ | refine blk_drew ?_ | refine blk_alloc ?_ _)); refine blk_put (cs := #[.int .i64 ((rd_T31 l0 x24_2).f0), .int .i64 ((rd_T31 l0 x24_2).f1), .slice A107_2 ((rd_T31 l0 x24_2).f2).length c107_2, .slice none 0 0, .slice none 0 0, .slice none 0 0, .slice none 0 0, .bool false]) ?_ 3 _ rfl; (with_reducible repeat (first | refine blk_drewN ?_ _ | refine blk_drew ?_ | refine blk_alloc ?_ _)); refine blk_put (cs := #[.int .i64 ((rd_T31 l0 x24_2).f0), .int .i64 ((rd_T31 l0 x24_2).f1), .slice none 0 0, .slice none 0 0, .slice none 0 0, .slice none 0 0, .slice none 0 0, .bool false]) ?_ 2 _ rfl; (with_reducible repeat (first | refine blk_drewN ?_ _ | refine blk_drew ?_ | refine blk_alloc ?_ _)); refine blk_put (cs := #[.int .i64 ((rd_T31 l0 x24_2).f0), .int .i64 0, .slice none 0 0, .slice none 0 0, .slice none 0 0, .slice none 0 0, .slice none 0 0, .bool false]) ?_ 1 _ rfl; (with_reducible repeat (first | refine blk_drewN ?_ _ | refine blk_drew ?_ | refine blk_alloc ?_ _)); refine blk_put (cs := #[.int .i64 0, .int .i64 0, .slice none 0 0, .slice none 0 0, .slice none 0 0, .slice none 0 0, .slice none 0 0, .bool false]) ?_ 0 _ rfl; (with_reducible repeat (first | refine blk_drewN ?_ _ | refine blk_drew ?_ | refine blk_alloc ?_ _)); exact BK108.out) hg (Kd.R_ne HO_104003.out BK108.out (by decide))); have n4_ := Aside0.mk (hb); have n5_ := Aside0.mk (ho); clear HO_104002 BK102 BK103 BK108 HB HO_104003; revert n0_ n1_ n2_ n3_ n4_ n5_; intro HO_104002 BK102 BK103 BK108 HB HO112; clear ho hb hg hat; obtain ⟨Ao43, co43, eo43⟩ := Kd.R_slice HO112.out; subst eo43; obtain ⟨hcz44_0, hcz44_1, hcz44_2, hcz44_3, hcz44_4, hcz44_5, hcz44_6, hcz44_7, hfz44_0, hfz44_1, hfz44_2, hfz44_3, hfz44_4, hfz44_5, hfz44_6, hfz44_7⟩ := bx8_ BK103.out))
        go_loopg [] k2 (fun kq w' => ∃ (x104002_3 : List Int) (u104002 : Value), Aside0 (ref16_Lay.l2 kq t109 l0 (l0.length : Int) x24_2 x104000_2 x104001_2 x104002_3 y110 false ((rd_T31 l0 x24_2).f0) ((rd_T31 l0 x24_2).f1) ((rd_T31 l0 x24_2).f2) ((rd_T31 l0 x24_2).f3) ((rd_T31 l0 x24_2).f4) ((rd_T31 l0 x24_2).f5) ((rd_T31 l0 x24_2).f6) ((rd_T31 l0 x24_2).f7) = some (r1, r2, r3, r4, r5, r6, r7, r8, r9)) ∧ Aside0 (kq ≤ k2) ∧ Aside0 (Kd.R (Kd.int .u8) 5 w' w.heap.size (fun _ => True) u104002 x104002_3) ∧ Aside0 (Kd.R (Kd.int .i64) 3 w' w.heap.size (fun _ => True) (.slice Ao43 y110.length co43) y110) ∧ Aside0 (w'.heap[gb102]? = some (.cells #[.int .i64 x103000_2, .int .i64 x103001_2, (.slice none 0 0), (.slice none 0 0), (.slice none 0 0), (.slice none 0 0), (.slice none 0 0), .bool x103007_2] 31 (0, 0))) ∧ Aside0 (w'.heap[gb103]? = some (.cells #[.int .i64 x104000_2, .int .i64 x104001_2, u104002, (.slice Ao43 y110.length co43), (.slice none 0 0), (.slice none 0 0), (.slice none 0 0), .bool false] 31 (0, 0))) ∧ Aside0 (w'.heap[gb108]? = some (.cells #[.int .i64 ((rd_T31 l0 x24_2).f0), .int .i64 ((rd_T31 l0 x24_2).f1), (.slice A107_2 ((rd_T31 l0 x24_2).f2).length c107_2), (.slice A107_3 ((rd_T31 l0 x24_2).f3).length c107_3), (.slice A107_4 ((rd_T31 l0 x24_2).f4).length c107_4), (.slice A107_5 ((rd_T31 l0 x24_2).f5).length c107_5), (.slice A107_6 ((rd_T31 l0 x24_2).f6).length c107_6), .bool ((rd_T31 l0 x24_2).f7)] 31 (0, 0))) ∧ Aside0 (Below w.heap.size w w'))
        case atStart => exact ⟨(x104002_2), (u104002), H', ⟨Nat.le_refl _⟩, ⟨by (with_reducible repeat (first | apply Kd.R_alloc | apply Kd.R_drewN | apply Kd.R_drew)); exact Kd.R_mono (Kd.R_far (p := ⟨gb103, 3, none⟩) (Kd.R_types HO_104002.out BK103.out (by decide)) (fun _ hk => hk.2) (.slice Ao43 y110.length co43)) (fun _ hk => trivial)⟩, ⟨by (with_reducible repeat (first | apply Kd.R_alloc | apply Kd.R_drewN | apply Kd.R_drew)); exact Kd.R_mono (Kd.R_far (p := ⟨gb103, 3, none⟩) (Kd.R_types HO112.out BK103.out (by decide)) (fun _ hk => hk.2) (.slice Ao43 y110.length co43)) (fun _ hk => trivial)⟩, ⟨by (with_reducible repeat (first | refine blk_drewN ?_ _ | refine blk_drew ?_ | refine blk_alloc ?_ _)); refine blk_far ?_ NB102_103.out _; (with_reducible repeat (first | refine blk_drewN ?_ _ | refine blk_drew ?_ | refine blk_alloc ?_ _)); exact BK102.out⟩, ⟨by (with_reducible repeat (first | refine blk_drewN ?_ _ | refine blk_drew ?_ | refine blk_alloc ?_ _)); refine blk_put (cs := #[.int .i64 x104000_2, .int .i64 x104001_2, u104002, u104003, .slice none 0 0, .slice none 0 0, .slice none 0 0, .bool false]) ?_ 3 _ rfl; (with_reducible repeat (first | refine blk_drewN ?_ _ | refine blk_drew ?_ | refine blk_alloc ?_ _)); exact BK103.out⟩, ⟨by (with_reducible repeat (first | refine blk_drewN ?_ _ | refine blk_drew ?_ | refine blk_alloc ?_ _)); refine blk_far ?_ NB108_103.out _; (with_reducible repeat (first | refine blk_drewN ?_ _ | refine blk_drew ?_ | refine blk_alloc ?_ _)); exact BK108.out⟩, ⟨(hb3_ HB.out GE102.out GE103.out GE108.out)⟩⟩
        case round =>
         clear H'
         try clear c1
         try clear p1
         try clear q1
         try clear hx1
         try clear c2
         try clear p2
         try clear c3
         try clear c4
         try clear c6
         try clear c6b0
         try clear p6
         try clear c7
         try clear c7b0
         try clear c8
         try clear c8b0
         try clear c10
         try clear p10
         try clear q10
         try clear hx10
         try clear c12
         try clear c13
         try clear c17
         try clear c18
         try clear c21
         try clear c23
         try clear c23b0
         try clear c24
         try clear c24b0
         try clear c25
         try clear c25b0
         try clear c27
         try clear c27b0
         try clear c29
         try clear c30
         try clear c31
         try clear c32
         try clear c35
         try clear c37
         try clear c38
         try clear c40
         try clear hcz14_0
         try clear hcz14_1
         try clear hcz14_2
         try clear hcz14_3
         try clear hcz14_4
         try clear hcz14_5
         try clear hcz14_6
         try clear hcz14_7
         try clear hcz19_0
         try clear hcz19_1
         try clear hcz19_2
         try clear hcz19_3
         try clear hcz19_4
         try clear hcz19_5
         try clear hcz19_6
         try clear hcz19_7
         try clear hcz22_0
         try clear hcz22_1
         try clear hcz22_2
         try clear hcz22_3
         try clear hcz22_4
         try clear hcz22_5
         try clear hcz22_6
         try clear hcz22_7
         try clear hcz31_0
         try clear hcz31_1
         try clear hcz31_2
         try clear hcz31_3
         try clear hcz31_4
         try clear hcz31_5
         try clear hcz31_6
         try clear hcz31_7
         try clear hcz33_0
         try clear hcz33_1
         try clear hcz33_2
         try clear hcz33_3
         try clear hcz33_4
         try clear hcz33_5
         try clear hcz33_6
         try clear hcz33_7
         try clear hcz34_0
         try clear hcz34_1
         try clear hcz34_2
         try clear hcz34_3
         try clear hcz34_4
         try clear hcz34_5
         try clear hcz34_6
         try clear hcz34_7
         try clear hcz39_0
         try clear hcz39_1
         try clear hcz39_2
         try clear hcz39_3
         try clear hcz39_4
         try clear hcz39_5
         try clear hcz39_6
         try clear hcz39_7
         try clear hcz41_0
         try clear hcz41_1
         try clear hcz41_2
         try clear hcz41_3
         try clear hcz41_4
         try clear hcz41_5
         try clear hcz41_6
         try clear hcz41_7
         try clear hcz44_0
         try clear hcz44_1
         try clear hcz44_2
         try clear hcz44_3
         try clear hcz44_4
         try clear hcz44_5
         try clear hcz44_6
         try clear hcz44_7
         try clear hcz5_0
         try clear hcz5_1
         try clear hcz5_2
         try clear hcz5_3
         try clear hcz5_4
         try clear hcz5_5
         try clear hcz5_6
         try clear hcz5_7
         try clear hfz14_0
         try clear hfz14_1
         try clear hfz14_2
         try clear hfz14_3
         try clear hfz14_4
         try clear hfz14_5
         try clear hfz14_6
         try clear hfz14_7
         try clear hfz19_0
         try clear hfz19_1
         try clear hfz19_2
         try clear hfz19_3
         try clear hfz19_4
         try clear hfz19_5
         try clear hfz19_6
         try clear hfz19_7
         try clear hfz22_0
         try clear hfz22_1
         try clear hfz22_2
         try clear hfz22_3
         try clear hfz22_4
         try clear hfz22_5
         try clear hfz22_6
         try clear hfz22_7
         try clear hfz31_0
         try clear hfz31_1
         try clear hfz31_2
         try clear hfz31_3
         try clear hfz31_4
         try clear hfz31_5
         try clear hfz31_6
         try clear hfz31_7
         try clear hfz33_0
         try clear hfz33_1
         try clear hfz33_2
         try clear hfz33_3
         try clear hfz33_4
         try clear hfz33_5
         try clear hfz33_6
         try clear hfz33_7
         try clear hfz34_0
         try clear hfz34_1
         try clear hfz34_2
         try clear hfz34_3
         try clear hfz34_4
         try clear hfz34_5
         try clear hfz34_6
         try clear hfz34_7
         try clear hfz39_0
         try clear hfz39_1
         try clear hfz39_2
         try clear hfz39_3
         try clear hfz39_4
         try clear hfz39_5
         try clear hfz39_6
         try clear hfz39_7
         try clear hfz41_0
         try clear hfz41_1
         try clear hfz41_2
         try clear hfz41_3
         try clear hfz41_4
         try clear hfz41_5
         try clear hfz41_6
         try clear hfz41_7
         try clear hfz44_0
         try clear hfz44_1
         try clear hfz44_2
         try clear hfz44_3
         try clear hfz44_4
         try clear hfz44_5
         try clear hfz44_6
         try clear hfz44_7
         try clear hfz5_0
         try clear hfz5_1
         try clear hfz5_2
         try clear hfz5_3
         try clear hfz5_4
         try clear hfz5_5
         try clear hfz5_6
         try clear hfz5_7
         try clear hx104_0
         try clear hx104_1
         try clear hx104_2
         try clear hx104_3
         try clear hx104_4
         try clear hx104_5
         try clear hx104_6
         try clear hx104_7
         try clear hx107_0
         try clear hx107_1
         try clear hx107_2
         try clear hx107_3
         try clear hx107_4
         try clear hx107_5
         try clear hx107_6
         try clear hx107_7
         try clear p1
         try clear p10
         try clear p104
         try clear p107
         try clear p2
         try clear p6
         try clear q1
         try clear q10
         try clear q104
         try clear q107
         obtain ⟨x104002_3, u104002, HA, HK3, HO_104002, HO_104003, BK102, BK103, BK108, HB⟩ := hrel
         cases gk with
         | zero => exact absurd HA.out (by simp [ref16_Lay.l2])
         | succ k3 =>
          have H := HA.out
          clear HA
          simp only [ref16_Lay.l2] at H
          by_cases c45 : (x104002_3.length : Int) < t109
          ·
           rw [if_pos c45] at H
           have c45b0 : decide ((x104002_3.length : Int) < t109) = true := decide_eq_true c45
           clear c45
           by_cases c46 : x104002_3.length < 140737488355328
           rotate_left
           ·
            rw [if_neg c46] at H
            exact absurd H (by simp)
           rw [if_pos c46] at H
           have LMc46 := Aside0.mk c46
           clear c46
           obtain ⟨y113, hy113⟩ : ∃ y_ : List Int, y_ = (x104002_3 ++ [0]) := ⟨_, rfl⟩
           replace H : (ref16_Lay.l2 k3 t109 l0 (l0.length : Int) x24_2 x104000_2 x104001_2 y113 y110 false ((rd_T31 l0 x24_2).f0) ((rd_T31 l0 x24_2).f1) ((rd_T31 l0 x24_2).f2) ((rd_T31 l0 x24_2).f3) ((rd_T31 l0 x24_2).f4) ((rd_T31 l0 x24_2).f5) ((rd_T31 l0 x24_2).f6) ((rd_T31 l0 x24_2).f7)) = some (r1, r2, r3, r4, r5, r6, r7, r8, r9) := by first | (rw [hy113]; with_reducible exact H) | (have H2_ := (Option.bind_some _ _).symm.trans H; rw [hy113]; with_reducible exact H2_) | (have H2_ := (Option.bind_some _ _).symm.trans H; with_reducible exact H2_) | with_reducible exact H | (rw [hy113]; exact H) | exact H
           have Ny113 := Aside0.mk hy113
           clear hy113
           have H' := Aside0.mk H
           clear H
           have hnb47 := NB103_102.out
           have hnc47 := NB102_103.out
           have hnb48 := NB103_108.out
           have hnc48 := NB108_103.out
           obtain ⟨hcz49_0, hcz49_1, hcz49_2, hcz49_3, hcz49_4, hcz49_5, hcz49_6, hcz49_7, hfz49_0, hfz49_1, hfz49_2, hfz49_3, hfz49_4, hfz49_5, hfz49_6, hfz49_7⟩ := bx8_ BK103.out
           obtain ⟨Ao50, co50, eo50⟩ := Kd.R_slice HO_104002.out
           subst eo50
           go_wp2_with (first | ((with_reducible refine gate_builtin (b := .append) (xs := #[.tmp 51, .tmp 52]) rfl ?_); at_builtin; refine Kd.R_append (Kd.int .u8) (w0 := w) w.heap.size rfl (.tmp 51) (.tmp 52) 27 5 (.int .u8 0) 1 rfl Try.underlying27 info5 rfl (by decide) (by omega) (.slice Ao50 x104002_3.length co50) x104002_3 0 [.int .u8 0] (fun _ => True) (fun _ => False) rfl rfl ?aP (fun _ hk => hk.elim) ?aF ?aO ?aB ?aS ?aL ?_; (case aP => exact rfl); (case aB => exact (hb3_ HB.out GE102.out GE103.out GE108.out)); (case aF => exact (fun _ _ => trivial)); (case aO => exact (kR_ HO_104002.out)); (case aS => exact (below_size (hb3_ HB.out GE102.out GE103.out GE108.out))); (case aL => have := LMc46.out; omega); intro v114 w51 ho hb hg hat; rw [← Ny113.out] at ho; have n0_ := Aside0.mk (Kd.R_over' (kR_ HO_104003.out) (Kd.R_typed (kR_ HO_104002.out)) (by decide) hg); have n1_ := Aside0.mk (blk_grown (g := gb102) (o := .cells #[.int .i64 x103000_2, .int .i64 x103001_2, .slice none 0 0, .slice none 0 0, .slice none 0 0, .slice none 0 0, .slice none 0 0, .bool x103007_2] 31 (0, 0)) (bk_ BK102.out) hg (Kd.R_ne HO_104002.out BK102.out (by decide))); have n2_ := Aside0.mk (blk_grown (g := gb103) (o := .cells #[.int .i64 x104000_2, .int .i64 x104001_2, .slice Ao50 x104002_3.length co50, .slice Ao43 y110.length co43, .slice none 0 0, .slice none 0 0, .slice none 0 0, .bool false] 31 (0, 0)) (bk_ BK103.out) hg (Kd.R_ne HO_104002.out BK103.out (by decide))); have n3_ := Aside0.mk (blk_grown (g := gb108) (o := .cells #[.int .i64 ((rd_T31 l0 x24_2).f0), .int .i64 ((rd_T31 l0 x24_2).f1), .slice A107_2 ((rd_T31 l0 x24_2).f2).length c107_2, .slice A107_3 ((rd_T31 l0 x24_2).f3).length c107_3, .slice A107_4 ((rd_T31 l0 x24_2).f4).length c107_4, .slice A107_5 ((rd_T31 l0 x24_2).f5).length c107_5, .slice A107_6 ((rd_T31 l0 x24_2).f6).length c107_6, .bool ((rd_T31 l0 x24_2).f7)] 31 (0, 0)) (bk_ BK108.out) hg (Kd.R_ne HO_104002.out BK108.out (by decide))); have n4_ := Aside0.mk (hb); have n5_ := Aside0.mk (ho); clear HO_104003 BK102 BK103 BK108 HB HO_104002; revert n0_ n1_ n2_ n3_ n4_ n5_; intro HO_104003 BK102 BK103 BK108 HB HO115; clear ho hb hg hat; obtain ⟨Ao52, co52, eo52⟩ := Kd.R_slice HO115.out; subst eo52; obtain ⟨hcz53_0, hcz53_1, hcz53_2, hcz53_3, hcz53_4, hcz53_5, hcz53_6, hcz53_7, hfz53_0, hfz53_1, hfz53_2, hfz53_3, hfz53_4, hfz53_5, hfz53_6, hfz53_7⟩ := bx8_ BK103.out))
           go_roundg k3
           case measure => have := HK1.out; have := HK2.out; have := HK3.out; omega
           case rel => exact ⟨(y113), (.slice Ao52 y113.length co52), H', ⟨by have := HK1.out; have := HK2.out; have := HK3.out; omega⟩, ⟨by (with_reducible repeat (first | apply Kd.R_alloc | apply Kd.R_drewN | apply Kd.R_drew)); exact Kd.R_mono (Kd.R_far (p := ⟨gb103, 2, none⟩) (Kd.R_types HO115.out BK103.out (by decide)) (fun _ hk => hk.2) (.slice Ao52 y113.length co52)) (fun _ hk => trivial)⟩, ⟨by (with_reducible repeat (first | apply Kd.R_alloc | apply Kd.R_drewN | apply Kd.R_drew)); exact Kd.R_mono (Kd.R_far (p := ⟨gb103, 2, none⟩) (Kd.R_types HO_104003.out BK103.out (by decide)) (fun _ hk => hk.2) (.slice Ao52 y113.length co52)) (fun _ hk => trivial)⟩, ⟨by (with_reducible repeat (first | refine blk_drewN ?_ _ | refine blk_drew ?_ | refine blk_alloc ?_ _)); refine blk_far ?_ NB102_103.out _; (with_reducible repeat (first | refine blk_drewN ?_ _ | refine blk_drew ?_ | refine blk_alloc ?_ _)); exact BK102.out⟩, ⟨by (with_reducible repeat (first | refine blk_drewN ?_ _ | refine blk_drew ?_ | refine blk_alloc ?_ _)); refine blk_put (cs := #[.int .i64 x104000_2, .int .i64 x104001_2, .slice Ao50 x104002_3.length co50, .slice Ao43 y110.length co43, .slice none 0 0, .slice none 0 0, .slice none 0 0, .bool false]) ?_ 2 _ rfl; (with_reducible repeat (first | refine blk_drewN ?_ _ | refine blk_drew ?_ | refine blk_alloc ?_ _)); exact BK103.out⟩, ⟨by (with_reducible repeat (first | refine blk_drewN ?_ _ | refine blk_drew ?_ | refine blk_alloc ?_ _)); refine blk_far ?_ NB108_103.out _; (with_reducible repeat (first | refine blk_drewN ?_ _ | refine blk_drew ?_ | refine blk_alloc ?_ _)); exact BK108.out⟩, ⟨(hb3_ HB.out GE102.out GE103.out GE108.out)⟩⟩
          ·
           rw [if_neg c45] at H
           have c45b0 : decide ((x104002_3.length : Int) < t109) = false := decide_eq_false c45
           clear c45
           by_cases c54 : x104002_3.length + ((rd_T31 l0 x24_2).f2).length < 140737488355328
           rotate_left
           ·
            rw [if_neg c54] at H
            exact absurd H (by simp)
           rw [if_pos c54] at H
           have LMc54 := Aside0.mk c54
           clear c54
           obtain ⟨y116, hy116⟩ : ∃ y_ : List Int, y_ = (x104002_3 ++ ((rd_T31 l0 x24_2).f2)) := ⟨_, rfl⟩
           replace H : (ref16_Lay.l1 k3 l0 (l0.length : Int) (wrap64 (x24_2 + 1)) (wrap64 (t109 + ((rd_T31 l0 x24_2).f0))) (mx x104001_2 ((rd_T31 l0 x24_2).f1)) y116 y110 false) = some (r1, r2, r3, r4, r5, r6, r7, r8, r9) := by first | (rw [hy116]; with_reducible exact H) | (have H2_ := (Option.bind_some _ _).symm.trans H; rw [hy116]; with_reducible exact H2_) | (have H2_ := (Option.bind_some _ _).symm.trans H; with_reducible exact H2_) | with_reducible exact H | (rw [hy116]; exact H) | exact H
           have Ny116 := Aside0.mk hy116
           clear hy116
           obtain ⟨ji55, hji55⟩ : ∃ j_ : Int, (mx x104001_2 ((rd_T31 l0 x24_2).f1)) = j_ := ⟨_, rfl⟩
           replace H : (ref16_Lay.l1 k3 l0 (l0.length : Int) (wrap64 (x24_2 + 1)) (wrap64 (t109 + ((rd_T31 l0 x24_2).f0))) ji55 y116 y110 false) = some (r1, r2, r3, r4, r5, r6, r7, r8, r9) := by first | (rw [hji55] at H; exact H) | (simp only [hji55] at H ⊢; exact H)
           have hji55_ : (if x104001_2 < ((rd_T31 l0 x24_2).f1) then ((rd_T31 l0 x24_2).f1) else x104001_2) = ji55 := hji55
           have H' := Aside0.mk H
           clear H
           have hnb56 := NB103_102.out
           have hnc56 := NB102_103.out
           have hnb57 := NB103_108.out
           have hnc57 := NB108_103.out
           obtain ⟨hcz58_0, hcz58_1, hcz58_2, hcz58_3, hcz58_4, hcz58_5, hcz58_6, hcz58_7, hfz58_0, hfz58_1, hfz58_2, hfz58_3, hfz58_4, hfz58_5, hfz58_6, hfz58_7⟩ := bx8_ BK103.out
           obtain ⟨Ao59, co59, eo59⟩ := Kd.R_slice HO_104002.out
           subst eo59
           have hnb60 := NB108_102.out
           have hnc60 := NB102_108.out
           obtain ⟨hcz61_0, hcz61_1, hcz61_2, hcz61_3, hcz61_4, hcz61_5, hcz61_6, hcz61_7, hfz61_0, hfz61_1, hfz61_2, hfz61_3, hfz61_4, hfz61_5, hfz61_6, hfz61_7⟩ := bx8_ BK108.out
           try go_wp2_with (first | ((with_reducible refine gate_builtin (b := .append) (xs := #[.tmp 56, .tmp 58]) rfl ?_); at_builtin; refine Kd.R_append_rows (Kd.int .u8) (w0 := w) w.heap.size rfl (.tmp 56) (.tmp 58) 27 5 (.int .u8 0) 1 rfl Try.underlying27 info5 rfl (by decide) (by omega) (.slice Ao59 x104002_3.length co59) x104002_3 ((rd_T31 l0 x24_2).f2) _ _ _ (fun _ => True) (fun _ => False) rfl rfl ?aO ?aR (fun _ _ h => h) (fun _ h => h.elim) ?aF ?aB ?aS ?aL ?_; (case aR => repeat (first | exact (Kd.C_below HR107_2.out HB.out) | (with_reducible refine Kd.C_alloc ?_ _) | (with_reducible refine Kd.C_drewN ?_ _) | (with_reducible refine Kd.C_drew ?_))); (case aB => exact (hb3_ HB.out GE102.out GE103.out GE108.out)); (case aF => exact (fun _ _ => trivial)); (case aO => exact (kR_ HO_104002.out)); (case aS => exact (below_size (hb3_ HB.out GE102.out GE103.out GE108.out))); (case aL => have := LMc54.out; omega); intro v117 w62 ho hb hg hat; rw [← Ny116.out] at ho; have n0_ := Aside0.mk (Kd.R_over' (kR_ HO_104003.out) (Kd.R_typed (kR_ HO_104002.out)) (by decide) hg); have n1_ := Aside0.mk (blk_grown (g := gb102) (o := .cells #[.int .i64 x103000_2, .int .i64 x103001_2, .slice none 0 0, .slice none 0 0, .slice none 0 0, .slice none 0 0, .slice none 0 0, .bool x103007_2] 31 (0, 0)) (bk_ BK102.out) hg (Kd.R_ne HO_104002.out BK102.out (by decide))); have n2_ := Aside0.mk (blk_grown (g := gb103) (o := .cells #[.int .i64 x104000_2, .int .i64 x104001_2, .slice Ao59 x104002_3.length co59, .slice Ao43 y110.length co43, .slice none 0 0, .slice none 0 0, .slice none 0 0, .bool false] 31 (0, 0)) (bk_ BK103.out) hg (Kd.R_ne HO_104002.out BK103.out (by decide))); have n3_ := Aside0.mk (blk_grown (g := gb108) (o := .cells #[.int .i64 ((rd_T31 l0 x24_2).f0), .int .i64 ((rd_T31 l0 x24_2).f1), .slice A107_2 ((rd_T31 l0 x24_2).f2).length c107_2, .slice A107_3 ((rd_T31 l0 x24_2).f3).length c107_3, .slice A107_4 ((rd_T31 l0 x24_2).f4).length c107_4, .slice A107_5 ((rd_T31 l0 x24_2).f5).length c107_5, .slice A107_6 ((rd_T31 l0 x24_2).f6).length c107_6, .bool ((rd_T31 l0 x24_2).f7)] 31 (0, 0)) (bk_ BK108.out) hg (Kd.R_ne HO_104002.out BK108.out (by decide))); have n4_ := Aside0.mk (hb); have n5_ := Aside0.mk (ho); clear HO_104003 BK102 BK103 BK108 HB HO_104002; revert n0_ n1_ n2_ n3_ n4_ n5_; intro HO_104003 BK102 BK103 BK108 HB HO118; clear ho hb hg hat; obtain ⟨Ao63, co63, eo63⟩ := Kd.R_slice HO118.out; subst eo63; obtain ⟨hcz64_0, hcz64_1, hcz64_2, hcz64_3, hcz64_4, hcz64_5, hcz64_6, hcz64_7, hfz64_0, hfz64_1, hfz64_2, hfz64_3, hfz64_4, hfz64_5, hfz64_6, hfz64_7⟩ := bx8_ BK103.out))
           have n0_ : Aside0 (Kd.R (Kd.int .i64) 3 (w62.setCell ⟨gb103, 2, none⟩ (.slice Ao63 y116.length co63)) w.heap.size (fun _ => True) (.slice Ao43 y110.length co43) y110) := ⟨by (with_reducible repeat (first | apply Kd.R_alloc | apply Kd.R_drewN | apply Kd.R_drew)); exact Kd.R_mono (Kd.R_far (p := ⟨gb103, 2, none⟩) (Kd.R_types HO_104003.out BK103.out (by decide)) (fun _ hk => hk.2) (.slice Ao63 y116.length co63)) (fun _ hk => trivial)⟩
           have n1_ : Aside0 (Kd.R (Kd.int .u8) 5 (w62.setCell ⟨gb103, 2, none⟩ (.slice Ao63 y116.length co63)) w.heap.size (fun _ => True) (.slice Ao63 y116.length co63) y116) := ⟨by (with_reducible repeat (first | apply Kd.R_alloc | apply Kd.R_drewN | apply Kd.R_drew)); exact Kd.R_mono (Kd.R_far (p := ⟨gb103, 2, none⟩) (Kd.R_types HO118.out BK103.out (by decide)) (fun _ hk => hk.2) (.slice Ao63 y116.length co63)) (fun _ hk => trivial)⟩
           have n2_ : Aside0 ((w62.setCell ⟨gb103, 2, none⟩ (.slice Ao63 y116.length co63)).heap[gb102]? = some (.cells #[.int .i64 x103000_2, .int .i64 x103001_2, .slice none 0 0, .slice none 0 0, .slice none 0 0, .slice none 0 0, .slice none 0 0, .bool x103007_2] 31 (0, 0))) := ⟨by (with_reducible repeat (first | refine blk_drewN ?_ _ | refine blk_drew ?_ | refine blk_alloc ?_ _)); refine blk_far ?_ NB102_103.out _; (with_reducible repeat (first | refine blk_drewN ?_ _ | refine blk_drew ?_ | refine blk_alloc ?_ _)); exact BK102.out⟩
           have n3_ : Aside0 ((w62.setCell ⟨gb103, 2, none⟩ (.slice Ao63 y116.length co63)).heap[gb103]? = some (.cells #[.int .i64 x104000_2, .int .i64 x104001_2, .slice Ao63 y116.length co63, .slice Ao43 y110.length co43, .slice none 0 0, .slice none 0 0, .slice none 0 0, .bool false] 31 (0, 0))) := ⟨by (with_reducible repeat (first | refine blk_drewN ?_ _ | refine blk_drew ?_ | refine blk_alloc ?_ _)); refine blk_put (cs := #[.int .i64 x104000_2, .int .i64 x104001_2, .slice Ao59 x104002_3.length co59, .slice Ao43 y110.length co43, .slice none 0 0, .slice none 0 0, .slice none 0 0, .bool false]) ?_ 2 _ rfl; (with_reducible repeat (first | refine blk_drewN ?_ _ | refine blk_drew ?_ | refine blk_alloc ?_ _)); exact BK103.out⟩
           have n4_ : Aside0 ((w62.setCell ⟨gb103, 2, none⟩ (.slice Ao63 y116.length co63)).heap[gb108]? = some (.cells #[.int .i64 ((rd_T31 l0 x24_2).f0), .int .i64 ((rd_T31 l0 x24_2).f1), .slice A107_2 ((rd_T31 l0 x24_2).f2).length c107_2, .slice A107_3 ((rd_T31 l0 x24_2).f3).length c107_3, .slice A107_4 ((rd_T31 l0 x24_2).f4).length c107_4, .slice A107_5 ((rd_T31 l0 x24_2).f5).length c107_5, .slice A107_6 ((rd_T31 l0 x24_2).f6).length c107_6, .bool ((rd_T31 l0 x24_2).f7)] 31 (0, 0))) := ⟨by (with_reducible repeat (first | refine blk_drewN ?_ _ | refine blk_drew ?_ | refine blk_alloc ?_ _)); refine blk_far ?_ NB108_103.out _; (with_reducible repeat (first | refine blk_drewN ?_ _ | refine blk_drew ?_ | refine blk_alloc ?_ _)); exact BK108.out⟩
           have n5_ : Aside0 (Below w.heap.size w (w62.setCell ⟨gb103, 2, none⟩ (.slice Ao63 y116.length co63))) := ⟨(hb3_ HB.out GE102.out GE103.out GE108.out)⟩
           (try clear HO_104003)
           (try clear HO118)
           (try clear BK102)
           (try clear BK103)
           (try clear BK108)
           (try clear HB)
           generalize (w62.setCell ⟨gb103, 2, none⟩ (.slice Ao63 y116.length co63)) = w65 at n0_ n1_ n2_ n3_ n4_ n5_ ⊢
           revert n0_ n1_ n2_ n3_ n4_ n5_
           intro HO_104003 HO118 BK102 BK103 BK108 HB
           have n0_ := Aside0.mk (Kd.R_drew HO_104003.out)
           have n1_ := Aside0.mk (Kd.R_drew HO118.out)
           have n2_ := Aside0.mk (blk_drew BK102.out)
           have n3_ := Aside0.mk (blk_drew BK103.out)
           have n4_ := Aside0.mk (blk_drew BK108.out)
           have n5_ := Aside0.mk (below_drew1 HB.out)
           clear HO_104003
           clear HO118
           clear BK102
           clear BK103
           clear BK108
           clear HB
           revert n0_ n1_ n2_ n3_ n4_ n5_
           intro HO_104003 HO118 BK102 BK103 BK108 HB
           refine start_ (n := 13) (S := fun w' => w'.cell? ⟨gb108, 0, none⟩ = some (.int .i64 ((rd_T31 l0 x24_2).f0)) ∧ w'.cell? ⟨gb108, 1, none⟩ = some (.int .i64 ((rd_T31 l0 x24_2).f1)) ∧ w'.cell? ⟨gb103, 1, none⟩ = some (.int .i64 x104001_2)) (ds := [12]) #[false,false,false,false,false,false,false,false,false,false,false,false,false] (by kernel_rfl) rfl rfl ⟨(blk_cell BK108.out 0).trans rfl, (blk_cell BK108.out 1).trans rfl, (blk_cell BK103.out 1).trans rfl⟩ (fun hHeld => ?_); refine with_tabW ref16_Lay.tab18 ref16_Lay.bits18 (fun HT_ HW_ => ?_)
           generalize w65.drew = w66 at HO_104003 HO118 BK102 BK103 BK108 HB hHeld ⊢
           refine pure_ (i := 0) (N := some 61) (v := ?_) (a' := ?_) #[true,false,false,false,false,false,false,false,false,false,false,false,false] rfl rfl (any_of HT_.out (by kernel_rfl)) (fun _ _ _ h => h) (Or.inl ⟨by rfl, ?_⟩) ?_ ?_
           rotate_left
           ·
            intro w'
            go_simp
            with_reducible rfl
           rotate_left
           ·
            simp only [Act.put, setIfInBounds_toArray, set_cons_zero, set_cons_succ, i64_w, i32_w]
            rfl
           refine pure_ (i := 1) (N := some 62) (v := ?_) (a' := ?_) #[true,true,false,false,false,false,false,false,false,false,false,false,false] rfl rfl (any_of HT_.out (by kernel_rfl)) (fun _ _ _ h => h) (Or.inl ⟨by rfl, ?_⟩) ?_ ?_
           rotate_left
           ·
            intro w'
            go_simp
            with_reducible rfl
           rotate_left
           ·
            simp only [Act.put, setIfInBounds_toArray, set_cons_zero, set_cons_succ, i64_w, i32_w]
            rfl
           refine pure_ (i := 4) (N := some 65) (v := ?_) (a' := ?_) #[true,true,false,false,true,false,false,false,false,false,false,false,false] rfl rfl (any_of HT_.out (by kernel_rfl)) (fun _ _ _ h => h) (Or.inl ⟨by rfl, ?_⟩) ?_ ?_
           rotate_left
           ·
            intro w'
            go_simp
            with_reducible rfl
           rotate_left
           ·
            simp only [Act.put, setIfInBounds_toArray, set_cons_zero, set_cons_succ, i64_w, i32_w]
            rfl
           refine pure_ (i := 6) (N := some 67) (v := ?_) (a' := ?_) #[true,true,false,false,true,false,true,false,false,false,false,false,false] rfl rfl (any_of HT_.out (by kernel_rfl)) (fun _ _ _ h => h) (Or.inl ⟨by rfl, ?_⟩) ?_ ?_
           rotate_left
           ·
            intro w'
            go_simp
            with_reducible rfl
           rotate_left
           ·
            simp only [Act.put, setIfInBounds_toArray, set_cons_zero, set_cons_succ, i64_w, i32_w]
            rfl
           refine take_ (i := 2) (N := some 63) (v := ?_) (a' := ?_) #[true,true,true,false,true,false,true,false,false,false,false,false,false] rfl rfl (take_ofW HT_.out HW_.out (by kernel_rfl)) (fun _ _ _ h => h) (Or.inl ⟨by rfl, ?_⟩) hHeld ?_ ?_
           rotate_left
           ·
            rintro w' ⟨s0, s1, s2⟩
            go_simp
            with_reducible rfl
           rotate_left
           ·
            simp only [Act.put, setIfInBounds_toArray, set_cons_zero, set_cons_succ, i64_w, i32_w]
            rfl
           refine pure_ (i := 3) (N := some 64) (v := ?_) (a' := ?_) #[true,true,true,true,true,false,true,false,false,false,false,false,false] rfl rfl (any_of HT_.out (by kernel_rfl)) (fun _ _ _ h => h) (Or.inl ⟨by rfl, ?_⟩) ?_ ?_
           rotate_left
           ·
            intro w'
            go_simp
            with_reducible rfl
           rotate_left
           ·
            simp only [Act.put, setIfInBounds_toArray, set_cons_zero, set_cons_succ, i64_w, i32_w]
            rfl
           refine take_ (i := 5) (N := some 66) (v := ?_) (a' := ?_) #[true,true,true,true,true,true,true,false,false,false,false,false,false] rfl rfl (take_ofW HT_.out HW_.out (by kernel_rfl)) (fun _ _ _ h => h) (Or.inl ⟨by rfl, ?_⟩) hHeld ?_ ?_
           rotate_left
           ·
            rintro w' ⟨s0, s1, s2⟩
            go_simp
            with_reducible rfl
           rotate_left
           ·
            simp only [Act.put, setIfInBounds_toArray, set_cons_zero, set_cons_succ, i64_w, i32_w]
            rfl
           refine pure_ (i := 9) (N := some 70) (v := ?_) (a' := ?_) #[true,true,true,true,true,true,true,false,false,true,false,false,false] rfl rfl (any_of HT_.out (by kernel_rfl)) (fun _ _ _ h => h) (Or.inl ⟨by rfl, ?_⟩) ?_ ?_
           rotate_left
           ·
            intro w'
            go_simp
            with_reducible rfl
           rotate_left
           ·
            simp only [Act.put, setIfInBounds_toArray, set_cons_zero, set_cons_succ, i64_w, i32_w]
            rfl
           refine take_ (i := 7) (N := some 68) (v := ?_) (a' := ?_) #[true,true,true,true,true,true,true,true,false,true,false,false,false] rfl rfl (take_ofW HT_.out HW_.out (by kernel_rfl)) (fun _ _ _ h => h) (Or.inl ⟨by rfl, ?_⟩) hHeld ?_ ?_
           rotate_left
           ·
            rintro w' ⟨s0, s1, s2⟩
            go_simp
            with_reducible rfl
           rotate_left
           ·
            simp only [Act.put, setIfInBounds_toArray, set_cons_zero, set_cons_succ, i64_w, i32_w]
            rfl
           refine pure_ (i := 8) (N := some 69) (v := ?_) (a' := ?_) #[true,true,true,true,true,true,true,true,true,true,false,false,false] rfl rfl (any_of HT_.out (by kernel_rfl)) (fun _ _ _ h => h) (Or.inl ⟨by rfl, ?_⟩) ?_ ?_
           rotate_left
           ·
            intro w'
            go_simp
            with_reducible rfl
           rotate_left
           ·
            simp only [Act.put, setIfInBounds_toArray, set_cons_zero, set_cons_succ, i64_w, i32_w]
            rfl
           refine one_ (i := 10) (N := none) #[true,true,true,true,true,true,true,true,true,true,true,false,false] rfl rfl (one_of HT_.out (by kernel_rfl)) (by decide) (fun K hK => ?_)
           have hs67 : w66.cell? ⟨gb103, 0, none⟩ = some (.int .i64 x104000_2) := (blk_cell BK103.out 0).trans rfl
           have hfs67 := blk_frozen BK103.out 0
           have hns67_0 := NB102_103.out
           have hns67_2 := NB108_103.out
           have hms67_0 := NB103_102.out
           have hms67_2 := NB103_108.out
           refine skip_ (w1 := ?_) (by rfl) rfl ?_ ?_
           rotate_left
           ·
            go_simp
            rfl
           refine hK.out _ _ ⟨((cell_far (p := ⟨gb103, _, none⟩) NB108_103.out _).trans (hHeld.1)), ((cell_far (p := ⟨gb103, _, none⟩) NB108_103.out _).trans (hHeld.2.1)), ((World.cell?_setCell_other _ ⟨gb103, 0, none⟩ ⟨gb103, 1, none⟩ _ (by simp)).trans (hHeld.2.2))⟩ (fun hHeld => ?_)
           clear hK K
           refine pure_ (i := 11) (N := some 71) (v := ?_) (a' := ?_) #[true,true,true,true,true,true,true,true,true,true,true,true,false] rfl rfl (any_of HT_.out (by kernel_rfl)) (fun _ _ _ h => h) (Or.inl ⟨by rfl, ?_⟩) ?_ ?_
           rotate_left
           ·
            intro w'
            go_simp
            with_reducible rfl
           rotate_left
           ·
            simp only [Act.put, setIfInBounds_toArray, set_cons_zero, set_cons_succ, i64_w, i32_w]
            rfl
           refine last_ (i := 12) (N := none) #[true,true,true,true,true,true,true,true,true,true,true,true,true] rfl rfl (one_of HT_.out (by kernel_rfl)) (by decide) (fun K hK => ?_)
           have hs68 : w66.cell? ⟨gb103, 1, none⟩ = some (.int .i64 x104001_2) := (blk_cell BK103.out 1).trans rfl
           have hfs68 := blk_frozen BK103.out 1
           have hns68_0 := NB102_103.out
           have hns68_2 := NB108_103.out
           have hms68_0 := NB103_102.out
           have hms68_2 := NB103_108.out
           refine skip_ (w1 := ?_) (by rfl) rfl ?_ ?_
           rotate_left
           ·
            go_simp
            rfl
           refine hK.out _ _ ?_
           clear hK K
           refine done_ (done_of HT_.out (by kernel_rfl)) ?_
           try go_wp2
           go_roundg k3
           case measure => have := HK1.out; have := HK2.out; have := HK3.out; omega
           case rel => exact ⟨(wrap64 (x24_2 + 1)), (x103000_2), (x103001_2), (x103007_2), (wrap64 (t109 + ((rd_T31 l0 x24_2).f0))), (ji55), (y116), (y110), (.slice Ao63 y116.length co63), (.slice Ao43 y110.length co43), (by first | rfl | (simp; done) | (simp [*]; done)), H', ⟨by have := HK1.out; have := HK2.out; have := HK3.out; omega⟩, ⟨by (with_reducible repeat (first | apply Kd.R_alloc | apply Kd.R_drewN | apply Kd.R_drew)); exact Kd.R_mono (Kd.R_far (p := ⟨gb103, 1, none⟩) (Kd.R_far (p := ⟨gb103, 0, none⟩) (Kd.R_types HO118.out BK103.out (by decide)) (fun _ hk => hk.2) (.int .i64 (wrap64 (t109 + ((rd_T31 l0 x24_2).f0))))) (fun _ hk => hk.2) (.int .i64 ji55)) (fun _ hk => trivial)⟩, ⟨by (with_reducible repeat (first | apply Kd.R_alloc | apply Kd.R_drewN | apply Kd.R_drew)); exact Kd.R_mono (Kd.R_far (p := ⟨gb103, 1, none⟩) (Kd.R_far (p := ⟨gb103, 0, none⟩) (Kd.R_types HO_104003.out BK103.out (by decide)) (fun _ hk => hk.2) (.int .i64 (wrap64 (t109 + ((rd_T31 l0 x24_2).f0))))) (fun _ hk => hk.2) (.int .i64 ji55)) (fun _ hk => trivial)⟩, ⟨by (with_reducible repeat (first | refine blk_drewN ?_ _ | refine blk_drew ?_ | refine blk_alloc ?_ _)); refine blk_far ?_ NB102_103.out _; (with_reducible repeat (first | refine blk_drewN ?_ _ | refine blk_drew ?_ | refine blk_alloc ?_ _)); refine blk_far ?_ NB102_103.out _; (with_reducible repeat (first | refine blk_drewN ?_ _ | refine blk_drew ?_ | refine blk_alloc ?_ _)); exact BK102.out⟩, ⟨by (with_reducible repeat (first | refine blk_drewN ?_ _ | refine blk_drew ?_ | refine blk_alloc ?_ _)); refine blk_put (cs := #[.int .i64 (wrap64 (t109 + ((rd_T31 l0 x24_2).f0))), .int .i64 x104001_2, .slice Ao63 y116.length co63, .slice Ao43 y110.length co43, .slice none 0 0, .slice none 0 0, .slice none 0 0, .bool false]) ?_ 1 _ rfl; (with_reducible repeat (first | refine blk_drewN ?_ _ | refine blk_drew ?_ | refine blk_alloc ?_ _)); refine blk_put (cs := #[.int .i64 x104000_2, .int .i64 x104001_2, .slice Ao63 y116.length co63, .slice Ao43 y110.length co43, .slice none 0 0, .slice none 0 0, .slice none 0 0, .bool false]) ?_ 0 _ rfl; (with_reducible repeat (first | refine blk_drewN ?_ _ | refine blk_drew ?_ | refine blk_alloc ?_ _)); exact BK103.out⟩, ⟨(hb3_ HB.out GE102.out GE103.out GE108.out)⟩⟩
      ·
       rw [if_neg c23] at H
       have c23b0 : decide (x24_2 < (l0.length : Int)) = false := decide_eq_false c23
       clear c23
       simp only [Option.some.injEq, Prod.mk.injEq] at H
       obtain ⟨rfl, rfl, rfl, rfl, rfl, rfl, rfl, rfl, rfl⟩ := H
       have hnb69 := NB103_102.out
       have hnc69 := NB102_103.out
       obtain ⟨hcz70_0, hcz70_1, hcz70_2, hcz70_3, hcz70_4, hcz70_5, hcz70_6, hcz70_7, hfz70_0, hfz70_1, hfz70_2, hfz70_3, hfz70_4, hfz70_5, hfz70_6, hfz70_7⟩ := bx8_ BK103.out
       obtain ⟨hcz71_0, hcz71_1, hcz71_2, hcz71_3, hcz71_4, hcz71_5, hcz71_6, hcz71_7, hfz71_0, hfz71_1, hfz71_2, hfz71_3, hfz71_4, hfz71_5, hfz71_6, hfz71_7⟩ := bx8_ BK102.out
       obtain ⟨Ao72, co72, eo72⟩ := Kd.R_slice HO_104002.out
       subst eo72
       obtain ⟨Ao73, co73, eo73⟩ := Kd.R_slice HO_104003.out
       subst eo73
       go_wp2
       refine bodyPost_ret (results_ct rfl _ _ gb102 31 #[.int .i64 x104000_2, .int .i64 x104001_2, .slice Ao72 x104002_2.length co72, .slice Ao73 x104003_2.length co73, .slice none 0 0, .slice none 0 0, .slice none 0 0, .bool false] (0, 0) _ rfl (by (with_reducible repeat (first | refine blk_drewN ?_ _ | refine blk_drew ?_ | refine blk_alloc ?_ _)); refine blk_put (cs := #[.int .i64 x104000_2, .int .i64 x104001_2, .slice Ao72 x104002_2.length co72, .slice Ao73 x104003_2.length co73, .slice none 0 0, .slice none 0 0, .slice none 0 0, .bool x103007_2]) ?_ 7 _ rfl; (with_reducible repeat (first | refine blk_drewN ?_ _ | refine blk_drew ?_ | refine blk_alloc ?_ _)); refine blk_put (cs := #[.int .i64 x104000_2, .int .i64 x104001_2, .slice Ao72 x104002_2.length co72, .slice Ao73 x104003_2.length co73, .slice none 0 0, .slice none 0 0, .slice none 0 0, .bool x103007_2]) ?_ 6 _ rfl; (with_reducible repeat (first | refine blk_drewN ?_ _ | refine blk_drew ?_ | refine blk_alloc ?_ _)); refine blk_put (cs := #[.int .i64 x104000_2, .int .i64 x104001_2, .slice Ao72 x104002_2.length co72, .slice Ao73 x104003_2.length co73, .slice none 0 0, .slice none 0 0, .slice none 0 0, .bool x103007_2]) ?_ 5 _ rfl; (with_reducible repeat (first | refine blk_drewN ?_ _ | refine blk_drew ?_ | refine blk_alloc ?_ _)); refine blk_put (cs := #[.int .i64 x104000_2, .int .i64 x104001_2, .slice Ao72 x104002_2.length co72, .slice Ao73 x104003_2.length co73, .slice none 0 0, .slice none 0 0, .slice none 0 0, .bool x103007_2]) ?_ 4 _ rfl; (with_reducible repeat (first | refine blk_drewN ?_ _ | refine blk_drew ?_ | refine blk_alloc ?_ _)); refine blk_put (cs := #[.int .i64 x104000_2, .int .i64 x104001_2, .slice Ao72 x104002_2.length co72, .slice none 0 0, .slice none 0 0, .slice none 0 0, .slice none 0 0, .bool x103007_2]) ?_ 3 _ rfl; (with_reducible repeat (first | refine blk_drewN ?_ _ | refine blk_drew ?_ | refine blk_alloc ?_ _)); refine blk_put (cs := #[.int .i64 x104000_2, .int .i64 x104001_2, .slice none 0 0, .slice none 0 0, .slice none 0 0, .slice none 0 0, .slice none 0 0, .bool x103007_2]) ?_ 2 _ rfl; (with_reducible repeat (first | refine blk_drewN ?_ _ | refine blk_drew ?_ | refine blk_alloc ?_ _)); refine blk_put (cs := #[.int .i64 x104000_2, .int .i64 x103001_2, .slice none 0 0, .slice none 0 0, .slice none 0 0, .slice none 0 0, .slice none 0 0, .bool x103007_2]) ?_ 1 _ rfl; (with_reducible repeat (first | refine blk_drewN ?_ _ | refine blk_drew ?_ | refine blk_alloc ?_ _)); refine blk_put (cs := #[.int .i64 x103000_2, .int .i64 x103001_2, .slice none 0 0, .slice none 0 0, .slice none 0 0, .slice none 0 0, .slice none 0 0, .bool x103007_2]) ?_ 0 _ rfl; (with_reducible repeat (first | refine blk_drewN ?_ _ | refine blk_drew ?_ | refine blk_alloc ?_ _)); exact BK102.out) Try.underlying31 rfl (by kernel_rfl)) rfl ?_
       exact ⟨_, _, _, _, _, by first | rfl | (simp [errW_none, errW_some] <;> rfl) | (simp [*, errW_none, errW_some] <;> rfl), by (with_reducible repeat (first | apply Kd.R_alloc | apply Kd.R_drewN | apply Kd.R_drew)); exact Kd.R_mono (Kd.R_far (p := ⟨gb102, 7, none⟩) (Kd.R_far (p := ⟨gb102, 6, none⟩) (Kd.R_far (p := ⟨gb102, 5, none⟩) (Kd.R_far (p := ⟨gb102, 4, none⟩) (Kd.R_far (p := ⟨gb102, 3, none⟩) (Kd.R_far (p := ⟨gb102, 2, none⟩) (Kd.R_far (p := ⟨gb102, 1, none⟩) (Kd.R_far (p := ⟨gb102, 0, none⟩) (Kd.R_types HO_104002.out BK102.out (by decide)) (fun _ hk => hk.2) (.int .i64 x104000_2)) (fun _ hk => hk.2) (.int .i64 x104001_2)) (fun _ hk => hk.2) (.slice Ao72 x104002_2.length co72)) (fun _ hk => hk.2) (.slice Ao73 x104003_2.length co73)) (fun _ hk => hk.2) (.slice none 0 0)) (fun _ hk => hk.2) (.slice none 0 0)) (fun _ hk => hk.2) (.slice none 0 0)) (fun _ hk => hk.2) (.bool false)) (fun _ hk => trivial), by (with_reducible repeat (first | apply Kd.R_alloc | apply Kd.R_drewN | apply Kd.R_drew)); exact Kd.R_mono (Kd.R_far (p := ⟨gb102, 7, none⟩) (Kd.R_far (p := ⟨gb102, 6, none⟩) (Kd.R_far (p := ⟨gb102, 5, none⟩) (Kd.R_far (p := ⟨gb102, 4, none⟩) (Kd.R_far (p := ⟨gb102, 3, none⟩) (Kd.R_far (p := ⟨gb102, 2, none⟩) (Kd.R_far (p := ⟨gb102, 1, none⟩) (Kd.R_far (p := ⟨gb102, 0, none⟩) (Kd.R_types HO_104003.out BK102.out (by decide)) (fun _ hk => hk.2) (.int .i64 x104000_2)) (fun _ hk => hk.2) (.int .i64 x104001_2)) (fun _ hk => hk.2) (.slice Ao72 x104002_2.length co72)) (fun _ hk => hk.2) (.slice Ao73 x104003_2.length co73)) (fun _ hk => hk.2) (.slice none 0 0)) (fun _ hk => hk.2) (.slice none 0 0)) (fun _ hk => hk.2) (.slice none 0 0)) (fun _ hk => hk.2) (.bool false)) (fun _ hk => (by simp [Value.ownBlock])), by first | exact Kd.R_nil _ _ _ _ _ | exact Kd.N_nil _ _ _ _ _ | exact Kd.V_nil _ _ _ _ _ | exact Kd.Q_nil _ _ _ _ _ | exact Kd.S_nil _ _ _ _ _, by first | exact Kd.R_nil _ _ _ _ _ | exact Kd.N_nil _ _ _ _ _ | exact Kd.V_nil _ _ _ _ _ | exact Kd.Q_nil _ _ _ _ _ | exact Kd.S_nil _ _ _ _ _, by first | exact Kd.R_nil _ _ _ _ _ | exact Kd.N_nil _ _ _ _ _ | exact Kd.V_nil _ _ _ _ _ | exact Kd.Q_nil _ _ _ _ _ | exact Kd.S_nil _ _ _ _ _, (hb2_ HB.out GE102.out GE103.out)⟩

end Go.Proofs.Ytpcephbhnbfcmaa.G
