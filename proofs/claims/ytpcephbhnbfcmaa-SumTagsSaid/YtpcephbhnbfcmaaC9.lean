-- Written by this session's program fork.py: a Lean function for each Go function and its walk. Not trusted: Lean checks it.
import Derived.Test.YtpcephbhnbfcmaaC0
import Derived.Test.YtpcephbhnbfcmaaC1
import Derived.Test.YtpcephbhnbfcmaaC2
import Derived.Test.YtpcephbhnbfcmaaC6
import Derived.Test.YtpcephbhnbfcmaaC7
import Derived.Test.YtpcephbhnbfcmaaC8
namespace Go.Proofs.Ytpcephbhnbfcmaa.C
open Go.RowKit Go.Proofs.YtpcephbhnbfcmaaW.PrintWords Go.Proofs.YtpcephbhnbfcmaaW.PrintLast Go.Proofs.YtpcephbhnbfcmaaW.PrintMore
attribute [local go_sem] max2_int min2_int max_two min_two max_three min_three max_four min_four   -- for this text's walks alone
set_option linter.unusedVariables false
set_option linter.unusedSimpArgs false

open List (setIfInBounds_toArray set_cons_zero set_cons_succ)
/-! ### sum_Inject: function 38 -/
mutual
def sum_Inject.j0 : Nat → Int → List Int → Bool → Int → Int → List Int → List Int → List (S101) → List (S79) → List Int → Bool → Option (List Int × Int)
 | 0, _, _, _, _, _, _, _, _, _, _, _ => none
 | k + 1, x1, x2, x19, x212000, x212001, x212002, x212003, x212004, x212005, x212006, x212007 => if x19 = true then (some (([] : List Int), 20)) else ((sum_size.f x212000 x212001 x212002 x212003 x212004 x212005 x212006 x212007 x1).bind fun bt212 => (if bt212.2 = true then (sum_Inject.j1 k x1 x2 bt212.1 ((x2.length : Int) != bt212.1) x212000 x212001 x212002 x212003 x212004 x212005 x212006 x212007) else (sum_Inject.j1 k x1 x2 bt212.1 true x212000 x212001 x212002 x212003 x212004 x212005 x212006 x212007)))
def sum_Inject.j1 : Nat → Int → List Int → Int → Bool → Int → Int → List Int → List Int → List (S101) → List (S79) → List Int → Bool → Option (List Int × Int)
 | 0, _, _, _, _, _, _, _, _, _, _, _, _ => none
 | k + 1, x1, x2, x8, x33, x212000, x212001, x212002, x212003, x212004, x212005, x212006, x212007 => if x33 = true then (some (([] : List Int), 21)) else ((CloneB.f x2).bind fun t214 => (if 0 ≤ (wrap64 (x212000 - x8)) then (if t214.length + (wrap64 (x212000 - x8) : Int).toNat < 140737488355328 then ((some (t214 ++ List.replicate (wrap64 (x212000 - x8) : Int).toNat 0 : List Int)).bind fun y217 => ((mask_Fits.f k y217 x212002).bind fun t220 => (if t220 = true then ((mask_Clear.f k y217 x212006).bind fun t221 => ((slices_Equal_byte_byte.f k t221 y217).bind fun t224 => (if t224 = true then ((mask_Put.f k y217 x212006 x1).bind fun t225 => (some (t225, 0))) else (some (([] : List Int), 21))))) else (some (([] : List Int), 21))))) else (none)) else (none)))
end
def sum_Inject.f (k : Nat) (a0_0 : Int) (a0_1 : Int) (l0_2 : List Int) (l0_3 : List Int) (l0_4 : List (S101)) (l0_5 : List (S79)) (l0_6 : List Int) (a0_7 : Bool) (a1 : Int) (l2 : List Int) : Option (List Int × Int) := if a1 < 0 then (sum_Inject.j0 k a1 l2 true a0_0 a0_1 l0_2 l0_3 l0_4 l0_5 l0_6 a0_7) else (sum_Inject.j0 k a1 l2 (decide (a1 ≥ (l0_5.length : Int))) a0_0 a0_1 l0_2 l0_3 l0_4 l0_5 l0_6 a0_7)
theorem sum_Inject.mono_l : ∀ k, (∀ y0 y1 y2 y3 y4 y5 y6 y7 y8 y9 y10, LeO (sum_Inject.j0 k y0 y1 y2 y3 y4 y5 y6 y7 y8 y9 y10) (sum_Inject.j0 (k + 1) y0 y1 y2 y3 y4 y5 y6 y7 y8 y9 y10)) ∧ (∀ y0 y1 y2 y3 y4 y5 y6 y7 y8 y9 y10 y11, LeO (sum_Inject.j1 k y0 y1 y2 y3 y4 y5 y6 y7 y8 y9 y10 y11) (sum_Inject.j1 (k + 1) y0 y1 y2 y3 y4 y5 y6 y7 y8 y9 y10 y11))
 | 0 => ⟨fun _ _ _ _ _ _ _ _ _ _ _ r h => by simp [sum_Inject.j0] at h, fun _ _ _ _ _ _ _ _ _ _ _ _ r h => by simp [sum_Inject.j1] at h⟩
 | k + 1 => by
  obtain ⟨ih0, ih1⟩ := sum_Inject.mono_l k
  refine ⟨?_, ?_⟩
  ·
   intro y0 y1 y2 y3 y4 y5 y6 y7 y8 y9 y10
   unfold sum_Inject.j0
   repeat' first
   | (with_reducible exact ih0 _ _ _ _ _ _ _ _ _ _ _)
   | (with_reducible exact ih1 _ _ _ _ _ _ _ _ _ _ _ _)
   | (with_reducible exact mask_Clear.mono _ _ _)
   | (with_reducible exact mask_Fits.mono _ _ _)
   | (with_reducible exact mask_Put.mono _ _ _ _)
   | (with_reducible exact slices_Equal_byte_byte.mono _ _ _)
   | (with_reducible exact LeO.refl _)
   | (with_reducible exact LeO.none _)
   | (with_reducible refine LeO.ite ?_ ?_)
   | (with_reducible refine LeO.bind ?_ (fun _ => ?_))
   | exact ih0 _ _ _ _ _ _ _ _ _ _ _
   | exact ih1 _ _ _ _ _ _ _ _ _ _ _ _
   | exact mask_Clear.mono _ _ _
   | exact mask_Fits.mono _ _ _
   | exact mask_Put.mono _ _ _ _
   | exact slices_Equal_byte_byte.mono _ _ _
   | exact LeO.none _
   | refine LeO.ite ?_ ?_
   | refine LeO.bind ?_ (fun _ => ?_)
  ·
   intro y0 y1 y2 y3 y4 y5 y6 y7 y8 y9 y10 y11
   unfold sum_Inject.j1
   repeat' first
   | (with_reducible exact ih0 _ _ _ _ _ _ _ _ _ _ _)
   | (with_reducible exact ih1 _ _ _ _ _ _ _ _ _ _ _ _)
   | (with_reducible exact mask_Clear.mono _ _ _)
   | (with_reducible exact mask_Fits.mono _ _ _)
   | (with_reducible exact mask_Put.mono _ _ _ _)
   | (with_reducible exact slices_Equal_byte_byte.mono _ _ _)
   | (with_reducible exact LeO.refl _)
   | (with_reducible exact LeO.none _)
   | (with_reducible refine LeO.ite ?_ ?_)
   | (with_reducible refine LeO.bind ?_ (fun _ => ?_))
   | exact ih0 _ _ _ _ _ _ _ _ _ _ _
   | exact ih1 _ _ _ _ _ _ _ _ _ _ _ _
   | exact mask_Clear.mono _ _ _
   | exact mask_Fits.mono _ _ _
   | exact mask_Put.mono _ _ _ _
   | exact slices_Equal_byte_byte.mono _ _ _
   | exact LeO.none _
   | refine LeO.ite ?_ ?_
   | refine LeO.bind ?_ (fun _ => ?_)
theorem sum_Inject.mono : ∀ a0 a1 a2 a3 a4 a5 a6 a7 a8 a9 k, LeO (sum_Inject.f k a0 a1 a2 a3 a4 a5 a6 a7 a8 a9) (sum_Inject.f (k + 1) a0 a1 a2 a3 a4 a5 a6 a7 a8 a9) := by
 intro a0 a1 a2 a3 a4 a5 a6 a7 a8 a9 k
 obtain ⟨ih0, ih1⟩ := sum_Inject.mono_l k
 unfold sum_Inject.f
 repeat' first
   | (with_reducible exact ih0 _ _ _ _ _ _ _ _ _ _ _)
   | (with_reducible exact ih1 _ _ _ _ _ _ _ _ _ _ _ _)
   | (with_reducible exact mask_Clear.mono _ _ _)
   | (with_reducible exact mask_Fits.mono _ _ _)
   | (with_reducible exact mask_Put.mono _ _ _ _)
   | (with_reducible exact slices_Equal_byte_byte.mono _ _ _)
   | (with_reducible exact LeO.refl _)
   | (with_reducible exact LeO.none _)
   | (with_reducible refine LeO.ite ?_ ?_)
   | (with_reducible refine LeO.bind ?_ (fun _ => ?_))
   | exact ih0 _ _ _ _ _ _ _ _ _ _ _
   | exact ih1 _ _ _ _ _ _ _ _ _ _ _ _
   | exact mask_Clear.mono _ _ _
   | exact mask_Fits.mono _ _ _
   | exact mask_Put.mono _ _ _ _
   | exact slices_Equal_byte_byte.mono _ _ _
   | exact LeO.none _
   | refine LeO.ite ?_ ?_
   | refine LeO.bind ?_ (fun _ => ?_)
def sum_Inject.T6 : Bool × List (List Nat × List Nat) := (true, [([], []), ([0], [0]), ([], []), ([2], [2]), ([], []), ([3, 4], [3, 4]), ([1, 5, 1], [1, 5]), ([6, 6, 0, 1, 2, 3, 4, 5, 6], [6])])
def sum_Inject.B6 : List Nat := [0, 1, 0, 4, 0, 28, 63, 127]
theorem sum_Inject.tab6 : rtab .any (opsOf Try.f38 6) = sum_Inject.T6 := by kernel_rfl
theorem sum_Inject.bits6 : waitsOk sum_Inject.T6.2 sum_Inject.B6 = true := by kernel_rfl
set_option maxHeartbeats 8000000 in
set_option maxRecDepth 100000 in
theorem sum_Inject.calls (k : Nat) (a0_0 : Int) (a0_1 : Int) (A0_2 : Option Addr) (c0_2 : Nat) (l0_2 : List Int) (A0_3 : Option Addr) (c0_3 : Nat) (l0_3 : List Int) (A0_4 : Option Addr) (c0_4 : Nat) (l0_4 : List (S101)) (A0_5 : Option Addr) (c0_5 : Nat) (l0_5 : List (S79)) (A0_6 : Option Addr) (c0_6 : Nat) (l0_6 : List Int) (a0_7 : Bool) (a1 : Int) (A2 : Option Addr) (c2 : Nat) (l2 : List Int) (r1 : List Int) (r2 : Int) (w : World) (hr0_2 : Kd.C (Kd.int .u8) w A0_2 l0_2.length l0_2) (hc0_2 : l0_2.length ≤ c0_2) (hr0_3 : Kd.C (Kd.int .i64) w A0_3 l0_3.length l0_3) (hc0_3 : l0_3.length ≤ c0_3) (hr0_4 : Kd.C k101 w A0_4 l0_4.length l0_4) (hc0_4 : l0_4.length ≤ c0_4) (hr0_5 : Kd.C k79 w A0_5 l0_5.length l0_5) (hc0_5 : l0_5.length ≤ c0_5) (hr0_6 : Kd.C (Kd.int .i64) w A0_6 l0_6.length l0_6) (hc0_6 : l0_6.length ≤ c0_6) (hr2 : Kd.C (Kd.int .u8) w A2 l2.length l2) (hc2 : l2.length ≤ c2) (h : sum_Inject.f k a0_0 a0_1 l0_2 l0_3 l0_4 l0_5 l0_6 a0_7 a1 l2 = some (r1, r2)) :
  Calls Try.prog 38 #[.agg #[.int .i64 a0_0, .int .i64 a0_1, .slice A0_2 l0_2.length c0_2, .slice A0_3 l0_3.length c0_3, .slice A0_4 l0_4.length c0_4, .slice A0_5 l0_5.length c0_5, .slice A0_6 l0_6.length c0_6, .bool a0_7], .int .i64 a1, .slice A2 l2.length c2] w fun e w' => ∃ v0_ : Value, e = .returned (.tuple #[v0_, .int .i64 r2]) ∧ Kd.R (Kd.int .u8) 5 w' w.heap.size (fun _ => True) v0_ r1 ∧ Below w.heap.size w w' := by
 have hu31 := Try.underlying31
 have HR0_2 := Aside0.mk hr0_2
 have HC0_2 := Aside0.mk hc0_2
 clear hr0_2 hc0_2
 have HR0_3 := Aside0.mk hr0_3
 have HC0_3 := Aside0.mk hc0_3
 clear hr0_3 hc0_3
 have HR0_4 := Aside0.mk hr0_4
 have HC0_4 := Aside0.mk hc0_4
 clear hr0_4 hc0_4
 have HR0_5 := Aside0.mk hr0_5
 have HC0_5 := Aside0.mk hc0_5
 clear hr0_5 hc0_5
 have HR0_6 := Aside0.mk hr0_6
 have HC0_6 := Aside0.mk hc0_6
 clear hr0_6 hc0_6
 have HR2 := Aside0.mk hr2
 have HC2 := Aside0.mk hc2
 clear hr2 hc2
 have HB := Aside0.mk (Below.refl w.heap.size w)
 have H : (if a1 < 0 then (sum_Inject.j0 k a1 l2 true a0_0 a0_1 l0_2 l0_3 l0_4 l0_5 l0_6 a0_7) else (sum_Inject.j0 k a1 l2 (decide (a1 ≥ (l0_5.length : Int))) a0_0 a0_1 l0_2 l0_3 l0_4 l0_5 l0_6 a0_7)) = some (r1, r2) := h
 clear h
 have HC4 := Aside0.mk H
 clear H
 go_enter Try.func38, Try.ntmps38
 go_upto_region 1 with (first | ((with_reducible refine gate_dst (N := 3) rfl ?_); (try (refine gate_guard (by rfl) ?_; dsimp only)); refine box_event ?hg (N := 3) ?hd (cs := #[.int .i64 a0_0, .int .i64 a0_1, .slice A0_2 l0_2.length c0_2, .slice A0_3 l0_3.length c0_3, .slice A0_4 l0_4.length c0_4, .slice A0_5 l0_5.length c0_5, .slice A0_6 l0_6.length c0_6, .bool a0_7]) (t := 31) ?hr ?_; (case hd => rfl); (case hg => rfl); (case hr => first | (go_simp; done) | (go_simp; rfl)); intro gb211 hg w5 hbox hb; have n0_ := Aside0.mk (below_step (hb0_ HB.out) hb); have n1_ := Aside0.mk (hbox); have n2_ := Aside0.mk ((by rw [hg]; exact (below_size (hb0_ HB.out)) : w.heap.size ≤ gb211)); have n3_ := Aside0.mk ((by rw [hg]; exact (below_size (hb0_ HB.out)) : w.heap.size ≤ gb211)); clear HB; have HB := n0_; have BK211 := n1_; have GW211 := n2_; have GE211 := n3_; clear n0_ n1_ n2_ n3_ hb hbox hg))
 (try simp only [Act.put, setIfInBounds_toArray, set_cons_zero, set_cons_succ])
 go_cut [19] (fun v19 wc => ∃ (kq : Nat) (x19_3 : Bool), v19 = .bool x19_3 ∧ Aside0 (sum_Inject.j0 kq a1 l2 x19_3 a0_0 a0_1 l0_2 l0_3 l0_4 l0_5 l0_6 a0_7 = some (r1, r2)) ∧ Aside0 (kq ≤ k) ∧ Aside0 (wc.heap[gb211]? = some (.cells #[.int .i64 a0_0, .int .i64 a0_1, (.slice A0_2 l0_2.length c0_2), (.slice A0_3 l0_3.length c0_3), (.slice A0_4 l0_4.length c0_4), (.slice A0_5 l0_5.length c0_5), (.slice A0_6 l0_6.length c0_6), .bool a0_7] 31 (0, 0))) ∧ Aside0 (Below w.heap.size w wc))
 case first =>
  have H := HC4.out
  clear HC4
  by_cases c6 : a1 < 0
  ·
   rw [if_pos c6] at H
   have c6b0 : decide (a1 < 0) = true := decide_eq_true c6
   clear c6
   (first | rw [c6b0] | (simp only [i64_w, i32_w]; rw [c6b0]) | skip)
   have H' := Aside0.mk H
   clear H
   go_wp2
   go_meet
   case rel => exact ⟨_, (true), (by first | rfl | (simp; done) | (simp [*]; done)), H', ⟨by first | omega | exact Nat.le_refl _⟩, ⟨by (with_reducible repeat (first | refine blk_drewN ?_ _ | refine blk_drew ?_ | refine blk_alloc ?_ _)); exact BK211.out⟩, ⟨by repeat (first | (with_reducible first | exact HB.out | apply below_alloc | apply pw_below_drewN | apply below_drew1 | refine below_set ?_ GE211.out) | exact HB.out)⟩⟩
  ·
   rw [if_neg c6] at H
   have c6b0 : decide (a1 < 0) = false := decide_eq_false c6
   clear c6
   (first | rw [c6b0] | (simp only [i64_w, i32_w]; rw [c6b0]) | skip)
   have H' := Aside0.mk H
   clear H
   have hcz7_0 : w5.cell? ⟨gb211, 0, none⟩ = some (.int .i64 a0_0) := (blk_cell BK211.out 0).trans rfl
   have hcz7_1 : w5.cell? ⟨gb211, 1, none⟩ = some (.int .i64 a0_1) := (blk_cell BK211.out 1).trans rfl
   have hcz7_2 : w5.cell? ⟨gb211, 2, none⟩ = some (.slice A0_2 l0_2.length c0_2) := (blk_cell BK211.out 2).trans rfl
   have hcz7_3 : w5.cell? ⟨gb211, 3, none⟩ = some (.slice A0_3 l0_3.length c0_3) := (blk_cell BK211.out 3).trans rfl
   have hcz7_4 : w5.cell? ⟨gb211, 4, none⟩ = some (.slice A0_4 l0_4.length c0_4) := (blk_cell BK211.out 4).trans rfl
   have hcz7_5 : w5.cell? ⟨gb211, 5, none⟩ = some (.slice A0_5 l0_5.length c0_5) := (blk_cell BK211.out 5).trans rfl
   have hcz7_6 : w5.cell? ⟨gb211, 6, none⟩ = some (.slice A0_6 l0_6.length c0_6) := (blk_cell BK211.out 6).trans rfl
   have hcz7_7 : w5.cell? ⟨gb211, 7, none⟩ = some (.bool a0_7) := (blk_cell BK211.out 7).trans rfl
   have hfz7_0 := blk_frozen BK211.out 0
   have hfz7_1 := blk_frozen BK211.out 1
   have hfz7_2 := blk_frozen BK211.out 2
   have hfz7_3 := blk_frozen BK211.out 3
   have hfz7_4 := blk_frozen BK211.out 4
   have hfz7_5 := blk_frozen BK211.out 5
   have hfz7_6 := blk_frozen BK211.out 6
   have hfz7_7 := blk_frozen BK211.out 7
   go_wp2
   go_meet
   case rel => exact ⟨_, (decide (a1 ≥ (l0_5.length : Int))), (by first | rfl | (simp; done) | (simp [*]; done)), H', ⟨by first | omega | exact Nat.le_refl _⟩, ⟨by (with_reducible repeat (first | refine blk_drewN ?_ _ | refine blk_drew ?_ | refine blk_alloc ?_ _)); exact BK211.out⟩, ⟨by repeat (first | (with_reducible first | exact HB.out | apply below_alloc | apply pw_below_drewN | apply below_drew1 | refine below_set ?_ GE211.out) | exact HB.out)⟩⟩
 case rest =>
  clear HC4
  try clear c2
  try clear p2
  try clear c3
  try clear c6
  try clear c6b0
  try clear hcz7_0
  try clear hcz7_1
  try clear hcz7_2
  try clear hcz7_3
  try clear hcz7_4
  try clear hcz7_5
  try clear hcz7_6
  try clear hcz7_7
  try clear hfz7_0
  try clear hfz7_1
  try clear hfz7_2
  try clear hfz7_3
  try clear hfz7_4
  try clear hfz7_5
  try clear hfz7_6
  try clear hfz7_7
  obtain ⟨kq, x19_3, rfl, HA, HJ3, BK211, HB⟩ := hcut
  cases kq with
  | zero => exact absurd HA.out (by simp [sum_Inject.j0])
  | succ kj3 =>
   have H := HA.out
   clear HA
   simp only [sum_Inject.j0] at H
   by_cases c8 : x19_3 = true
   ·
    subst c8
    have H1 : (some (([] : List Int), 20)) = some (r1, r2) := by rw [if_pos rfl] at H; exact H
    clear H
    have H := H1
    clear H1
    simp only [Option.some.injEq, Prod.mk.injEq] at H
    obtain ⟨rfl, rfl⟩ := H
    go_wp2
    go_ret2
    exact ⟨_, by first | rfl | (simp [errW_none, errW_some] <;> rfl) | (simp [*, errW_none, errW_some] <;> rfl), by first | exact Kd.R_nil _ _ _ _ _ | exact Kd.N_nil _ _ _ _ _ | exact Kd.V_nil _ _ _ _ _ | exact Kd.Q_nil _ _ _ _ _ | exact Kd.S_nil _ _ _ _ _, by repeat (first | (with_reducible first | exact HB.out | apply below_alloc | apply pw_below_drewN | apply below_drew1 | refine below_set ?_ GE211.out) | exact HB.out)⟩
   ·
    replace c8 := Bool.eq_false_iff.mpr c8
    subst c8
    have H1 : ((sum_size.f a0_0 a0_1 l0_2 l0_3 l0_4 l0_5 l0_6 a0_7 a1).bind fun bt212 => (if bt212.2 = true then (sum_Inject.j1 kj3 a1 l2 bt212.1 ((l2.length : Int) != bt212.1) a0_0 a0_1 l0_2 l0_3 l0_4 l0_5 l0_6 a0_7) else (sum_Inject.j1 kj3 a1 l2 bt212.1 true a0_0 a0_1 l0_2 l0_3 l0_4 l0_5 l0_6 a0_7))) = some (r1, r2) := by rw [if_neg (show ¬ (false = true) by decide)] at H; exact H
    clear H
    have H := H1
    clear H1
    replace H := Option.bind_eq_some_iff.mp H
    obtain ⟨⟨t212, t213⟩, A90, H⟩ := H
    replace H : (if t213 = true then (sum_Inject.j1 kj3 a1 l2 t212 ((l2.length : Int) != t212) a0_0 a0_1 l0_2 l0_3 l0_4 l0_5 l0_6 a0_7) else (sum_Inject.j1 kj3 a1 l2 t212 true a0_0 a0_1 l0_2 l0_3 l0_4 l0_5 l0_6 a0_7)) = some (r1, r2) := H
    have A9 := Aside0.mk A90
    clear A90
    have HC10 := Aside0.mk H
    clear H
    have hcz11_0 : wc.cell? ⟨gb211, 0, none⟩ = some (.int .i64 a0_0) := (blk_cell BK211.out 0).trans rfl
    have hcz11_1 : wc.cell? ⟨gb211, 1, none⟩ = some (.int .i64 a0_1) := (blk_cell BK211.out 1).trans rfl
    have hcz11_2 : wc.cell? ⟨gb211, 2, none⟩ = some (.slice A0_2 l0_2.length c0_2) := (blk_cell BK211.out 2).trans rfl
    have hcz11_3 : wc.cell? ⟨gb211, 3, none⟩ = some (.slice A0_3 l0_3.length c0_3) := (blk_cell BK211.out 3).trans rfl
    have hcz11_4 : wc.cell? ⟨gb211, 4, none⟩ = some (.slice A0_4 l0_4.length c0_4) := (blk_cell BK211.out 4).trans rfl
    have hcz11_5 : wc.cell? ⟨gb211, 5, none⟩ = some (.slice A0_5 l0_5.length c0_5) := (blk_cell BK211.out 5).trans rfl
    have hcz11_6 : wc.cell? ⟨gb211, 6, none⟩ = some (.slice A0_6 l0_6.length c0_6) := (blk_cell BK211.out 6).trans rfl
    have hcz11_7 : wc.cell? ⟨gb211, 7, none⟩ = some (.bool a0_7) := (blk_cell BK211.out 7).trans rfl
    have hfz11_0 := blk_frozen BK211.out 0
    have hfz11_1 := blk_frozen BK211.out 1
    have hfz11_2 := blk_frozen BK211.out 2
    have hfz11_3 := blk_frozen BK211.out 3
    have hfz11_4 := blk_frozen BK211.out 4
    have hfz11_5 := blk_frozen BK211.out 5
    have hfz11_6 := blk_frozen BK211.out 6
    have hfz11_7 := blk_frozen BK211.out 7
    go_upto_region 4 with (first | ((with_reducible refine gate_callee (f := 80) rfl ?_); refine goesL_ (some 23) rfl rfl Try.func80 (by kernel_rfl) rfl #[.agg #[.int .i64 a0_0, .int .i64 a0_1, .slice A0_2 l0_2.length c0_2, .slice A0_3 l0_3.length c0_3, .slice A0_4 l0_4.length c0_4, .slice A0_5 l0_5.length c0_5, .slice A0_6 l0_6.length c0_6, .bool a0_7], .int .i64 a1] rfl (by (try simp only [List.map_toArray, List.map_cons, List.map_nil]); first | done | rfl | (simp only [List.length_drop, List.length_take]; rfl)) ?_; (with_reducible refine (sum_size.calls a0_0 a0_1 _ _ l0_2 _ _ l0_3 _ _ l0_4 _ _ l0_5 _ _ l0_6 a0_7 a1 t212 t213 _ ?side1 ?side2 ?side3 ?side4 ?side5 ?side6 ?side7 ?side8 ?side9 ?side10 A9.out).mono ?_); (case side1 => repeat (first | exact (Kd.C_below HR0_2.out HB.out) | (with_reducible refine Kd.C_alloc ?_ _) | (with_reducible refine Kd.C_drewN ?_ _) | (with_reducible refine Kd.C_drew ?_))); (case side2 => exact HC0_2.out); (case side3 => repeat (first | exact (Kd.C_below HR0_3.out HB.out) | (with_reducible refine Kd.C_alloc ?_ _) | (with_reducible refine Kd.C_drewN ?_ _) | (with_reducible refine Kd.C_drew ?_))); (case side4 => exact HC0_3.out); (case side5 => repeat (first | exact (Kd.C_below HR0_4.out HB.out) | (with_reducible refine Kd.C_alloc ?_ _) | (with_reducible refine Kd.C_drewN ?_ _) | (with_reducible refine Kd.C_drew ?_))); (case side6 => exact HC0_4.out); (case side7 => repeat (first | exact (Kd.C_below HR0_5.out HB.out) | (with_reducible refine Kd.C_alloc ?_ _) | (with_reducible refine Kd.C_drewN ?_ _) | (with_reducible refine Kd.C_drew ?_))); (case side8 => exact HC0_5.out); (case side9 => repeat (first | exact (Kd.C_below HR0_6.out HB.out) | (with_reducible refine Kd.C_alloc ?_ _) | (with_reducible refine Kd.C_drewN ?_ _) | (with_reducible refine Kd.C_drew ?_))); (case side10 => exact HC0_6.out); rintro e w12 ⟨rfl, hb⟩; refine ⟨_, rfl, ?_⟩; have n0_ := Aside0.mk (blk_below (g := gb211) (o := .cells #[.int .i64 a0_0, .int .i64 a0_1, .slice A0_2 l0_2.length c0_2, .slice A0_3 l0_3.length c0_3, .slice A0_4 l0_4.length c0_4, .slice A0_5 l0_5.length c0_5, .slice A0_6 l0_6.length c0_6, .bool a0_7] 31 (0, 0)) (bk_ BK211.out) hb); have n1_ := Aside0.mk (below_step (hb1_ HB.out GE211.out) hb); clear BK211 HB; have BK211 := n0_; have HB := n1_; clear n0_ n1_; (try clear hb); (try clear hb2); (try clear hk); (try clear hi)))
    (try simp only [Act.put, setIfInBounds_toArray, set_cons_zero, set_cons_succ])
    go_cut [33] (fun v33 wc => ∃ (kq : Nat) (x33_9 : Bool), v33 = .bool x33_9 ∧ Aside0 (sum_Inject.j1 kq a1 l2 t212 x33_9 a0_0 a0_1 l0_2 l0_3 l0_4 l0_5 l0_6 a0_7 = some (r1, r2)) ∧ Aside0 (kq ≤ kj3) ∧ Aside0 (wc.heap[gb211]? = some (.cells #[.int .i64 a0_0, .int .i64 a0_1, (.slice A0_2 l0_2.length c0_2), (.slice A0_3 l0_3.length c0_3), (.slice A0_4 l0_4.length c0_4), (.slice A0_5 l0_5.length c0_5), (.slice A0_6 l0_6.length c0_6), .bool a0_7] 31 (0, 0))) ∧ Aside0 (Below w.heap.size w wc))
    case first =>
     have H := HC10.out
     clear HC10
     by_cases c13 : t213 = true
     ·
      subst c13
      have H1 : (sum_Inject.j1 kj3 a1 l2 t212 ((l2.length : Int) != t212) a0_0 a0_1 l0_2 l0_3 l0_4 l0_5 l0_6 a0_7) = some (r1, r2) := by rw [if_pos rfl] at H; exact H
      clear H
      have H := H1
      clear H1
      have H' := Aside0.mk H
      clear H
      go_wp2
      go_meet
      case rel => exact ⟨_, (((l2.length : Int) != t212)), (by first | rfl | (simp; done) | (simp [*]; done)), H', ⟨by have := HJ3.out; first | omega | exact Nat.le_refl _⟩, ⟨by (with_reducible repeat (first | refine blk_drewN ?_ _ | refine blk_drew ?_ | refine blk_alloc ?_ _)); exact BK211.out⟩, ⟨by repeat (first | (with_reducible first | exact HB.out | apply below_alloc | apply pw_below_drewN | apply below_drew1 | refine below_set ?_ GE211.out) | exact HB.out)⟩⟩
     ·
      replace c13 := Bool.eq_false_iff.mpr c13
      subst c13
      have H1 : (sum_Inject.j1 kj3 a1 l2 t212 true a0_0 a0_1 l0_2 l0_3 l0_4 l0_5 l0_6 a0_7) = some (r1, r2) := by rw [if_neg (show ¬ (false = true) by decide)] at H; exact H
      clear H
      have H := H1
      clear H1
      have H' := Aside0.mk H
      clear H
      go_wp2
      go_meet
      case rel => exact ⟨_, (true), (by first | rfl | (simp; done) | (simp [*]; done)), H', ⟨by have := HJ3.out; first | omega | exact Nat.le_refl _⟩, ⟨by (with_reducible repeat (first | refine blk_drewN ?_ _ | refine blk_drew ?_ | refine blk_alloc ?_ _)); exact BK211.out⟩, ⟨by repeat (first | (with_reducible first | exact HB.out | apply below_alloc | apply pw_below_drewN | apply below_drew1 | refine below_set ?_ GE211.out) | exact HB.out)⟩⟩
    case rest =>
     clear HC10
     try clear c1
     try clear c2
     try clear p2
     try clear c3
     try clear c6
     try clear c6b0
     try clear c8
     try clear c13
     try clear hcz11_0
     try clear hcz11_1
     try clear hcz11_2
     try clear hcz11_3
     try clear hcz11_4
     try clear hcz11_5
     try clear hcz11_6
     try clear hcz11_7
     try clear hcz7_0
     try clear hcz7_1
     try clear hcz7_2
     try clear hcz7_3
     try clear hcz7_4
     try clear hcz7_5
     try clear hcz7_6
     try clear hcz7_7
     try clear hfz11_0
     try clear hfz11_1
     try clear hfz11_2
     try clear hfz11_3
     try clear hfz11_4
     try clear hfz11_5
     try clear hfz11_6
     try clear hfz11_7
     try clear hfz7_0
     try clear hfz7_1
     try clear hfz7_2
     try clear hfz7_3
     try clear hfz7_4
     try clear hfz7_5
     try clear hfz7_6
     try clear hfz7_7
     try clear p2
     obtain ⟨kq, x33_9, rfl, HA, HJ9, BK211, HB⟩ := hcut
     cases kq with
     | zero => exact absurd HA.out (by simp [sum_Inject.j1])
     | succ kj9 =>
      have H := HA.out
      clear HA
      simp only [sum_Inject.j1] at H
      by_cases c14 : x33_9 = true
      ·
       subst c14
       have H1 : (some (([] : List Int), 21)) = some (r1, r2) := by rw [if_pos rfl] at H; exact H
       clear H
       have H := H1
       clear H1
       simp only [Option.some.injEq, Prod.mk.injEq] at H
       obtain ⟨rfl, rfl⟩ := H
       go_wp2
       go_ret2
       exact ⟨_, by first | rfl | (simp [errW_none, errW_some] <;> rfl) | (simp [*, errW_none, errW_some] <;> rfl), by first | exact Kd.R_nil _ _ _ _ _ | exact Kd.N_nil _ _ _ _ _ | exact Kd.V_nil _ _ _ _ _ | exact Kd.Q_nil _ _ _ _ _ | exact Kd.S_nil _ _ _ _ _, by repeat (first | (with_reducible first | exact HB.out | apply below_alloc | apply pw_below_drewN | apply below_drew1 | refine below_set ?_ GE211.out) | exact HB.out)⟩
      ·
       replace c14 := Bool.eq_false_iff.mpr c14
       subst c14
       have H1 : ((CloneB.f l2).bind fun t214 => (if 0 ≤ (wrap64 (a0_0 - t212)) then (if t214.length + (wrap64 (a0_0 - t212) : Int).toNat < 140737488355328 then ((some (t214 ++ List.replicate (wrap64 (a0_0 - t212) : Int).toNat 0 : List Int)).bind fun y217 => ((mask_Fits.f kj9 y217 l0_2).bind fun t220 => (if t220 = true then ((mask_Clear.f kj9 y217 l0_6).bind fun t221 => ((slices_Equal_byte_byte.f kj9 t221 y217).bind fun t224 => (if t224 = true then ((mask_Put.f kj9 y217 l0_6 a1).bind fun t225 => (some (t225, 0))) else (some (([] : List Int), 21))))) else (some (([] : List Int), 21))))) else (none)) else (none))) = some (r1, r2) := by rw [if_neg (show ¬ (false = true) by decide)] at H; exact H
       clear H
       have H := H1
       clear H1
       replace H := Option.bind_eq_some_iff.mp H
       obtain ⟨t214, A150, H⟩ := H
       replace H : (if 0 ≤ (wrap64 (a0_0 - t212)) then (if t214.length + (wrap64 (a0_0 - t212) : Int).toNat < 140737488355328 then ((some (t214 ++ List.replicate (wrap64 (a0_0 - t212) : Int).toNat 0 : List Int)).bind fun y217 => ((mask_Fits.f kj9 y217 l0_2).bind fun t220 => (if t220 = true then ((mask_Clear.f kj9 y217 l0_6).bind fun t221 => ((slices_Equal_byte_byte.f kj9 t221 y217).bind fun t224 => (if t224 = true then ((mask_Put.f kj9 y217 l0_6 a1).bind fun t225 => (some (t225, 0))) else (some (([] : List Int), 21))))) else (some (([] : List Int), 21))))) else (none)) else (none)) = some (r1, r2) := H
       have A15 := Aside0.mk A150
       clear A150
       obtain ⟨ji16, hji16⟩ : ∃ j_ : Int, (wrap64 (a0_0 - t212)) = j_ := ⟨_, rfl⟩
       replace H : (if 0 ≤ (ji16) then (if t214.length + (ji16 : Int).toNat < 140737488355328 then ((some (t214 ++ List.replicate (ji16 : Int).toNat 0 : List Int)).bind fun y217 => ((mask_Fits.f kj9 y217 l0_2).bind fun t220 => (if t220 = true then ((mask_Clear.f kj9 y217 l0_6).bind fun t221 => ((slices_Equal_byte_byte.f kj9 t221 y217).bind fun t224 => (if t224 = true then ((mask_Put.f kj9 y217 l0_6 a1).bind fun t225 => (some (t225, 0))) else (some (([] : List Int), 21))))) else (some (([] : List Int), 21))))) else (none)) else (none)) = some (r1, r2) := by first | (rw [hji16] at H; exact H) | (simp only [hji16] at H ⊢; exact H)
       (try rw [hji16] at A15)
       have hji16w : (IntKind.i64.wrap (a0_0 - t212)) = ji16 := (i64_w _).trans hji16
       by_cases c17 : 0 ≤ (ji16)
       ·
        rw [if_pos c17] at H
        have c17b0 := eq_true c17
        have c17b1 : decide (0 ≤ (ji16)) = true := decide_eq_true c17
        clear c17
        by_cases c18 : t214.length + (ji16 : Int).toNat < 140737488355328
        rotate_left
        ·
         rw [if_neg c18] at H
         exact absurd H (by simp)
        rw [if_pos c18] at H
        have LMc18 := Aside0.mk c18
        clear c18
        obtain ⟨y217, hy217⟩ : ∃ y_ : List Int, y_ = (t214 ++ List.replicate (ji16 : Int).toNat 0) := ⟨_, rfl⟩
        replace H : ((mask_Fits.f kj9 y217 l0_2).bind fun t220 => (if t220 = true then ((mask_Clear.f kj9 y217 l0_6).bind fun t221 => ((slices_Equal_byte_byte.f kj9 t221 y217).bind fun t224 => (if t224 = true then ((mask_Put.f kj9 y217 l0_6 a1).bind fun t225 => (some (t225, 0))) else (some (([] : List Int), 21))))) else (some (([] : List Int), 21)))) = some (r1, r2) := by first | (rw [hy217]; with_reducible exact H) | (have H2_ := (Option.bind_some _ _).symm.trans H; rw [hy217]; with_reducible exact H2_) | (have H2_ := (Option.bind_some _ _).symm.trans H; with_reducible exact H2_) | with_reducible exact H | (rw [hy217]; exact H) | exact H
        have Ny217 := Aside0.mk hy217
        clear hy217
        replace H := Option.bind_eq_some_iff.mp H
        obtain ⟨t220, A190, H⟩ := H
        replace H : (if t220 = true then ((mask_Clear.f kj9 y217 l0_6).bind fun t221 => ((slices_Equal_byte_byte.f kj9 t221 y217).bind fun t224 => (if t224 = true then ((mask_Put.f kj9 y217 l0_6 a1).bind fun t225 => (some (t225, 0))) else (some (([] : List Int), 21))))) else (some (([] : List Int), 21))) = some (r1, r2) := H
        have A19 := Aside0.mk A190
        clear A190
        by_cases c20 : t220 = true
        ·
         subst c20
         have H1 : ((mask_Clear.f kj9 y217 l0_6).bind fun t221 => ((slices_Equal_byte_byte.f kj9 t221 y217).bind fun t224 => (if t224 = true then ((mask_Put.f kj9 y217 l0_6 a1).bind fun t225 => (some (t225, 0))) else (some (([] : List Int), 21))))) = some (r1, r2) := by rw [if_pos rfl] at H; exact H
         clear H
         have H := H1
         clear H1
         replace H := Option.bind_eq_some_iff.mp H
         obtain ⟨t221, A210, H⟩ := H
         replace H : ((slices_Equal_byte_byte.f kj9 t221 y217).bind fun t224 => (if t224 = true then ((mask_Put.f kj9 y217 l0_6 a1).bind fun t225 => (some (t225, 0))) else (some (([] : List Int), 21)))) = some (r1, r2) := H
         have A21 := Aside0.mk A210
         clear A210
         replace H := Option.bind_eq_some_iff.mp H
         obtain ⟨t224, A220, H⟩ := H
         replace H : (if t224 = true then ((mask_Put.f kj9 y217 l0_6 a1).bind fun t225 => (some (t225, 0))) else (some (([] : List Int), 21))) = some (r1, r2) := H
         have A22 := Aside0.mk A220
         clear A220
         by_cases c23 : t224 = true
         ·
          subst c23
          have H1 : ((mask_Put.f kj9 y217 l0_6 a1).bind fun t225 => (some (t225, 0))) = some (r1, r2) := by rw [if_pos rfl] at H; exact H
          clear H
          have H := H1
          clear H1
          replace H := Option.bind_eq_some_iff.mp H
          obtain ⟨t225, A240, H⟩ := H
          replace H : (some (t225, 0)) = some (r1, r2) := H
          have A24 := Aside0.mk A240
          clear A240
          simp only [Option.some.injEq, Prod.mk.injEq] at H
          obtain ⟨rfl, rfl⟩ := H
          try go_wp2
          have n0_ := Aside0.mk (blk_drew BK211.out)
          have n1_ := Aside0.mk (below_drew1 HB.out)
          clear BK211
          clear HB
          have BK211 := n0_
          have HB := n1_
          clear n0_ n1_
          refine start_ (n := 8) (S := fun w' => w'.cell? ⟨gb211, 0, none⟩ = some (.int .i64 a0_0) ∧ w'.cell? ⟨gb211, 1, none⟩ = some (.int .i64 a0_1) ∧ w'.cell? ⟨gb211, 2, none⟩ = some (.slice A0_2 l0_2.length c0_2) ∧ w'.cell? ⟨gb211, 3, none⟩ = some (.slice A0_3 l0_3.length c0_3) ∧ w'.cell? ⟨gb211, 4, none⟩ = some (.slice A0_4 l0_4.length c0_4) ∧ w'.cell? ⟨gb211, 5, none⟩ = some (.slice A0_5 l0_5.length c0_5) ∧ w'.cell? ⟨gb211, 6, none⟩ = some (.slice A0_6 l0_6.length c0_6) ∧ w'.cell? ⟨gb211, 7, none⟩ = some (.bool a0_7)) (ds := []) #[false,false,false,false,false,false,false,false] (by kernel_rfl) rfl rfl ⟨(blk_cell BK211.out 0).trans rfl, (blk_cell BK211.out 1).trans rfl, (blk_cell BK211.out 2).trans rfl, (blk_cell BK211.out 3).trans rfl, (blk_cell BK211.out 4).trans rfl, (blk_cell BK211.out 5).trans rfl, (blk_cell BK211.out 6).trans rfl, (blk_cell BK211.out 7).trans rfl⟩ (fun hHeld => ?_); refine with_tabW sum_Inject.tab6 sum_Inject.bits6 (fun HT_ HW_ => ?_)
          generalize wc.drew = w25 at BK211 HB hHeld ⊢
          refine pure_ (i := 0) (N := some 34) (v := ?_) (a' := ?_) #[true,false,false,false,false,false,false,false] rfl rfl (any_of HT_.out (by kernel_rfl)) (fun _ _ _ h => h) (Or.inl ⟨by rfl, ?_⟩) ?_ ?_
          rotate_left
          ·
           intro w'
           go_simp
           with_reducible rfl
          rotate_left
          ·
           simp only [Act.put, setIfInBounds_toArray, set_cons_zero, set_cons_succ, i64_w, i32_w]
           rfl
          refine pure_ (i := 2) (N := some 36) (v := ?_) (a' := ?_) #[true,false,true,false,false,false,false,false] rfl rfl (any_of HT_.out (by kernel_rfl)) (fun _ _ _ h => h) (Or.inl ⟨by rfl, ?_⟩) ?_ ?_
          rotate_left
          ·
           intro w'
           go_simp
           with_reducible rfl
          rotate_left
          ·
           simp only [Act.put, setIfInBounds_toArray, set_cons_zero, set_cons_succ, i64_w, i32_w]
           rfl
          refine pure_ (i := 4) (N := some 38) (v := ?_) (a' := ?_) #[true,false,true,false,true,false,false,false] rfl rfl (any_of HT_.out (by kernel_rfl)) (fun _ _ _ h => h) (Or.inl ⟨by rfl, ?_⟩) ?_ ?_
          rotate_left
          ·
           intro w'
           go_simp
           with_reducible rfl
          rotate_left
          ·
           simp only [Act.put, setIfInBounds_toArray, set_cons_zero, set_cons_succ, i64_w, i32_w]
           rfl
          refine take_ (i := 3) (N := some 37) (v := ?_) (a' := ?_) #[true,false,true,true,true,false,false,false] rfl rfl (take_ofW HT_.out HW_.out (by kernel_rfl)) (fun _ _ _ h => h) (Or.inl ⟨by rfl, ?_⟩) hHeld ?_ ?_
          rotate_left
          ·
           rintro w' ⟨s0, s1, s2, s3, s4, s5, s6, s7⟩
           go_simp
           with_reducible rfl
          rotate_left
          ·
           simp only [Act.put, setIfInBounds_toArray, set_cons_zero, set_cons_succ, i64_w, i32_w]
           rfl
          refine pure_ (i := 5) (N := some 39) (v := ?_) (a' := ?_) #[true,false,true,true,true,true,false,false] rfl rfl (any_of HT_.out (by kernel_rfl)) (fun _ _ _ h => h) (Or.inl ⟨by rfl, ?_⟩) ?_ ?_
          rotate_left
          ·
           intro w'
           go_simp
           with_reducible rfl
          rotate_left
          ·
           simp only [Act.put, setIfInBounds_toArray, set_cons_zero, set_cons_succ, i64_w, i32_w]
           rfl
          refine one_ (i := 1) (N := some 35) #[true,true,true,true,true,true,false,false] rfl rfl (one_of HT_.out (by kernel_rfl)) (by decide) (fun K hK => ?_)
          refine goes_ Try.func81 (by kernel_rfl) rfl #[.slice A2 l2.length c2] (by rfl) rfl rfl (by (try simp only [List.map_toArray, List.map_cons, List.map_nil]); first | done | rfl | (simp only [List.length_drop, List.length_take]; rfl)) ?_
          with_reducible refine (CloneB.calls _ _ l2 t214 _ ?side1 ?side2 A15.out).mono ?_
          (case side1 => repeat (first | exact (Kd.C_below HR2.out HB.out) | (with_reducible refine Kd.C_alloc ?_ _) | (with_reducible refine Kd.C_drewN ?_ _) | (with_reducible refine Kd.C_drew ?_)))
          (case side2 => exact HC2.out)
          rintro e w26 ⟨v215, rfl, ho0, hb⟩
          refine ⟨_, rfl, ?_⟩
          have n0_ := Aside0.mk (Kd.R_lower ho0 (below_size (hb1_ HB.out GE211.out)))
          have n1_ := Aside0.mk (blk_below (g := gb211) (o := .cells #[.int .i64 a0_0, .int .i64 a0_1, .slice A0_2 l0_2.length c0_2, .slice A0_3 l0_3.length c0_3, .slice A0_4 l0_4.length c0_4, .slice A0_5 l0_5.length c0_5, .slice A0_6 l0_6.length c0_6, .bool a0_7] 31 (0, 0)) (bk_ BK211.out) hb)
          have n2_ := Aside0.mk (below_step (hb1_ HB.out GE211.out) hb)
          clear BK211
          clear HB
          have HO216 := n0_
          have BK211 := n1_
          have HB := n2_
          clear n0_ n1_ n2_
          (try clear hb)
          (try clear hb2)
          (try clear hk)
          (try clear hi)
          (try clear ho0)
          refine hK.out _ _ ⟨(blk_cell BK211.out 0).trans rfl, (blk_cell BK211.out 1).trans rfl, (blk_cell BK211.out 2).trans rfl, (blk_cell BK211.out 3).trans rfl, (blk_cell BK211.out 4).trans rfl, (blk_cell BK211.out 5).trans rfl, (blk_cell BK211.out 6).trans rfl, (blk_cell BK211.out 7).trans rfl⟩ (fun hHeld => ?_)
          clear hK K
          refine norm_ (a' := ?_) ?_ ?_
          rotate_left
          ·
           show Act.put _ (some 35) _ = _
           simp only [Act.put, setIfInBounds_toArray, set_cons_zero, set_cons_succ, i64_w, i32_w]
           rfl
          refine one_ (i := 6) (N := some 40) #[true,true,true,true,true,true,true,false] rfl rfl (one_of HT_.out (by kernel_rfl)) (by decide) (fun K hK => ?_)
          refine Kd.R_append_zeros_step (Kd.int .u8) (w0 := w) w.heap.size (by rfl) (.tmp 35) (.tmp 39) 27 3 5 (.int .u8 0) 1 rfl Try.underlying27 Try.underlying3 info5 rfl (by decide) (by omega) v215 t214 0 (ji16 : Int) (fun _ => True) rfl rfl rfl ?aF ?aO od_ ?aB ?aS ?aL ?_
          (case aB => exact (hb1_ HB.out GE211.out))
          (case aF => exact (fun _ _ => trivial))
          (case aO => exact (kR_ HO216.out))
          (case aS => exact (below_size (hb1_ HB.out GE211.out)))
          (case aL => have := LMc18.out; omega)
          intro v218 w27 ho hb hg hat
          rw [← Ny217.out] at ho
          have n0_ := Aside0.mk (blk_grown (g := gb211) (o := .cells #[.int .i64 a0_0, .int .i64 a0_1, .slice A0_2 l0_2.length c0_2, .slice A0_3 l0_3.length c0_3, .slice A0_4 l0_4.length c0_4, .slice A0_5 l0_5.length c0_5, .slice A0_6 l0_6.length c0_6, .bool a0_7] 31 (0, 0)) (bk_ BK211.out) hg (Kd.R_ne HO216.out BK211.out (by decide)))
          have n1_ := Aside0.mk (hb)
          have n2_ := Aside0.mk (ho)
          clear BK211
          clear HB
          clear HO216
          have BK211 := n0_
          have HB := n1_
          have HO219 := n2_
          clear n0_ n1_ n2_
          clear ho hb hg hat
          refine hK.out _ _ ⟨(blk_cell BK211.out 0).trans rfl, (blk_cell BK211.out 1).trans rfl, (blk_cell BK211.out 2).trans rfl, (blk_cell BK211.out 3).trans rfl, (blk_cell BK211.out 4).trans rfl, (blk_cell BK211.out 5).trans rfl, (blk_cell BK211.out 6).trans rfl, (blk_cell BK211.out 7).trans rfl⟩ (fun hHeld => ?_)
          clear hK K
          refine norm_ (a' := ?_) ?_ ?_
          rotate_left
          ·
           show Act.put _ (some 40) _ = _
           simp only [Act.put, setIfInBounds_toArray, set_cons_zero, set_cons_succ, i64_w, i32_w]
           rfl
          refine pure_ (i := 7) (N := some 10) (v := ?_) (a' := ?_) #[true,true,true,true,true,true,true,true] rfl rfl (any_of HT_.out (by kernel_rfl)) (fun _ _ _ h => h) (Or.inl ⟨by rfl, ?_⟩) ?_ ?_
          rotate_left
          ·
           intro w'
           go_simp
           with_reducible rfl
          rotate_left
          ·
           simp only [Act.put, setIfInBounds_toArray, set_cons_zero, set_cons_succ, i64_w, i32_w]
           rfl
          refine done_ (done_of HT_.out (by kernel_rfl)) ?_
          have hcz28_0 : w27.cell? ⟨gb211, 0, none⟩ = some (.int .i64 a0_0) := (blk_cell BK211.out 0).trans rfl
          have hcz28_1 : w27.cell? ⟨gb211, 1, none⟩ = some (.int .i64 a0_1) := (blk_cell BK211.out 1).trans rfl
          have hcz28_2 : w27.cell? ⟨gb211, 2, none⟩ = some (.slice A0_2 l0_2.length c0_2) := (blk_cell BK211.out 2).trans rfl
          have hcz28_3 : w27.cell? ⟨gb211, 3, none⟩ = some (.slice A0_3 l0_3.length c0_3) := (blk_cell BK211.out 3).trans rfl
          have hcz28_4 : w27.cell? ⟨gb211, 4, none⟩ = some (.slice A0_4 l0_4.length c0_4) := (blk_cell BK211.out 4).trans rfl
          have hcz28_5 : w27.cell? ⟨gb211, 5, none⟩ = some (.slice A0_5 l0_5.length c0_5) := (blk_cell BK211.out 5).trans rfl
          have hcz28_6 : w27.cell? ⟨gb211, 6, none⟩ = some (.slice A0_6 l0_6.length c0_6) := (blk_cell BK211.out 6).trans rfl
          have hcz28_7 : w27.cell? ⟨gb211, 7, none⟩ = some (.bool a0_7) := (blk_cell BK211.out 7).trans rfl
          have hfz28_0 := blk_frozen BK211.out 0
          have hfz28_1 := blk_frozen BK211.out 1
          have hfz28_2 := blk_frozen BK211.out 2
          have hfz28_3 := blk_frozen BK211.out 3
          have hfz28_4 := blk_frozen BK211.out 4
          have hfz28_5 := blk_frozen BK211.out 5
          have hfz28_6 := blk_frozen BK211.out 6
          have hfz28_7 := blk_frozen BK211.out 7
          obtain ⟨Ao29, co29, eo29⟩ := Kd.R_slice HO219.out
          subst eo29
          try go_wp2_with (first | ((with_reducible refine gate_callee (f := 51) rfl ?_); refine goesL_ (some 44) rfl rfl Try.func51 (by kernel_rfl) rfl #[.slice Ao29 y217.length co29, .slice A0_2 l0_2.length c0_2] rfl (by (try simp only [List.map_toArray, List.map_cons, List.map_nil]); first | done | rfl | (simp only [List.length_drop, List.length_take]; rfl)) ?_; (with_reducible refine (mask_Fits.calls kj9 _ _ y217 _ _ l0_2 true _ ?side1 ?side2 ?side3 ?side4 A19.out).mono ?_); (case side1 => repeat (first | exact (Kd.R_reads' HO219.out).2.2 | (with_reducible refine Kd.C_alloc ?_ _) | (with_reducible refine Kd.C_drewN ?_ _) | (with_reducible refine Kd.C_drew ?_))); (case side2 => exact (Kd.R_reads' HO219.out).2.1); (case side3 => repeat (first | exact (Kd.C_below HR0_2.out HB.out) | (with_reducible refine Kd.C_alloc ?_ _) | (with_reducible refine Kd.C_drewN ?_ _) | (with_reducible refine Kd.C_drew ?_))); (case side4 => exact HC0_2.out); rintro e w30 ⟨rfl, hb⟩; refine ⟨_, rfl, ?_⟩; have n0_ := Aside0.mk (Kd.R_below (kR_ HO219.out) hb); have n1_ := Aside0.mk (blk_below (g := gb211) (o := .cells #[.int .i64 a0_0, .int .i64 a0_1, .slice A0_2 l0_2.length c0_2, .slice A0_3 l0_3.length c0_3, .slice A0_4 l0_4.length c0_4, .slice A0_5 l0_5.length c0_5, .slice A0_6 l0_6.length c0_6, .bool a0_7] 31 (0, 0)) (bk_ BK211.out) hb); have n2_ := Aside0.mk (below_step (hb1_ HB.out GE211.out) hb); clear HO219 BK211 HB; have HO219 := n0_; have BK211 := n1_; have HB := n2_; clear n0_ n1_ n2_; (try clear hb); (try clear hb2); (try clear hk); (try clear hi); have hcz31_0 : w30.cell? ⟨gb211, 0, none⟩ = some (.int .i64 a0_0) := (blk_cell BK211.out 0).trans rfl; have hcz31_1 : w30.cell? ⟨gb211, 1, none⟩ = some (.int .i64 a0_1) := (blk_cell BK211.out 1).trans rfl; have hcz31_2 : w30.cell? ⟨gb211, 2, none⟩ = some (.slice A0_2 l0_2.length c0_2) := (blk_cell BK211.out 2).trans rfl; have hcz31_3 : w30.cell? ⟨gb211, 3, none⟩ = some (.slice A0_3 l0_3.length c0_3) := (blk_cell BK211.out 3).trans rfl; have hcz31_4 : w30.cell? ⟨gb211, 4, none⟩ = some (.slice A0_4 l0_4.length c0_4) := (blk_cell BK211.out 4).trans rfl; have hcz31_5 : w30.cell? ⟨gb211, 5, none⟩ = some (.slice A0_5 l0_5.length c0_5) := (blk_cell BK211.out 5).trans rfl; have hcz31_6 : w30.cell? ⟨gb211, 6, none⟩ = some (.slice A0_6 l0_6.length c0_6) := (blk_cell BK211.out 6).trans rfl; have hcz31_7 : w30.cell? ⟨gb211, 7, none⟩ = some (.bool a0_7) := (blk_cell BK211.out 7).trans rfl; have hfz31_0 := blk_frozen BK211.out 0; have hfz31_1 := blk_frozen BK211.out 1; have hfz31_2 := blk_frozen BK211.out 2; have hfz31_3 := blk_frozen BK211.out 3; have hfz31_4 := blk_frozen BK211.out 4; have hfz31_5 := blk_frozen BK211.out 5; have hfz31_6 := blk_frozen BK211.out 6; have hfz31_7 := blk_frozen BK211.out 7) | (go_at_call 49; (with_reducible refine (mask_Clear.calls kj9 _ _ y217 _ _ l0_6 t221 _ ?side1 ?side2 ?side3 ?side4 A21.out).mono ?_); (case side1 => repeat (first | exact (Kd.R_reads' HO219.out).2.2 | (with_reducible refine Kd.C_alloc ?_ _) | (with_reducible refine Kd.C_drewN ?_ _) | (with_reducible refine Kd.C_drew ?_))); (case side2 => exact (Kd.R_reads' HO219.out).2.1); (case side3 => repeat (first | exact (Kd.C_below HR0_6.out HB.out) | (with_reducible refine Kd.C_alloc ?_ _) | (with_reducible refine Kd.C_drewN ?_ _) | (with_reducible refine Kd.C_drew ?_))); (case side4 => exact HC0_6.out); rintro e w32 ⟨v222, rfl, ho0, hb⟩; have n0_ := Aside0.mk (Kd.R_elder' (kR_ HO219.out) (Kd.R_base ho0) hb); have n1_ := Aside0.mk (Kd.R_lower (Kd.R_new' ho0 (Kd.R_lt (kR_ HO219.out))) (below_size (hb1_ HB.out GE211.out))); have n2_ := Aside0.mk (blk_below (g := gb211) (o := .cells #[.int .i64 a0_0, .int .i64 a0_1, .slice A0_2 l0_2.length c0_2, .slice A0_3 l0_3.length c0_3, .slice A0_4 l0_4.length c0_4, .slice A0_5 l0_5.length c0_5, .slice A0_6 l0_6.length c0_6, .bool a0_7] 31 (0, 0)) (bk_ BK211.out) hb); have n3_ := Aside0.mk (below_step (hb1_ HB.out GE211.out) hb); clear HO219 BK211 HB; have HO219 := n0_; have HO223 := n1_; have BK211 := n2_; have HB := n3_; clear n0_ n1_ n2_ n3_; (try clear hb); (try clear hb2); (try clear hk); (try clear hi); (try clear ho0); obtain ⟨Ao33, co33, eo33⟩ := Kd.R_slice HO223.out; subst eo33) | (go_at_call 82; (with_reducible refine (slices_Equal_byte_byte.calls kj9 _ _ t221 _ _ y217 true _ ?side1 ?side2 ?side3 ?side4 A22.out).mono ?_); (case side1 => repeat (first | exact (Kd.R_reads' HO223.out).2.2 | (with_reducible refine Kd.C_alloc ?_ _) | (with_reducible refine Kd.C_drewN ?_ _) | (with_reducible refine Kd.C_drew ?_))); (case side2 => exact (Kd.R_reads' HO223.out).2.1); (case side3 => repeat (first | exact (Kd.R_reads' HO219.out).2.2 | (with_reducible refine Kd.C_alloc ?_ _) | (with_reducible refine Kd.C_drewN ?_ _) | (with_reducible refine Kd.C_drew ?_))); (case side4 => exact (Kd.R_reads' HO219.out).2.1); rintro e w' ⟨rfl, ⟨nd, rfl⟩⟩; have hcz34_0 : w32.cell? ⟨gb211, 0, none⟩ = some (.int .i64 a0_0) := (blk_cell BK211.out 0).trans rfl; have hcz34_1 : w32.cell? ⟨gb211, 1, none⟩ = some (.int .i64 a0_1) := (blk_cell BK211.out 1).trans rfl; have hcz34_2 : w32.cell? ⟨gb211, 2, none⟩ = some (.slice A0_2 l0_2.length c0_2) := (blk_cell BK211.out 2).trans rfl; have hcz34_3 : w32.cell? ⟨gb211, 3, none⟩ = some (.slice A0_3 l0_3.length c0_3) := (blk_cell BK211.out 3).trans rfl; have hcz34_4 : w32.cell? ⟨gb211, 4, none⟩ = some (.slice A0_4 l0_4.length c0_4) := (blk_cell BK211.out 4).trans rfl; have hcz34_5 : w32.cell? ⟨gb211, 5, none⟩ = some (.slice A0_5 l0_5.length c0_5) := (blk_cell BK211.out 5).trans rfl; have hcz34_6 : w32.cell? ⟨gb211, 6, none⟩ = some (.slice A0_6 l0_6.length c0_6) := (blk_cell BK211.out 6).trans rfl; have hcz34_7 : w32.cell? ⟨gb211, 7, none⟩ = some (.bool a0_7) := (blk_cell BK211.out 7).trans rfl; have hfz34_0 := blk_frozen BK211.out 0; have hfz34_1 := blk_frozen BK211.out 1; have hfz34_2 := blk_frozen BK211.out 2; have hfz34_3 := blk_frozen BK211.out 3; have hfz34_4 := blk_frozen BK211.out 4; have hfz34_5 := blk_frozen BK211.out 5; have hfz34_6 := blk_frozen BK211.out 6; have hfz34_7 := blk_frozen BK211.out 7) | ((with_reducible refine gate_callee (f := 47) rfl ?_); refine goesL_ (some 59) rfl rfl Try.func47 (by kernel_rfl) rfl #[.slice Ao29 y217.length co29, .slice A0_6 l0_6.length c0_6, .int .i64 a1] rfl (by (try simp only [List.map_toArray, List.map_cons, List.map_nil]); first | done | rfl | (simp only [List.length_drop, List.length_take]; rfl)) ?_; (with_reducible refine (mask_Put.calls kj9 _ _ y217 _ _ l0_6 a1 t225 _ ?side1 ?side2 ?side3 ?side4 A24.out).mono ?_); (case side1 => repeat (first | exact (Kd.R_reads' HO219.out).2.2 | (with_reducible refine Kd.C_alloc ?_ _) | (with_reducible refine Kd.C_drewN ?_ _) | (with_reducible refine Kd.C_drew ?_))); (case side2 => exact (Kd.R_reads' HO219.out).2.1); (case side3 => repeat (first | exact (Kd.C_below HR0_6.out (hb1_ HB.out GE211.out)) | (with_reducible refine Kd.C_alloc ?_ _) | (with_reducible refine Kd.C_drewN ?_ _) | (with_reducible refine Kd.C_drew ?_))); (case side4 => exact HC0_6.out); rintro e w35 ⟨v226, rfl, ho0, hb⟩; refine ⟨_, rfl, ?_⟩; have n0_ := Aside0.mk (Kd.R_elder' (kR_ HO219.out) (Kd.R_base ho0) hb); have n1_ := Aside0.mk (Kd.R_elder' (kR_ HO223.out) (Kd.R_base ho0) hb); have n2_ := Aside0.mk (Kd.R_lower (Kd.R_new' (Kd.R_new' ho0 (Kd.R_lt (kR_ HO219.out))) (Kd.R_lt (kR_ HO223.out))) (below_size (hb1_ HB.out GE211.out))); have n3_ := Aside0.mk (blk_below (g := gb211) (o := .cells #[.int .i64 a0_0, .int .i64 a0_1, .slice A0_2 l0_2.length c0_2, .slice A0_3 l0_3.length c0_3, .slice A0_4 l0_4.length c0_4, .slice A0_5 l0_5.length c0_5, .slice A0_6 l0_6.length c0_6, .bool a0_7] 31 (0, 0)) (bk_ BK211.out) hb); have n4_ := Aside0.mk (below_step (hb1_ HB.out GE211.out) hb); clear HO219 HO223 BK211 HB; have HO219 := n0_; have HO223 := n1_; have HO227 := n2_; have BK211 := n3_; have HB := n4_; clear n0_ n1_ n2_ n3_ n4_; (try clear hb); (try clear hb2); (try clear hk); (try clear hi); (try clear ho0)))
          go_ret2
          exact ⟨_, by first | rfl | (simp [errW_none, errW_some] <;> rfl) | (simp only [← hji16]; first | rfl | (simp [errW_none, errW_some] <;> rfl)) | (simp [*, errW_none, errW_some] <;> rfl), by (with_reducible repeat (first | apply Kd.R_alloc | apply Kd.R_drewN | apply Kd.R_drew)); exact Kd.R_mono HO227.out (fun _ hk => trivial), by repeat (first | (with_reducible first | exact HB.out | apply below_alloc | apply pw_below_drewN | apply below_drew1 | refine below_set ?_ GE211.out) | exact HB.out)⟩
         ·
          replace c23 := Bool.eq_false_iff.mpr c23
          subst c23
          have H1 : (some (([] : List Int), 21)) = some (r1, r2) := by rw [if_neg (show ¬ (false = true) by decide)] at H; exact H
          clear H
          have H := H1
          clear H1
          simp only [Option.some.injEq, Prod.mk.injEq] at H
          obtain ⟨rfl, rfl⟩ := H
          try go_wp2
          have n0_ := Aside0.mk (blk_drew BK211.out)
          have n1_ := Aside0.mk (below_drew1 HB.out)
          clear BK211
          clear HB
          have BK211 := n0_
          have HB := n1_
          clear n0_ n1_
          refine start_ (n := 8) (S := fun w' => w'.cell? ⟨gb211, 0, none⟩ = some (.int .i64 a0_0) ∧ w'.cell? ⟨gb211, 1, none⟩ = some (.int .i64 a0_1) ∧ w'.cell? ⟨gb211, 2, none⟩ = some (.slice A0_2 l0_2.length c0_2) ∧ w'.cell? ⟨gb211, 3, none⟩ = some (.slice A0_3 l0_3.length c0_3) ∧ w'.cell? ⟨gb211, 4, none⟩ = some (.slice A0_4 l0_4.length c0_4) ∧ w'.cell? ⟨gb211, 5, none⟩ = some (.slice A0_5 l0_5.length c0_5) ∧ w'.cell? ⟨gb211, 6, none⟩ = some (.slice A0_6 l0_6.length c0_6) ∧ w'.cell? ⟨gb211, 7, none⟩ = some (.bool a0_7)) (ds := []) #[false,false,false,false,false,false,false,false] (by kernel_rfl) rfl rfl ⟨(blk_cell BK211.out 0).trans rfl, (blk_cell BK211.out 1).trans rfl, (blk_cell BK211.out 2).trans rfl, (blk_cell BK211.out 3).trans rfl, (blk_cell BK211.out 4).trans rfl, (blk_cell BK211.out 5).trans rfl, (blk_cell BK211.out 6).trans rfl, (blk_cell BK211.out 7).trans rfl⟩ (fun hHeld => ?_); refine with_tabW sum_Inject.tab6 sum_Inject.bits6 (fun HT_ HW_ => ?_)
          generalize wc.drew = w36 at BK211 HB hHeld ⊢
          refine pure_ (i := 0) (N := some 34) (v := ?_) (a' := ?_) #[true,false,false,false,false,false,false,false] rfl rfl (any_of HT_.out (by kernel_rfl)) (fun _ _ _ h => h) (Or.inl ⟨by rfl, ?_⟩) ?_ ?_
          rotate_left
          ·
           intro w'
           go_simp
           with_reducible rfl
          rotate_left
          ·
           simp only [Act.put, setIfInBounds_toArray, set_cons_zero, set_cons_succ, i64_w, i32_w]
           rfl
          refine pure_ (i := 2) (N := some 36) (v := ?_) (a' := ?_) #[true,false,true,false,false,false,false,false] rfl rfl (any_of HT_.out (by kernel_rfl)) (fun _ _ _ h => h) (Or.inl ⟨by rfl, ?_⟩) ?_ ?_
          rotate_left
          ·
           intro w'
           go_simp
           with_reducible rfl
          rotate_left
          ·
           simp only [Act.put, setIfInBounds_toArray, set_cons_zero, set_cons_succ, i64_w, i32_w]
           rfl
          refine pure_ (i := 4) (N := some 38) (v := ?_) (a' := ?_) #[true,false,true,false,true,false,false,false] rfl rfl (any_of HT_.out (by kernel_rfl)) (fun _ _ _ h => h) (Or.inl ⟨by rfl, ?_⟩) ?_ ?_
          rotate_left
          ·
           intro w'
           go_simp
           with_reducible rfl
          rotate_left
          ·
           simp only [Act.put, setIfInBounds_toArray, set_cons_zero, set_cons_succ, i64_w, i32_w]
           rfl
          refine take_ (i := 3) (N := some 37) (v := ?_) (a' := ?_) #[true,false,true,true,true,false,false,false] rfl rfl (take_ofW HT_.out HW_.out (by kernel_rfl)) (fun _ _ _ h => h) (Or.inl ⟨by rfl, ?_⟩) hHeld ?_ ?_
          rotate_left
          ·
           rintro w' ⟨s0, s1, s2, s3, s4, s5, s6, s7⟩
           go_simp
           with_reducible rfl
          rotate_left
          ·
           simp only [Act.put, setIfInBounds_toArray, set_cons_zero, set_cons_succ, i64_w, i32_w]
           rfl
          refine pure_ (i := 5) (N := some 39) (v := ?_) (a' := ?_) #[true,false,true,true,true,true,false,false] rfl rfl (any_of HT_.out (by kernel_rfl)) (fun _ _ _ h => h) (Or.inl ⟨by rfl, ?_⟩) ?_ ?_
          rotate_left
          ·
           intro w'
           go_simp
           with_reducible rfl
          rotate_left
          ·
           simp only [Act.put, setIfInBounds_toArray, set_cons_zero, set_cons_succ, i64_w, i32_w]
           rfl
          refine one_ (i := 1) (N := some 35) #[true,true,true,true,true,true,false,false] rfl rfl (one_of HT_.out (by kernel_rfl)) (by decide) (fun K hK => ?_)
          refine goes_ Try.func81 (by kernel_rfl) rfl #[.slice A2 l2.length c2] (by rfl) rfl rfl (by (try simp only [List.map_toArray, List.map_cons, List.map_nil]); first | done | rfl | (simp only [List.length_drop, List.length_take]; rfl)) ?_
          with_reducible refine (CloneB.calls _ _ l2 t214 _ ?side1 ?side2 A15.out).mono ?_
          (case side1 => repeat (first | exact (Kd.C_below HR2.out HB.out) | (with_reducible refine Kd.C_alloc ?_ _) | (with_reducible refine Kd.C_drewN ?_ _) | (with_reducible refine Kd.C_drew ?_)))
          (case side2 => exact HC2.out)
          rintro e w37 ⟨v215, rfl, ho0, hb⟩
          refine ⟨_, rfl, ?_⟩
          have n0_ := Aside0.mk (Kd.R_lower ho0 (below_size (hb1_ HB.out GE211.out)))
          have n1_ := Aside0.mk (blk_below (g := gb211) (o := .cells #[.int .i64 a0_0, .int .i64 a0_1, .slice A0_2 l0_2.length c0_2, .slice A0_3 l0_3.length c0_3, .slice A0_4 l0_4.length c0_4, .slice A0_5 l0_5.length c0_5, .slice A0_6 l0_6.length c0_6, .bool a0_7] 31 (0, 0)) (bk_ BK211.out) hb)
          have n2_ := Aside0.mk (below_step (hb1_ HB.out GE211.out) hb)
          clear BK211
          clear HB
          have HO216 := n0_
          have BK211 := n1_
          have HB := n2_
          clear n0_ n1_ n2_
          (try clear hb)
          (try clear hb2)
          (try clear hk)
          (try clear hi)
          (try clear ho0)
          refine hK.out _ _ ⟨(blk_cell BK211.out 0).trans rfl, (blk_cell BK211.out 1).trans rfl, (blk_cell BK211.out 2).trans rfl, (blk_cell BK211.out 3).trans rfl, (blk_cell BK211.out 4).trans rfl, (blk_cell BK211.out 5).trans rfl, (blk_cell BK211.out 6).trans rfl, (blk_cell BK211.out 7).trans rfl⟩ (fun hHeld => ?_)
          clear hK K
          refine norm_ (a' := ?_) ?_ ?_
          rotate_left
          ·
           show Act.put _ (some 35) _ = _
           simp only [Act.put, setIfInBounds_toArray, set_cons_zero, set_cons_succ, i64_w, i32_w]
           rfl
          refine one_ (i := 6) (N := some 40) #[true,true,true,true,true,true,true,false] rfl rfl (one_of HT_.out (by kernel_rfl)) (by decide) (fun K hK => ?_)
          refine Kd.R_append_zeros_step (Kd.int .u8) (w0 := w) w.heap.size (by rfl) (.tmp 35) (.tmp 39) 27 3 5 (.int .u8 0) 1 rfl Try.underlying27 Try.underlying3 info5 rfl (by decide) (by omega) v215 t214 0 (ji16 : Int) (fun _ => True) rfl rfl rfl ?aF ?aO od_ ?aB ?aS ?aL ?_
          (case aB => exact (hb1_ HB.out GE211.out))
          (case aF => exact (fun _ _ => trivial))
          (case aO => exact (kR_ HO216.out))
          (case aS => exact (below_size (hb1_ HB.out GE211.out)))
          (case aL => have := LMc18.out; omega)
          intro v218 w38 ho hb hg hat
          rw [← Ny217.out] at ho
          have n0_ := Aside0.mk (blk_grown (g := gb211) (o := .cells #[.int .i64 a0_0, .int .i64 a0_1, .slice A0_2 l0_2.length c0_2, .slice A0_3 l0_3.length c0_3, .slice A0_4 l0_4.length c0_4, .slice A0_5 l0_5.length c0_5, .slice A0_6 l0_6.length c0_6, .bool a0_7] 31 (0, 0)) (bk_ BK211.out) hg (Kd.R_ne HO216.out BK211.out (by decide)))
          have n1_ := Aside0.mk (hb)
          have n2_ := Aside0.mk (ho)
          clear BK211
          clear HB
          clear HO216
          have BK211 := n0_
          have HB := n1_
          have HO219 := n2_
          clear n0_ n1_ n2_
          clear ho hb hg hat
          refine hK.out _ _ ⟨(blk_cell BK211.out 0).trans rfl, (blk_cell BK211.out 1).trans rfl, (blk_cell BK211.out 2).trans rfl, (blk_cell BK211.out 3).trans rfl, (blk_cell BK211.out 4).trans rfl, (blk_cell BK211.out 5).trans rfl, (blk_cell BK211.out 6).trans rfl, (blk_cell BK211.out 7).trans rfl⟩ (fun hHeld => ?_)
          clear hK K
          refine norm_ (a' := ?_) ?_ ?_
          rotate_left
          ·
           show Act.put _ (some 40) _ = _
           simp only [Act.put, setIfInBounds_toArray, set_cons_zero, set_cons_succ, i64_w, i32_w]
           rfl
          refine pure_ (i := 7) (N := some 10) (v := ?_) (a' := ?_) #[true,true,true,true,true,true,true,true] rfl rfl (any_of HT_.out (by kernel_rfl)) (fun _ _ _ h => h) (Or.inl ⟨by rfl, ?_⟩) ?_ ?_
          rotate_left
          ·
           intro w'
           go_simp
           with_reducible rfl
          rotate_left
          ·
           simp only [Act.put, setIfInBounds_toArray, set_cons_zero, set_cons_succ, i64_w, i32_w]
           rfl
          refine done_ (done_of HT_.out (by kernel_rfl)) ?_
          have hcz39_0 : w38.cell? ⟨gb211, 0, none⟩ = some (.int .i64 a0_0) := (blk_cell BK211.out 0).trans rfl
          have hcz39_1 : w38.cell? ⟨gb211, 1, none⟩ = some (.int .i64 a0_1) := (blk_cell BK211.out 1).trans rfl
          have hcz39_2 : w38.cell? ⟨gb211, 2, none⟩ = some (.slice A0_2 l0_2.length c0_2) := (blk_cell BK211.out 2).trans rfl
          have hcz39_3 : w38.cell? ⟨gb211, 3, none⟩ = some (.slice A0_3 l0_3.length c0_3) := (blk_cell BK211.out 3).trans rfl
          have hcz39_4 : w38.cell? ⟨gb211, 4, none⟩ = some (.slice A0_4 l0_4.length c0_4) := (blk_cell BK211.out 4).trans rfl
          have hcz39_5 : w38.cell? ⟨gb211, 5, none⟩ = some (.slice A0_5 l0_5.length c0_5) := (blk_cell BK211.out 5).trans rfl
          have hcz39_6 : w38.cell? ⟨gb211, 6, none⟩ = some (.slice A0_6 l0_6.length c0_6) := (blk_cell BK211.out 6).trans rfl
          have hcz39_7 : w38.cell? ⟨gb211, 7, none⟩ = some (.bool a0_7) := (blk_cell BK211.out 7).trans rfl
          have hfz39_0 := blk_frozen BK211.out 0
          have hfz39_1 := blk_frozen BK211.out 1
          have hfz39_2 := blk_frozen BK211.out 2
          have hfz39_3 := blk_frozen BK211.out 3
          have hfz39_4 := blk_frozen BK211.out 4
          have hfz39_5 := blk_frozen BK211.out 5
          have hfz39_6 := blk_frozen BK211.out 6
          have hfz39_7 := blk_frozen BK211.out 7
          obtain ⟨Ao40, co40, eo40⟩ := Kd.R_slice HO219.out
          subst eo40
          try go_wp2_with (first | ((with_reducible refine gate_callee (f := 51) rfl ?_); refine goesL_ (some 44) rfl rfl Try.func51 (by kernel_rfl) rfl #[.slice Ao40 y217.length co40, .slice A0_2 l0_2.length c0_2] rfl (by (try simp only [List.map_toArray, List.map_cons, List.map_nil]); first | done | rfl | (simp only [List.length_drop, List.length_take]; rfl)) ?_; (with_reducible refine (mask_Fits.calls kj9 _ _ y217 _ _ l0_2 true _ ?side1 ?side2 ?side3 ?side4 A19.out).mono ?_); (case side1 => repeat (first | exact (Kd.R_reads' HO219.out).2.2 | (with_reducible refine Kd.C_alloc ?_ _) | (with_reducible refine Kd.C_drewN ?_ _) | (with_reducible refine Kd.C_drew ?_))); (case side2 => exact (Kd.R_reads' HO219.out).2.1); (case side3 => repeat (first | exact (Kd.C_below HR0_2.out HB.out) | (with_reducible refine Kd.C_alloc ?_ _) | (with_reducible refine Kd.C_drewN ?_ _) | (with_reducible refine Kd.C_drew ?_))); (case side4 => exact HC0_2.out); rintro e w41 ⟨rfl, hb⟩; refine ⟨_, rfl, ?_⟩; have n0_ := Aside0.mk (Kd.R_below (kR_ HO219.out) hb); have n1_ := Aside0.mk (blk_below (g := gb211) (o := .cells #[.int .i64 a0_0, .int .i64 a0_1, .slice A0_2 l0_2.length c0_2, .slice A0_3 l0_3.length c0_3, .slice A0_4 l0_4.length c0_4, .slice A0_5 l0_5.length c0_5, .slice A0_6 l0_6.length c0_6, .bool a0_7] 31 (0, 0)) (bk_ BK211.out) hb); have n2_ := Aside0.mk (below_step (hb1_ HB.out GE211.out) hb); clear HO219 BK211 HB; have HO219 := n0_; have BK211 := n1_; have HB := n2_; clear n0_ n1_ n2_; (try clear hb); (try clear hb2); (try clear hk); (try clear hi); have hcz42_0 : w41.cell? ⟨gb211, 0, none⟩ = some (.int .i64 a0_0) := (blk_cell BK211.out 0).trans rfl; have hcz42_1 : w41.cell? ⟨gb211, 1, none⟩ = some (.int .i64 a0_1) := (blk_cell BK211.out 1).trans rfl; have hcz42_2 : w41.cell? ⟨gb211, 2, none⟩ = some (.slice A0_2 l0_2.length c0_2) := (blk_cell BK211.out 2).trans rfl; have hcz42_3 : w41.cell? ⟨gb211, 3, none⟩ = some (.slice A0_3 l0_3.length c0_3) := (blk_cell BK211.out 3).trans rfl; have hcz42_4 : w41.cell? ⟨gb211, 4, none⟩ = some (.slice A0_4 l0_4.length c0_4) := (blk_cell BK211.out 4).trans rfl; have hcz42_5 : w41.cell? ⟨gb211, 5, none⟩ = some (.slice A0_5 l0_5.length c0_5) := (blk_cell BK211.out 5).trans rfl; have hcz42_6 : w41.cell? ⟨gb211, 6, none⟩ = some (.slice A0_6 l0_6.length c0_6) := (blk_cell BK211.out 6).trans rfl; have hcz42_7 : w41.cell? ⟨gb211, 7, none⟩ = some (.bool a0_7) := (blk_cell BK211.out 7).trans rfl; have hfz42_0 := blk_frozen BK211.out 0; have hfz42_1 := blk_frozen BK211.out 1; have hfz42_2 := blk_frozen BK211.out 2; have hfz42_3 := blk_frozen BK211.out 3; have hfz42_4 := blk_frozen BK211.out 4; have hfz42_5 := blk_frozen BK211.out 5; have hfz42_6 := blk_frozen BK211.out 6; have hfz42_7 := blk_frozen BK211.out 7) | (go_at_call 49; (with_reducible refine (mask_Clear.calls kj9 _ _ y217 _ _ l0_6 t221 _ ?side1 ?side2 ?side3 ?side4 A21.out).mono ?_); (case side1 => repeat (first | exact (Kd.R_reads' HO219.out).2.2 | (with_reducible refine Kd.C_alloc ?_ _) | (with_reducible refine Kd.C_drewN ?_ _) | (with_reducible refine Kd.C_drew ?_))); (case side2 => exact (Kd.R_reads' HO219.out).2.1); (case side3 => repeat (first | exact (Kd.C_below HR0_6.out HB.out) | (with_reducible refine Kd.C_alloc ?_ _) | (with_reducible refine Kd.C_drewN ?_ _) | (with_reducible refine Kd.C_drew ?_))); (case side4 => exact HC0_6.out); rintro e w43 ⟨v222, rfl, ho0, hb⟩; have n0_ := Aside0.mk (Kd.R_elder' (kR_ HO219.out) (Kd.R_base ho0) hb); have n1_ := Aside0.mk (Kd.R_lower (Kd.R_new' ho0 (Kd.R_lt (kR_ HO219.out))) (below_size (hb1_ HB.out GE211.out))); have n2_ := Aside0.mk (blk_below (g := gb211) (o := .cells #[.int .i64 a0_0, .int .i64 a0_1, .slice A0_2 l0_2.length c0_2, .slice A0_3 l0_3.length c0_3, .slice A0_4 l0_4.length c0_4, .slice A0_5 l0_5.length c0_5, .slice A0_6 l0_6.length c0_6, .bool a0_7] 31 (0, 0)) (bk_ BK211.out) hb); have n3_ := Aside0.mk (below_step (hb1_ HB.out GE211.out) hb); clear HO219 BK211 HB; have HO219 := n0_; have HO223 := n1_; have BK211 := n2_; have HB := n3_; clear n0_ n1_ n2_ n3_; (try clear hb); (try clear hb2); (try clear hk); (try clear hi); (try clear ho0); obtain ⟨Ao44, co44, eo44⟩ := Kd.R_slice HO223.out; subst eo44) | (go_at_call 82; (with_reducible refine (slices_Equal_byte_byte.calls kj9 _ _ t221 _ _ y217 false _ ?side1 ?side2 ?side3 ?side4 A22.out).mono ?_); (case side1 => repeat (first | exact (Kd.R_reads' HO223.out).2.2 | (with_reducible refine Kd.C_alloc ?_ _) | (with_reducible refine Kd.C_drewN ?_ _) | (with_reducible refine Kd.C_drew ?_))); (case side2 => exact (Kd.R_reads' HO223.out).2.1); (case side3 => repeat (first | exact (Kd.R_reads' HO219.out).2.2 | (with_reducible refine Kd.C_alloc ?_ _) | (with_reducible refine Kd.C_drewN ?_ _) | (with_reducible refine Kd.C_drew ?_))); (case side4 => exact (Kd.R_reads' HO219.out).2.1); rintro e w' ⟨rfl, ⟨nd, rfl⟩⟩))
          go_ret2
          exact ⟨_, by first | rfl | (simp [errW_none, errW_some] <;> rfl) | (simp only [← hji16]; first | rfl | (simp [errW_none, errW_some] <;> rfl)) | (simp [*, errW_none, errW_some] <;> rfl), by first | exact Kd.R_nil _ _ _ _ _ | exact Kd.N_nil _ _ _ _ _ | exact Kd.V_nil _ _ _ _ _ | exact Kd.Q_nil _ _ _ _ _ | exact Kd.S_nil _ _ _ _ _, by repeat (first | (with_reducible first | exact HB.out | apply below_alloc | apply pw_below_drewN | apply below_drew1 | refine below_set ?_ GE211.out) | exact HB.out)⟩
        ·
         replace c20 := Bool.eq_false_iff.mpr c20
         subst c20
         have H1 : (some (([] : List Int), 21)) = some (r1, r2) := by rw [if_neg (show ¬ (false = true) by decide)] at H; exact H
         clear H
         have H := H1
         clear H1
         simp only [Option.some.injEq, Prod.mk.injEq] at H
         obtain ⟨rfl, rfl⟩ := H
         try go_wp2
         have n0_ := Aside0.mk (blk_drew BK211.out)
         have n1_ := Aside0.mk (below_drew1 HB.out)
         clear BK211
         clear HB
         have BK211 := n0_
         have HB := n1_
         clear n0_ n1_
         refine start_ (n := 8) (S := fun w' => w'.cell? ⟨gb211, 0, none⟩ = some (.int .i64 a0_0) ∧ w'.cell? ⟨gb211, 1, none⟩ = some (.int .i64 a0_1) ∧ w'.cell? ⟨gb211, 2, none⟩ = some (.slice A0_2 l0_2.length c0_2) ∧ w'.cell? ⟨gb211, 3, none⟩ = some (.slice A0_3 l0_3.length c0_3) ∧ w'.cell? ⟨gb211, 4, none⟩ = some (.slice A0_4 l0_4.length c0_4) ∧ w'.cell? ⟨gb211, 5, none⟩ = some (.slice A0_5 l0_5.length c0_5) ∧ w'.cell? ⟨gb211, 6, none⟩ = some (.slice A0_6 l0_6.length c0_6) ∧ w'.cell? ⟨gb211, 7, none⟩ = some (.bool a0_7)) (ds := []) #[false,false,false,false,false,false,false,false] (by kernel_rfl) rfl rfl ⟨(blk_cell BK211.out 0).trans rfl, (blk_cell BK211.out 1).trans rfl, (blk_cell BK211.out 2).trans rfl, (blk_cell BK211.out 3).trans rfl, (blk_cell BK211.out 4).trans rfl, (blk_cell BK211.out 5).trans rfl, (blk_cell BK211.out 6).trans rfl, (blk_cell BK211.out 7).trans rfl⟩ (fun hHeld => ?_); refine with_tabW sum_Inject.tab6 sum_Inject.bits6 (fun HT_ HW_ => ?_)
         generalize wc.drew = w45 at BK211 HB hHeld ⊢
         refine pure_ (i := 0) (N := some 34) (v := ?_) (a' := ?_) #[true,false,false,false,false,false,false,false] rfl rfl (any_of HT_.out (by kernel_rfl)) (fun _ _ _ h => h) (Or.inl ⟨by rfl, ?_⟩) ?_ ?_
         rotate_left
         ·
          intro w'
          go_simp
          with_reducible rfl
         rotate_left
         ·
          simp only [Act.put, setIfInBounds_toArray, set_cons_zero, set_cons_succ, i64_w, i32_w]
          rfl
         refine pure_ (i := 2) (N := some 36) (v := ?_) (a' := ?_) #[true,false,true,false,false,false,false,false] rfl rfl (any_of HT_.out (by kernel_rfl)) (fun _ _ _ h => h) (Or.inl ⟨by rfl, ?_⟩) ?_ ?_
         rotate_left
         ·
          intro w'
          go_simp
          with_reducible rfl
         rotate_left
         ·
          simp only [Act.put, setIfInBounds_toArray, set_cons_zero, set_cons_succ, i64_w, i32_w]
          rfl
         refine pure_ (i := 4) (N := some 38) (v := ?_) (a' := ?_) #[true,false,true,false,true,false,false,false] rfl rfl (any_of HT_.out (by kernel_rfl)) (fun _ _ _ h => h) (Or.inl ⟨by rfl, ?_⟩) ?_ ?_
         rotate_left
         ·
          intro w'
          go_simp
          with_reducible rfl
         rotate_left
         ·
          simp only [Act.put, setIfInBounds_toArray, set_cons_zero, set_cons_succ, i64_w, i32_w]
          rfl
         refine take_ (i := 3) (N := some 37) (v := ?_) (a' := ?_) #[true,false,true,true,true,false,false,false] rfl rfl (take_ofW HT_.out HW_.out (by kernel_rfl)) (fun _ _ _ h => h) (Or.inl ⟨by rfl, ?_⟩) hHeld ?_ ?_
         rotate_left
         ·
          rintro w' ⟨s0, s1, s2, s3, s4, s5, s6, s7⟩
          go_simp
          with_reducible rfl
         rotate_left
         ·
          simp only [Act.put, setIfInBounds_toArray, set_cons_zero, set_cons_succ, i64_w, i32_w]
          rfl
         refine pure_ (i := 5) (N := some 39) (v := ?_) (a' := ?_) #[true,false,true,true,true,true,false,false] rfl rfl (any_of HT_.out (by kernel_rfl)) (fun _ _ _ h => h) (Or.inl ⟨by rfl, ?_⟩) ?_ ?_
         rotate_left
         ·
          intro w'
          go_simp
          with_reducible rfl
         rotate_left
         ·
          simp only [Act.put, setIfInBounds_toArray, set_cons_zero, set_cons_succ, i64_w, i32_w]
          rfl
         refine one_ (i := 1) (N := some 35) #[true,true,true,true,true,true,false,false] rfl rfl (one_of HT_.out (by kernel_rfl)) (by decide) (fun K hK => ?_)
         refine goes_ Try.func81 (by kernel_rfl) rfl #[.slice A2 l2.length c2] (by rfl) rfl rfl (by (try simp only [List.map_toArray, List.map_cons, List.map_nil]); first | done | rfl | (simp only [List.length_drop, List.length_take]; rfl)) ?_
         with_reducible refine (CloneB.calls _ _ l2 t214 _ ?side1 ?side2 A15.out).mono ?_
         (case side1 => repeat (first | exact (Kd.C_below HR2.out HB.out) | (with_reducible refine Kd.C_alloc ?_ _) | (with_reducible refine Kd.C_drewN ?_ _) | (with_reducible refine Kd.C_drew ?_)))
         (case side2 => exact HC2.out)
         rintro e w46 ⟨v215, rfl, ho0, hb⟩
         refine ⟨_, rfl, ?_⟩
         have n0_ := Aside0.mk (Kd.R_lower ho0 (below_size (hb1_ HB.out GE211.out)))
         have n1_ := Aside0.mk (blk_below (g := gb211) (o := .cells #[.int .i64 a0_0, .int .i64 a0_1, .slice A0_2 l0_2.length c0_2, .slice A0_3 l0_3.length c0_3, .slice A0_4 l0_4.length c0_4, .slice A0_5 l0_5.length c0_5, .slice A0_6 l0_6.length c0_6, .bool a0_7] 31 (0, 0)) (bk_ BK211.out) hb)
         have n2_ := Aside0.mk (below_step (hb1_ HB.out GE211.out) hb)
         clear BK211
         clear HB
         have HO216 := n0_
         have BK211 := n1_
         have HB := n2_
         clear n0_ n1_ n2_
         (try clear hb)
         (try clear hb2)
         (try clear hk)
         (try clear hi)
         (try clear ho0)
         refine hK.out _ _ ⟨(blk_cell BK211.out 0).trans rfl, (blk_cell BK211.out 1).trans rfl, (blk_cell BK211.out 2).trans rfl, (blk_cell BK211.out 3).trans rfl, (blk_cell BK211.out 4).trans rfl, (blk_cell BK211.out 5).trans rfl, (blk_cell BK211.out 6).trans rfl, (blk_cell BK211.out 7).trans rfl⟩ (fun hHeld => ?_)
         clear hK K
         refine norm_ (a' := ?_) ?_ ?_
         rotate_left
         ·
          show Act.put _ (some 35) _ = _
          simp only [Act.put, setIfInBounds_toArray, set_cons_zero, set_cons_succ, i64_w, i32_w]
          rfl
         refine one_ (i := 6) (N := some 40) #[true,true,true,true,true,true,true,false] rfl rfl (one_of HT_.out (by kernel_rfl)) (by decide) (fun K hK => ?_)
         refine Kd.R_append_zeros_step (Kd.int .u8) (w0 := w) w.heap.size (by rfl) (.tmp 35) (.tmp 39) 27 3 5 (.int .u8 0) 1 rfl Try.underlying27 Try.underlying3 info5 rfl (by decide) (by omega) v215 t214 0 (ji16 : Int) (fun _ => True) rfl rfl rfl ?aF ?aO od_ ?aB ?aS ?aL ?_
         (case aB => exact (hb1_ HB.out GE211.out))
         (case aF => exact (fun _ _ => trivial))
         (case aO => exact (kR_ HO216.out))
         (case aS => exact (below_size (hb1_ HB.out GE211.out)))
         (case aL => have := LMc18.out; omega)
         intro v218 w47 ho hb hg hat
         rw [← Ny217.out] at ho
         have n0_ := Aside0.mk (blk_grown (g := gb211) (o := .cells #[.int .i64 a0_0, .int .i64 a0_1, .slice A0_2 l0_2.length c0_2, .slice A0_3 l0_3.length c0_3, .slice A0_4 l0_4.length c0_4, .slice A0_5 l0_5.length c0_5, .slice A0_6 l0_6.length c0_6, .bool a0_7] 31 (0, 0)) (bk_ BK211.out) hg (Kd.R_ne HO216.out BK211.out (by decide)))
         have n1_ := Aside0.mk (hb)
         have n2_ := Aside0.mk (ho)
         clear BK211
         clear HB
         clear HO216
         have BK211 := n0_
         have HB := n1_
         have HO219 := n2_
         clear n0_ n1_ n2_
         clear ho hb hg hat
         refine hK.out _ _ ⟨(blk_cell BK211.out 0).trans rfl, (blk_cell BK211.out 1).trans rfl, (blk_cell BK211.out 2).trans rfl, (blk_cell BK211.out 3).trans rfl, (blk_cell BK211.out 4).trans rfl, (blk_cell BK211.out 5).trans rfl, (blk_cell BK211.out 6).trans rfl, (blk_cell BK211.out 7).trans rfl⟩ (fun hHeld => ?_)
         clear hK K
         refine norm_ (a' := ?_) ?_ ?_
         rotate_left
         ·
          show Act.put _ (some 40) _ = _
          simp only [Act.put, setIfInBounds_toArray, set_cons_zero, set_cons_succ, i64_w, i32_w]
          rfl
         refine pure_ (i := 7) (N := some 10) (v := ?_) (a' := ?_) #[true,true,true,true,true,true,true,true] rfl rfl (any_of HT_.out (by kernel_rfl)) (fun _ _ _ h => h) (Or.inl ⟨by rfl, ?_⟩) ?_ ?_
         rotate_left
         ·
          intro w'
          go_simp
          with_reducible rfl
         rotate_left
         ·
          simp only [Act.put, setIfInBounds_toArray, set_cons_zero, set_cons_succ, i64_w, i32_w]
          rfl
         refine done_ (done_of HT_.out (by kernel_rfl)) ?_
         have hcz48_0 : w47.cell? ⟨gb211, 0, none⟩ = some (.int .i64 a0_0) := (blk_cell BK211.out 0).trans rfl
         have hcz48_1 : w47.cell? ⟨gb211, 1, none⟩ = some (.int .i64 a0_1) := (blk_cell BK211.out 1).trans rfl
         have hcz48_2 : w47.cell? ⟨gb211, 2, none⟩ = some (.slice A0_2 l0_2.length c0_2) := (blk_cell BK211.out 2).trans rfl
         have hcz48_3 : w47.cell? ⟨gb211, 3, none⟩ = some (.slice A0_3 l0_3.length c0_3) := (blk_cell BK211.out 3).trans rfl
         have hcz48_4 : w47.cell? ⟨gb211, 4, none⟩ = some (.slice A0_4 l0_4.length c0_4) := (blk_cell BK211.out 4).trans rfl
         have hcz48_5 : w47.cell? ⟨gb211, 5, none⟩ = some (.slice A0_5 l0_5.length c0_5) := (blk_cell BK211.out 5).trans rfl
         have hcz48_6 : w47.cell? ⟨gb211, 6, none⟩ = some (.slice A0_6 l0_6.length c0_6) := (blk_cell BK211.out 6).trans rfl
         have hcz48_7 : w47.cell? ⟨gb211, 7, none⟩ = some (.bool a0_7) := (blk_cell BK211.out 7).trans rfl
         have hfz48_0 := blk_frozen BK211.out 0
         have hfz48_1 := blk_frozen BK211.out 1
         have hfz48_2 := blk_frozen BK211.out 2
         have hfz48_3 := blk_frozen BK211.out 3
         have hfz48_4 := blk_frozen BK211.out 4
         have hfz48_5 := blk_frozen BK211.out 5
         have hfz48_6 := blk_frozen BK211.out 6
         have hfz48_7 := blk_frozen BK211.out 7
         obtain ⟨Ao49, co49, eo49⟩ := Kd.R_slice HO219.out
         subst eo49
         try go_wp2_with (first | ((with_reducible refine gate_callee (f := 51) rfl ?_); refine goesL_ (some 44) rfl rfl Try.func51 (by kernel_rfl) rfl #[.slice Ao49 y217.length co49, .slice A0_2 l0_2.length c0_2] rfl (by (try simp only [List.map_toArray, List.map_cons, List.map_nil]); first | done | rfl | (simp only [List.length_drop, List.length_take]; rfl)) ?_; (with_reducible refine (mask_Fits.calls kj9 _ _ y217 _ _ l0_2 false _ ?side1 ?side2 ?side3 ?side4 A19.out).mono ?_); (case side1 => repeat (first | exact (Kd.R_reads' HO219.out).2.2 | (with_reducible refine Kd.C_alloc ?_ _) | (with_reducible refine Kd.C_drewN ?_ _) | (with_reducible refine Kd.C_drew ?_))); (case side2 => exact (Kd.R_reads' HO219.out).2.1); (case side3 => repeat (first | exact (Kd.C_below HR0_2.out HB.out) | (with_reducible refine Kd.C_alloc ?_ _) | (with_reducible refine Kd.C_drewN ?_ _) | (with_reducible refine Kd.C_drew ?_))); (case side4 => exact HC0_2.out); rintro e w50 ⟨rfl, hb⟩; refine ⟨_, rfl, ?_⟩; have n0_ := Aside0.mk (Kd.R_below (kR_ HO219.out) hb); have n1_ := Aside0.mk (blk_below (g := gb211) (o := .cells #[.int .i64 a0_0, .int .i64 a0_1, .slice A0_2 l0_2.length c0_2, .slice A0_3 l0_3.length c0_3, .slice A0_4 l0_4.length c0_4, .slice A0_5 l0_5.length c0_5, .slice A0_6 l0_6.length c0_6, .bool a0_7] 31 (0, 0)) (bk_ BK211.out) hb); have n2_ := Aside0.mk (below_step (hb1_ HB.out GE211.out) hb); clear HO219 BK211 HB; have HO219 := n0_; have BK211 := n1_; have HB := n2_; clear n0_ n1_ n2_; (try clear hb); (try clear hb2); (try clear hk); (try clear hi)))
         go_ret2
         exact ⟨_, by first | rfl | (simp [errW_none, errW_some] <;> rfl) | (simp only [← hji16]; first | rfl | (simp [errW_none, errW_some] <;> rfl)) | (simp [*, errW_none, errW_some] <;> rfl), by first | exact Kd.R_nil _ _ _ _ _ | exact Kd.N_nil _ _ _ _ _ | exact Kd.V_nil _ _ _ _ _ | exact Kd.Q_nil _ _ _ _ _ | exact Kd.S_nil _ _ _ _ _, by repeat (first | (with_reducible first | exact HB.out | apply below_alloc | apply pw_below_drewN | apply below_drew1 | refine below_set ?_ GE211.out) | exact HB.out)⟩
       ·
        rw [if_neg c17] at H
        exact absurd H (by simp)

end Go.Proofs.Ytpcephbhnbfcmaa.C
