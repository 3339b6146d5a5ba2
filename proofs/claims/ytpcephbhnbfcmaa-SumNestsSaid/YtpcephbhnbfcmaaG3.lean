-- Written by this session's program fork.py: a Lean function for each Go function and its walk. Not trusted: Lean checks it.
import Derived.Test.YtpcephbhnbfcmaaG0
namespace Go.Proofs.Ytpcephbhnbfcmaa.G
open Go.RowKit Go.Proofs.YtpcephbhnbfcmaaW.PrintWords Go.Proofs.YtpcephbhnbfcmaaW.PrintLast Go.Proofs.YtpcephbhnbfcmaaW.PrintMore
attribute [local go_sem] max2_int min2_int max_two min_two max_three min_three max_four min_four   -- for this text's walks alone
set_option linter.unusedVariables false
set_option linter.unusedSimpArgs false

/-! ### sum_Pointer: function 37 -/
def sum_Pointer.f  : Option (Int × Int × List Int × List Int × (List (S101)) × (List (S79)) × List Int × Bool) := some (8, 8, (([7, 0, 0, 0, 0, 0, 255, 255] : List Int)), ([] : List Int), ([] : List (S101)), ([] : List (S79)), ([] : List Int), true)
set_option maxHeartbeats 8000000 in
set_option maxRecDepth 100000 in
theorem sum_Pointer.calls  (r1 : Int) (r2 : Int) (r3 : List Int) (r4 : List Int) (r5 : List (S101)) (r6 : List (S79)) (r7 : List Int) (r8 : Bool) (w : World) (h : sum_Pointer.f  = some (r1, r2, r3, r4, r5, r6, r7, r8)) :
  Calls Try.prog 37 #[] w fun e w' => ∃ v2_ v3_ v4_ v5_ v6_ : Value, e = .returned (.agg #[.int .i64 r1, .int .i64 r2, v2_, v3_, v4_, v5_, v6_, .bool r8]) ∧ Kd.R (Kd.int .u8) 5 w' w.heap.size (fun _ => True) v2_ r3 ∧ Kd.R (Kd.int .i64) 3 w' w.heap.size (fun k_ => some k_ ≠ (v6_ : Value).ownBlock) v3_ r4 ∧ Kd.R k101 101 w' w.heap.size (fun _ => True) v4_ r5 ∧ Kd.R k79 79 w' w.heap.size (fun k_ => some k_ ≠ (v3_ : Value).ownBlock ∧ some k_ ≠ (v4_ : Value).ownBlock ∧ some k_ ≠ (v6_ : Value).ownBlock) v5_ r6 ∧ Kd.R (Kd.int .i64) 3 w' w.heap.size (fun k_ => some k_ ≠ (v3_ : Value).ownBlock) v6_ r7 ∧ Below w.heap.size w w' := by
 have hu31 := Try.underlying31
 have HB := Aside0.mk (Below.refl w.heap.size w)
 have H : (some (8, 8, (([7, 0, 0, 0, 0, 0, 255, 255] : List Int)), ([] : List Int), ([] : List (S101)), ([] : List (S79)), ([] : List Int), true)) = some (r1, r2, r3, r4, r5, r6, r7, r8) := h
 clear h
 obtain ⟨y120, hy120⟩ : ∃ y_ : List Int, y_ = (([7, 0, 0, 0, 0, 0, 255, 255] : List Int)) := ⟨_, rfl⟩
 replace H : (some (8, 8, y120, ([] : List Int), ([] : List (S101)), ([] : List (S79)), ([] : List Int), true)) = some (r1, r2, r3, r4, r5, r6, r7, r8) := by first | (rw [hy120]; with_reducible exact H) | (have H2_ := (Option.bind_some _ _).symm.trans H; rw [hy120]; with_reducible exact H2_) | (have H2_ := (Option.bind_some _ _).symm.trans H; with_reducible exact H2_) | with_reducible exact H | (rw [hy120]; exact H) | exact H
 have Ny120 := Aside0.mk hy120
 clear hy120
 simp only [Option.some.injEq, Prod.mk.injEq] at H
 obtain ⟨rfl, rfl, rfl, rfl, rfl, rfl, rfl, rfl⟩ := H
 go_enter Try.func37, Try.ntmps37
 go_wp2_with (first | ((with_reducible refine gate_dst (N := 0) rfl ?_); refine box_event ?hg (N := 0) ?hd (cs := #[.int .i64 0, .int .i64 0, .slice none 0 0, .slice none 0 0, .slice none 0 0, .slice none 0 0, .slice none 0 0, .bool false]) (t := 31) ?hr ?_; (case hd => rfl); (case hg => rfl); (case hr => first | (go_simp; done) | (go_simp; rfl)); intro gb119 hg w1 hbox hb; have n0_ := Aside0.mk (below_step (hb0_ HB.out) hb); have n1_ := Aside0.mk (hbox); have n2_ := Aside0.mk ((by rw [hg]; exact (below_size (hb0_ HB.out)) : w.heap.size ≤ gb119)); have n3_ := Aside0.mk ((by rw [hg]; exact (below_size (hb0_ HB.out)) : w.heap.size ≤ gb119)); clear HB; revert n0_ n1_ n2_ n3_; intro HB BK119 GW119 GE119; clear hb hbox hg) | ((with_reducible refine gate_dst (N := 1) rfl ?_); refine Kd.R_lit (Kd.int .u8) _ 5 ?hg (N := 1) ?hd (xs := ([7, 0, 0, 0, 0, 0, 255, 255] : List Int)) (inner := [.int .u8 7, .int .u8 0, .int .u8 0, .int .u8 0, .int .u8 0, .int .u8 0, .int .u8 255, .int .u8 255]) (ok := fun _ => True) (okp := fun _ => True) ?hr ?hp (fun _ hk => hk) trivial (Below.refl _ _) (Nat.le_refl _) (by simp) ?_; (case hd => rfl); (case hg => rfl); (case hr => first | (go_simp; done) | (go_simp; rfl)); (case hp => exact (Reps.one (show Kd.M (Kd.int .u8) _ _ _ 7 [.int .u8 7] from rfl) (Reps.one (show Kd.M (Kd.int .u8) _ _ _ 0 [.int .u8 0] from rfl) (Reps.one (show Kd.M (Kd.int .u8) _ _ _ 0 [.int .u8 0] from rfl) (Reps.one (show Kd.M (Kd.int .u8) _ _ _ 0 [.int .u8 0] from rfl) (Reps.one (show Kd.M (Kd.int .u8) _ _ _ 0 [.int .u8 0] from rfl) (Reps.one (show Kd.M (Kd.int .u8) _ _ _ 0 [.int .u8 0] from rfl) (Reps.one (show Kd.M (Kd.int .u8) _ _ _ 255 [.int .u8 255] from rfl) (Reps.one (show Kd.M (Kd.int .u8) _ _ _ 255 [.int .u8 255] from rfl) (Reps.none _ _)))))))))); intro v121 w2 ho3 hb hg_ hnew_; clear hg_ hnew_; (first | rw [← Ny120.out] at ho3 | (simp only [Int.reduceToNat] at ho3; rw [← Ny120.out] at ho3)); have n0_ := Aside0.mk (Kd.R_lower ho3 (below_size (hb1_ HB.out GE119.out))); have n1_ := Aside0.mk (blk_below (g := gb119) (o := .cells #[.int .i64 0, .int .i64 0, .slice none 0 0, .slice none 0 0, .slice none 0 0, .slice none 0 0, .slice none 0 0, .bool false] 31 (0, 0)) (bk_ BK119.out) hb); have n2_ := Aside0.mk (below_step (hb1_ HB.out GE119.out) hb); clear BK119 HB; revert n0_ n1_ n2_; intro HO122 BK119 HB; clear hb ho3; obtain ⟨Ao4, co4, eo4⟩ := Kd.R_slice HO122.out; subst eo4; obtain ⟨hcz5_0, hcz5_1, hcz5_2, hcz5_3, hcz5_4, hcz5_5, hcz5_6, hcz5_7, hfz5_0, hfz5_1, hfz5_2, hfz5_3, hfz5_4, hfz5_5, hfz5_6, hfz5_7⟩ := bx8_ BK119.out))
 refine bodyPost_ret (results_cell_row rfl _ _ gb119 31 #[.int .i64 8, .int .i64 8, .slice Ao4 y120.length co4, .slice none 0 0, .slice none 0 0, .slice none 0 0, .slice none 0 0, .bool true] (0, 0) _ rfl (by (with_reducible repeat (first | refine blk_drewN ?_ _ | refine blk_drew ?_ | refine blk_alloc ?_ _)); refine blk_put (cs := #[.int .i64 8, .int .i64 8, .slice Ao4 y120.length co4, .slice none 0 0, .slice none 0 0, .slice none 0 0, .slice none 0 0, .bool false]) ?_ 7 _ rfl; (with_reducible repeat (first | refine blk_drewN ?_ _ | refine blk_drew ?_ | refine blk_alloc ?_ _)); refine blk_put (cs := #[.int .i64 8, .int .i64 8, .slice Ao4 y120.length co4, .slice none 0 0, .slice none 0 0, .slice none 0 0, .slice none 0 0, .bool false]) ?_ 6 _ rfl; (with_reducible repeat (first | refine blk_drewN ?_ _ | refine blk_drew ?_ | refine blk_alloc ?_ _)); refine blk_put (cs := #[.int .i64 8, .int .i64 8, .slice Ao4 y120.length co4, .slice none 0 0, .slice none 0 0, .slice none 0 0, .slice none 0 0, .bool false]) ?_ 5 _ rfl; (with_reducible repeat (first | refine blk_drewN ?_ _ | refine blk_drew ?_ | refine blk_alloc ?_ _)); refine blk_put (cs := #[.int .i64 8, .int .i64 8, .slice Ao4 y120.length co4, .slice none 0 0, .slice none 0 0, .slice none 0 0, .slice none 0 0, .bool false]) ?_ 4 _ rfl; (with_reducible repeat (first | refine blk_drewN ?_ _ | refine blk_drew ?_ | refine blk_alloc ?_ _)); refine blk_put (cs := #[.int .i64 8, .int .i64 8, .slice Ao4 y120.length co4, .slice none 0 0, .slice none 0 0, .slice none 0 0, .slice none 0 0, .bool false]) ?_ 3 _ rfl; (with_reducible repeat (first | refine blk_drewN ?_ _ | refine blk_drew ?_ | refine blk_alloc ?_ _)); refine blk_put (cs := #[.int .i64 8, .int .i64 8, .slice none 0 0, .slice none 0 0, .slice none 0 0, .slice none 0 0, .slice none 0 0, .bool false]) ?_ 2 _ rfl; (with_reducible repeat (first | refine blk_drewN ?_ _ | refine blk_drew ?_ | refine blk_alloc ?_ _)); refine blk_put (cs := #[.int .i64 8, .int .i64 0, .slice none 0 0, .slice none 0 0, .slice none 0 0, .slice none 0 0, .slice none 0 0, .bool false]) ?_ 1 _ rfl; (with_reducible repeat (first | refine blk_drewN ?_ _ | refine blk_drew ?_ | refine blk_alloc ?_ _)); refine blk_put (cs := #[.int .i64 0, .int .i64 0, .slice none 0 0, .slice none 0 0, .slice none 0 0, .slice none 0 0, .slice none 0 0, .bool false]) ?_ 0 _ rfl; (with_reducible repeat (first | refine blk_drewN ?_ _ | refine blk_drew ?_ | refine blk_alloc ?_ _)); exact BK119.out) Try.underlying31 rfl (by kernel_rfl)) rfl ?_
 exact ⟨_, _, _, _, _, by first | rfl | (simp [errW_none, errW_some] <;> rfl) | (simp [*, errW_none, errW_some] <;> rfl), by (with_reducible repeat (first | apply Kd.R_alloc | apply Kd.R_drewN | apply Kd.R_drew)); exact Kd.R_mono (Kd.R_far (p := ⟨gb119, 7, none⟩) (Kd.R_far (p := ⟨gb119, 6, none⟩) (Kd.R_far (p := ⟨gb119, 5, none⟩) (Kd.R_far (p := ⟨gb119, 4, none⟩) (Kd.R_far (p := ⟨gb119, 3, none⟩) (Kd.R_far (p := ⟨gb119, 2, none⟩) (Kd.R_far (p := ⟨gb119, 1, none⟩) (Kd.R_far (p := ⟨gb119, 0, none⟩) (Kd.R_types HO122.out BK119.out (by decide)) (fun _ hk => hk.2) (.int .i64 8)) (fun _ hk => hk.2) (.int .i64 8)) (fun _ hk => hk.2) (.slice Ao4 y120.length co4)) (fun _ hk => hk.2) (.slice none 0 0)) (fun _ hk => hk.2) (.slice none 0 0)) (fun _ hk => hk.2) (.slice none 0 0)) (fun _ hk => hk.2) (.slice none 0 0)) (fun _ hk => hk.2) (.bool true)) (fun _ hk => trivial), by first | exact Kd.R_nil _ _ _ _ _ | exact Kd.N_nil _ _ _ _ _ | exact Kd.V_nil _ _ _ _ _ | exact Kd.Q_nil _ _ _ _ _ | exact Kd.S_nil _ _ _ _ _, by first | exact Kd.R_nil _ _ _ _ _ | exact Kd.N_nil _ _ _ _ _ | exact Kd.V_nil _ _ _ _ _ | exact Kd.Q_nil _ _ _ _ _ | exact Kd.S_nil _ _ _ _ _, by first | exact Kd.R_nil _ _ _ _ _ | exact Kd.N_nil _ _ _ _ _ | exact Kd.V_nil _ _ _ _ _ | exact Kd.Q_nil _ _ _ _ _ | exact Kd.S_nil _ _ _ _ _, by first | exact Kd.R_nil _ _ _ _ _ | exact Kd.N_nil _ _ _ _ _ | exact Kd.V_nil _ _ _ _ _ | exact Kd.Q_nil _ _ _ _ _ | exact Kd.S_nil _ _ _ _ _, (hb1_ HB.out GE119.out)⟩

/-! ### sum_TagSize: function 42 -/
def sum_TagSize.l0 : Nat → Int → Int → Option (Int)
 | 0, _, _ => none
 | k + 1, x0, x3 => if x3 < 62 then (if 0 ≤ x3 then (if (shl .i64 1 x3) < x0 then (sum_TagSize.l0 k x0 (wrap64 (x3 + 1))) else (if x0 > 4611686018427387904 then (some (wrap64 (x3 + 1))) else (some x3))) else (none)) else (if x0 > 4611686018427387904 then (some (wrap64 (x3 + 1))) else (some x3))
def sum_TagSize.f (k : Nat) (a0 : Int) : Option (Int) := sum_TagSize.l0 k a0 0
theorem sum_TagSize.mono_l : ∀ k, (∀ y0 y1, LeO (sum_TagSize.l0 k y0 y1) (sum_TagSize.l0 (k + 1) y0 y1))
 | 0 => fun _ _ r h => by simp [sum_TagSize.l0] at h
 | k + 1 => by
  have ih0 := sum_TagSize.mono_l k
  ·
   intro y0 y1
   unfold sum_TagSize.l0
   repeat' first
   | (with_reducible exact ih0 _ _)
   | (with_reducible exact LeO.refl _)
   | (with_reducible exact LeO.none _)
   | (with_reducible refine LeO.ite ?_ ?_)
   | (with_reducible refine LeO.bind ?_ (fun _ => ?_))
   | exact ih0 _ _
   | exact LeO.none _
   | refine LeO.ite ?_ ?_
   | refine LeO.bind ?_ (fun _ => ?_)
theorem sum_TagSize.mono : ∀ a0 k, LeO (sum_TagSize.f k a0) (sum_TagSize.f (k + 1) a0) := by
 intro a0 k
 have ih0 := sum_TagSize.mono_l k
 unfold sum_TagSize.f
 repeat' first
   | (with_reducible exact ih0 _ _)
   | (with_reducible exact LeO.refl _)
   | (with_reducible exact LeO.none _)
   | (with_reducible refine LeO.ite ?_ ?_)
   | (with_reducible refine LeO.bind ?_ (fun _ => ?_))
   | exact ih0 _ _
   | exact LeO.none _
   | refine LeO.ite ?_ ?_
   | refine LeO.bind ?_ (fun _ => ?_)
set_option maxHeartbeats 8000000 in
set_option maxRecDepth 100000 in
theorem sum_TagSize.calls (k : Nat) (a0 : Int) (r : Int) (w : World) (h : sum_TagSize.f k a0 = some r) :
  Calls Try.prog 42 #[.int .i64 a0] w fun e w' => e = .returned (.int .i64 r) ∧ Drawn0 w w' := by
 have H : (sum_TagSize.l0 k a0 0) = some r := h
 clear h
 have H' := Aside0.mk H
 clear H
 go_enter Try.func42, Try.ntmps42
 go_wp2
 go_loopg [3] k (fun kq v3 w' => ∃ (x3_1 : Int), v3 = .int .i64 x3_1 ∧ Aside0 (sum_TagSize.l0 kq a0 x3_1 = some r) ∧ Aside0 (kq ≤ k) ∧ Drawn0 w w')
 case atStart => exact ⟨(0), (by first | rfl | (simp; done) | (simp [*]; done)), H', ⟨Nat.le_refl _⟩, by repeat (first | exact Drawn0.refl _ | apply Drawn0.step)⟩
 case round =>
  clear H'
  obtain ⟨x3_1, rfl, HA, HK1, ⟨m1, rfl⟩⟩ := hrel
  cases gk with
  | zero => exact absurd HA.out (by simp [sum_TagSize.l0])
  | succ k1 =>
   have H := HA.out
   clear HA
   simp only [sum_TagSize.l0] at H
   by_cases c2 : x3_1 < 62
   ·
    rw [if_pos c2] at H
    have c2b0 : decide (x3_1 < 62) = true := decide_eq_true c2
    clear c2
    by_cases c3 : 0 ≤ x3_1
    rotate_left
    ·
     rw [if_neg c3] at H
     exact absurd H (by simp)
    rw [if_pos c3] at H
    have c3b0 := eq_true c3
    have c3b1 : decide (0 ≤ x3_1) = true := decide_eq_true c3
    clear c3
    obtain ⟨ji4, hji4⟩ : ∃ j_ : Int, (shl .i64 1 x3_1) = j_ := ⟨_, rfl⟩
    replace H : (if (ji4) < a0 then (sum_TagSize.l0 k1 a0 (wrap64 (x3_1 + 1))) else (if a0 > 4611686018427387904 then (some (wrap64 (x3_1 + 1))) else (some x3_1))) = some r := by first | (rw [hji4] at H; exact H) | (simp only [hji4] at H ⊢; exact H)
    have hji4_ : (IntKind.i64.wrap (1 * 2 ^ min x3_1.toNat 64)) = ji4 := hji4
    have hji4z : x3_1 ≤ 64 → (IntKind.i64.wrap (1 * 2 ^ x3_1.toNat)) = ji4 := shl_small hji4
    have hji4u : (IntKind.i64.wrap (2 ^ min x3_1.toNat 64)) = ji4 := by have h_ := hji4_; rw [Int.one_mul] at h_; exact h_
    have hji4v : x3_1 ≤ 64 → (IntKind.i64.wrap (2 ^ x3_1.toNat)) = ji4 := fun hle_ => by have h_ := hji4z hle_; rw [Int.one_mul] at h_; exact h_
    have hji4y : (wrap64 (1 * 2 ^ min x3_1.toNat 64)) = ji4 := (i64_w _).symm.trans hji4_
    have hji4x : x3_1 ≤ 64 → (wrap64 (1 * 2 ^ x3_1.toNat)) = ji4 := fun h_ => (i64_w _).symm.trans (hji4z h_)
    by_cases c5 : (ji4) < a0
    ·
     rw [if_pos c5] at H
     have c5b0 : decide ((ji4) < a0) = true := decide_eq_true c5
     clear c5
     have H' := Aside0.mk H
     clear H
     go_wp2
     go_roundg k1
     case measure => have := HK1.out; omega
     case rel => exact ⟨(wrap64 (x3_1 + 1)), (by first | rfl | (simp; done) | (simp [*]; done)), H', ⟨by have := HK1.out; omega⟩, by repeat (first | exact Drawn0.refl _ | apply Drawn0.step)⟩
    ·
     rw [if_neg c5] at H
     have c5b0 : decide ((ji4) < a0) = false := decide_eq_false c5
     clear c5
     by_cases c6 : a0 > 4611686018427387904
     ·
      rw [if_pos c6] at H
      have c6b0 : decide (4611686018427387904 < a0) = true := decide_eq_true c6
      clear c6
      obtain rfl := Option.some.inj H
      go_wp2
      go_ret
      exact ⟨by first | rfl | (simp; done) | (simp only [← hji4] <;> (first | rfl | simp)) | (simp [*]; done), by repeat (first | exact Drawn0.refl _ | apply Drawn0.step)⟩
     ·
      rw [if_neg c6] at H
      have c6b0 : decide (4611686018427387904 < a0) = false := decide_eq_false c6
      clear c6
      obtain rfl := Option.some.inj H
      go_wp2
      go_ret
      exact ⟨by first | rfl | (simp; done) | (simp only [← hji4] <;> (first | rfl | simp)) | (simp [*]; done), by repeat (first | exact Drawn0.refl _ | apply Drawn0.step)⟩
   ·
    rw [if_neg c2] at H
    have c2b0 : decide (x3_1 < 62) = false := decide_eq_false c2
    clear c2
    by_cases c7 : a0 > 4611686018427387904
    ·
     rw [if_pos c7] at H
     have c7b0 : decide (4611686018427387904 < a0) = true := decide_eq_true c7
     clear c7
     obtain rfl := Option.some.inj H
     go_wp2
     go_ret
     exact ⟨by first | rfl | (simp; done) | (simp [*]; done), by repeat (first | exact Drawn0.refl _ | apply Drawn0.step)⟩
    ·
     rw [if_neg c7] at H
     have c7b0 : decide (4611686018427387904 < a0) = false := decide_eq_false c7
     clear c7
     obtain rfl := Option.some.inj H
     go_wp2
     go_ret
     exact ⟨by first | rfl | (simp; done) | (simp [*]; done), by repeat (first | exact Drawn0.refl _ | apply Drawn0.step)⟩

/-! ### Ones8: function 86 (by hand) -/
def ones (x : Nat) : Nat := x % 2 + x / 2 % 2 + x / 4 % 2 + x / 8 % 2 + x / 16 % 2 + x / 32 % 2 + x / 64 % 2 + x / 128 % 2
set_option maxRecDepth 100000 in
theorem ones_eq : ∀ n : Fin 256, Lib.onesCount n.val = ones n.val := by decide +kernel
def Ones8.f (a0 : Int) : Option Int := if 0 ≤ a0 then if a0 < 256 then some ((ones a0.toNat : Nat) : Int) else none else none
set_option maxRecDepth 100000 in
theorem Ones8.calls (a0 : Int) (r : Int) (w : World) (h : Ones8.f a0 = some r) :
    Calls Try.prog 86 #[.int .u8 a0] w fun e w' => e = .returned (.int .i64 r) ∧ Drawn0 w w' := by
  unfold Ones8.f at h
  by_cases h0 : 0 ≤ a0
  · rw [if_pos h0] at h
    by_cases h1 : a0 < 256
    · rw [if_pos h1] at h
      obtain rfl := Option.some.inj h
      clear h
      have h2 : a0 ≤ 255 := by omega
      have he : ones a0.toNat = Lib.onesCount a0.toNat := (ones_eq ⟨a0.toNat, by omega⟩).symm
      have hp : wrap64 (Lib.pop8 a0) = ((Lib.onesCount a0.toNat : Nat) : Int) := by
        have hp0 := Lib.pop8_int a0 h0 h2
        unfold wrap64
        exact hp0
      rw [he, ← hp]
      clear he h1 hp
      go_enter Try.func86, Try.ntmps86
      go_wp2
      go_ret
      exact ⟨rfl, Drawn0.refl _⟩
    · rw [if_neg h1] at h
      exact absurd h (by simp)
  · rw [if_neg h0] at h
    exact absurd h (by simp)

/-! ### mask_Count: function 45 -/
def mask_Count.l0 : Nat → Int → List Int → Int → Int → Option (Int)
 | 0, _, _, _, _ => none
 | k + 1, x3, x6, x7, x8 => if x8 < x7 then (if 0 ≤ x8 then (if x8 < (x6.length : Int) then ((Ones8.f (rd x6 x8)).bind fun t124 => (mask_Count.l0 k (wrap64 (x3 + t124)) x6 x7 (wrap64 (x8 + 1)))) else (none)) else (none)) else (some x3)
def mask_Count.f (k : Nat) (l0 : List Int) : Option (Int) := mask_Count.l0 k 0 l0 (l0.length : Int) 0
theorem mask_Count.mono_l : ∀ k, (∀ y0 y1 y2 y3, LeO (mask_Count.l0 k y0 y1 y2 y3) (mask_Count.l0 (k + 1) y0 y1 y2 y3))
 | 0 => fun _ _ _ _ r h => by simp [mask_Count.l0] at h
 | k + 1 => by
  have ih0 := mask_Count.mono_l k
  ·
   intro y0 y1 y2 y3
   unfold mask_Count.l0
   repeat' first
   | (with_reducible exact ih0 _ _ _ _)
   | (with_reducible exact LeO.refl _)
   | (with_reducible exact LeO.none _)
   | (with_reducible refine LeO.ite ?_ ?_)
   | (with_reducible refine LeO.bind ?_ (fun _ => ?_))
   | exact ih0 _ _ _ _
   | exact LeO.none _
   | refine LeO.ite ?_ ?_
   | refine LeO.bind ?_ (fun _ => ?_)
theorem mask_Count.mono : ∀ a0 k, LeO (mask_Count.f k a0) (mask_Count.f (k + 1) a0) := by
 intro a0 k
 have ih0 := mask_Count.mono_l k
 unfold mask_Count.f
 repeat' first
   | (with_reducible exact ih0 _ _ _ _)
   | (with_reducible exact LeO.refl _)
   | (with_reducible exact LeO.none _)
   | (with_reducible refine LeO.ite ?_ ?_)
   | (with_reducible refine LeO.bind ?_ (fun _ => ?_))
   | exact ih0 _ _ _ _
   | exact LeO.none _
   | refine LeO.ite ?_ ?_
   | refine LeO.bind ?_ (fun _ => ?_)
set_option maxHeartbeats 8000000 in
set_option maxRecDepth 100000 in
theorem mask_Count.calls (k : Nat) (A0 : Option Addr) (c0 : Nat) (l0 : List Int) (r : Int) (w : World) (hr0 : Kd.C (Kd.int .u8) w A0 l0.length l0) (hc0 : l0.length ≤ c0) (h : mask_Count.f k l0 = some r) :
  Calls Try.prog 45 #[.slice A0 l0.length c0] w fun e w' => e = .returned (.int .i64 r) ∧ Drawn0 w w' := by
 have HR0 := Aside0.mk hr0
 have HC0 := Aside0.mk hc0
 clear hr0 hc0
 have H : (mask_Count.l0 k 0 l0 (l0.length : Int) 0) = some r := h
 clear h
 have H' := Aside0.mk H
 clear H
 go_enter Try.func45, Try.ntmps45
 go_wp2
 go_loopg [3, 8] k (fun kq v3 v8 w' => ∃ (x3_1 : Int) (x8_1 : Int), v3 = .int .i64 x3_1 ∧ v8 = .int .i64 x8_1 ∧ Aside0 (mask_Count.l0 kq x3_1 l0 (l0.length : Int) x8_1 = some r) ∧ Aside0 (kq ≤ k) ∧ Drawn0 w w')
 case atStart => exact ⟨(0), (0), (by first | rfl | (simp; done) | (simp [*]; done)), (by first | rfl | (simp; done) | (simp [*]; done)), H', ⟨Nat.le_refl _⟩, by repeat (first | exact Drawn0.refl _ | apply Drawn0.step)⟩
 case round =>
  clear H'
  obtain ⟨x3_1, x8_1, rfl, rfl, HA, HK1, ⟨m1, rfl⟩⟩ := hrel
  cases gk with
  | zero => exact absurd HA.out (by simp [mask_Count.l0])
  | succ k1 =>
   have H := HA.out
   clear HA
   simp only [mask_Count.l0] at H
   by_cases c2 : x8_1 < (l0.length : Int)
   ·
    rw [if_pos c2] at H
    have c2b0 : decide (x8_1 < (l0.length : Int)) = true := decide_eq_true c2
    clear c2
    by_cases c3 : 0 ≤ x8_1
    rotate_left
    ·
     rw [if_neg c3] at H
     exact absurd H (by simp)
    rw [if_pos c3] at H
    have c3b0 : decide (0 ≤ x8_1) = true := decide_eq_true c3
    clear c3
    by_cases c4 : x8_1 < (l0.length : Int)
    rotate_left
    ·
     rw [if_neg c4] at H
     exact absurd H (by simp)
    rw [if_pos c4] at H
    have c4b0 : decide (x8_1 < (l0.length : Int)) = true := decide_eq_true c4
    clear c4
    replace H := Option.bind_eq_some_iff.mp H
    obtain ⟨t124, A50, H⟩ := H
    replace H : (mask_Count.l0 k1 (wrap64 (x3_1 + t124)) l0 (l0.length : Int) (wrap64 (x8_1 + 1))) = some r := H
    have A5 := Aside0.mk A50
    clear A50
    have H' := Aside0.mk H
    clear H
    have p123 : 0 ≤ (x8_1 : Int) := od_
    have q123 : x8_1 < (l0.length : Int) := od_
    obtain ⟨ad123, e123, hx123_0⟩ := Kd.at_int HR0.out x8_1 p123 q123
    cases e123
    replace p123 := eq_true p123
    replace q123 := eq_true q123
    go_wp2_with (first | ((with_reducible refine gate_callee (f := 86) rfl ?_); refine goesL_ (some 14) rfl rfl Try.func86 (by kernel_rfl) rfl #[.int .u8 (rd l0 x8_1)] rfl (by (try simp only [List.map_toArray, List.map_cons, List.map_nil]); first | done | rfl | (simp only [List.length_drop, List.length_take]; rfl)) ?_; (with_reducible refine (Ones8.calls (rd l0 x8_1) t124 _ A5.out).mono ?_); rintro e w' ⟨rfl, ⟨nd, rfl⟩⟩; refine ⟨_, rfl, ?_⟩))
    go_roundg k1
    case measure => have := HK1.out; omega
    case rel => exact ⟨(wrap64 (x3_1 + t124)), (wrap64 (x8_1 + 1)), (by first | rfl | (simp; done) | (simp [*]; done)), (by first | rfl | (simp; done) | (simp [*]; done)), H', ⟨by have := HK1.out; omega⟩, by repeat (first | exact Drawn0.refl _ | apply Drawn0.step)⟩
   ·
    rw [if_neg c2] at H
    have c2b0 : decide (x8_1 < (l0.length : Int)) = false := decide_eq_false c2
    clear c2
    obtain rfl := Option.some.inj H
    go_wp2
    go_ret
    exact ⟨by first | rfl | (simp; done) | (simp [*]; done), by repeat (first | exact Drawn0.refl _ | apply Drawn0.step)⟩

/-! ### mask_get: function 85 -/
def mask_get.f (l0 : List Int) (a1 : Int) : Option (Bool) := if a1 ≥ 0 then (if (wrap64 (Int.tdiv a1 8)) < (l0.length : Int) then (if 0 ≤ (wrap64 (Int.tdiv a1 8)) then (if 0 ≤ (Int.tmod a1 8) then (some ((Go.bits .and .u8 (shr .u8 (rd l0 (wrap64 (Int.tdiv a1 8))) (Int.tmod a1 8)) 1) == 1)) else (none)) else (none)) else (some false)) else (some false)
set_option maxHeartbeats 8000000 in
set_option maxRecDepth 100000 in
theorem mask_get.calls (A0 : Option Addr) (c0 : Nat) (l0 : List Int) (a1 : Int) (r : Bool) (w : World) (hr0 : Kd.C (Kd.int .u8) w A0 l0.length l0) (hc0 : l0.length ≤ c0) (h : mask_get.f l0 a1 = some r) :
  Calls Try.prog 85 #[.slice A0 l0.length c0, .int .i64 a1] w fun e w' => e = .returned (.bool r) ∧ Drawn0 w w' := by
 have HR0 := Aside0.mk hr0
 have HC0 := Aside0.mk hc0
 clear hr0 hc0
 have H : (if a1 ≥ 0 then (if (wrap64 (Int.tdiv a1 8)) < (l0.length : Int) then (if 0 ≤ (wrap64 (Int.tdiv a1 8)) then (if 0 ≤ (Int.tmod a1 8) then (some ((Go.bits .and .u8 (shr .u8 (rd l0 (wrap64 (Int.tdiv a1 8))) (Int.tmod a1 8)) 1) == 1)) else (none)) else (none)) else (some false)) else (some false)) = some r := h
 clear h
 by_cases c3 : a1 ≥ 0
 ·
  rw [if_pos c3] at H
  have c3b0 : decide (0 ≤ a1) = true := decide_eq_true c3
  clear c3
  by_cases c4 : (wrap64 (Int.tdiv a1 8)) < (l0.length : Int)
  ·
   rw [if_pos c4] at H
   have c4b0 : decide ((wrap64 (Int.tdiv a1 8)) < (l0.length : Int)) = true := decide_eq_true c4
   clear c4
   obtain ⟨ji5, hji5⟩ : ∃ j_ : Int, (wrap64 (Int.tdiv a1 8)) = j_ := ⟨_, rfl⟩
   replace H : (if 0 ≤ (ji5) then (if 0 ≤ (Int.tmod a1 8) then (some ((Go.bits .and .u8 (shr .u8 (rd l0 (ji5)) (Int.tmod a1 8)) 1) == 1)) else (none)) else (none)) = some r := by first | (rw [hji5] at H; exact H) | (simp only [hji5] at H ⊢; exact H)
   (try rw [hji5] at c4b0)
   have hji5w : (IntKind.i64.wrap (Int.tdiv a1 8)) = ji5 := (i64_w _).trans hji5
   by_cases c6 : 0 ≤ (ji5)
   rotate_left
   ·
    rw [if_neg c6] at H
    exact absurd H (by simp)
   rw [if_pos c6] at H
   have c6b0 : decide (0 ≤ (ji5)) = true := decide_eq_true c6
   clear c6
   obtain ⟨ji7, hji7⟩ : ∃ j_ : Int, (Int.tmod a1 8) = j_ := ⟨_, rfl⟩
   replace H : (if 0 ≤ (ji7) then (some ((Go.bits .and .u8 (shr .u8 (rd l0 (ji5)) (ji7)) 1) == 1)) else (none)) = some r := by first | (rw [hji7] at H; exact H) | (simp only [hji7] at H ⊢; exact H)
   by_cases c8 : 0 ≤ (ji7)
   rotate_left
   ·
    rw [if_neg c8] at H
    exact absurd H (by simp)
   rw [if_pos c8] at H
   have c8b0 := eq_true c8
   have c8b1 : decide (0 ≤ (ji7)) = true := decide_eq_true c8
   clear c8
   obtain ⟨ji9, hji9⟩ : ∃ j_ : Int, (shr .u8 (rd l0 (ji5)) (ji7)) = j_ := ⟨_, rfl⟩
   replace H : (some ((Go.bits .and .u8 (ji9) 1) == 1)) = some r := by first | (rw [hji9] at H; exact H) | (simp only [hji9] at H ⊢; exact H)
   have hji9_ : ((rd l0 (ji5)) / 2 ^ min (ji7).toNat 8) = ji9 := hji9
   have hji9z : (ji7) ≤ 8 → ((rd l0 (ji5)) / 2 ^ (ji7).toNat) = ji9 := shr_small hji9
   obtain rfl := Option.some.inj H
   have p125 : 0 ≤ ((ji5) : Int) := od_
   have q125 : (ji5) < (l0.length : Int) := od_
   obtain ⟨ad125, e125, hx125_0⟩ := Kd.at_int HR0.out (ji5) p125 q125
   cases e125
   replace p125 := eq_true p125
   replace q125 := eq_true q125
   go_enter Try.func85, Try.ntmps85
   go_wp2
   go_ret
   exact ⟨by first | rfl | (simp; done) | (simp only [← hji5, ← hji7, ← hji9] <;> (first | rfl | simp)) | (simp [*]; done), by repeat (first | exact Drawn0.refl _ | apply Drawn0.step)⟩
  ·
   rw [if_neg c4] at H
   have c4b0 : decide ((wrap64 (Int.tdiv a1 8)) < (l0.length : Int)) = false := decide_eq_false c4
   clear c4
   obtain rfl := Option.some.inj H
   go_enter Try.func85, Try.ntmps85
   go_wp2
   go_ret
   exact ⟨by first | rfl | (simp; done) | (simp [*]; done), by repeat (first | exact Drawn0.refl _ | apply Drawn0.step)⟩
 ·
  rw [if_neg c3] at H
  have c3b0 : decide (0 ≤ a1) = false := decide_eq_false c3
  clear c3
  obtain rfl := Option.some.inj H
  go_enter Try.func85, Try.ntmps85
  go_wp2
  go_ret
  exact ⟨by first | rfl | (simp; done) | (simp [*]; done), by repeat (first | exact Drawn0.refl _ | apply Drawn0.step)⟩

/-! ### mask_Bits: function 44 -/
mutual
def mask_Bits.j0 : Nat → List Int → Int → Bool → Option (List Int × Bool)
 | 0, _, _, _ => none
 | k + 1, x0, x1, x15 => if x15 = true then (some (([] : List Int), false)) else (mask_Bits.l0 k x0 x1 ([] : List Int) 0)
def mask_Bits.l0 : Nat → List Int → Int → List Int → Int → Option (List Int × Bool)
 | 0, _, _, _, _ => none
 | k + 1, x0, x1, x6, x7 => if (x6.length : Int) < x1 then ((mask_get.f x0 x7).bind fun t127 => (if t127 = true then (if x6.length < 17592186044416 then (mask_Bits.l0 k x0 x1 (x6 ++ [x7]) (wrap64 (x7 + 1))) else (none)) else (mask_Bits.l0 k x0 x1 x6 (wrap64 (x7 + 1))))) else (some (x6, true))
end
def mask_Bits.f (k : Nat) (l0 : List Int) (a1 : Int) : Option (List Int × Bool) := if a1 < 0 then (mask_Bits.j0 k l0 a1 true) else ((mask_Count.f k l0).bind fun t126 => (mask_Bits.j0 k l0 a1 (decide (a1 > t126))))
theorem mask_Bits.mono_l : ∀ k, (∀ y0 y1 y2, LeO (mask_Bits.j0 k y0 y1 y2) (mask_Bits.j0 (k + 1) y0 y1 y2)) ∧ (∀ y0 y1 y2 y3, LeO (mask_Bits.l0 k y0 y1 y2 y3) (mask_Bits.l0 (k + 1) y0 y1 y2 y3))
 | 0 => ⟨fun _ _ _ r h => by simp [mask_Bits.j0] at h, fun _ _ _ _ r h => by simp [mask_Bits.l0] at h⟩
 | k + 1 => by
  obtain ⟨ih0, ih1⟩ := mask_Bits.mono_l k
  refine ⟨?_, ?_⟩
  ·
   intro y0 y1 y2
   unfold mask_Bits.j0
   repeat' first
   | (with_reducible exact ih0 _ _ _)
   | (with_reducible exact ih1 _ _ _ _)
   | (with_reducible exact mask_Count.mono _ _)
   | (with_reducible exact LeO.refl _)
   | (with_reducible exact LeO.none _)
   | (with_reducible refine LeO.ite ?_ ?_)
   | (with_reducible refine LeO.bind ?_ (fun _ => ?_))
   | exact ih0 _ _ _
   | exact ih1 _ _ _ _
   | exact mask_Count.mono _ _
   | exact LeO.none _
   | refine LeO.ite ?_ ?_
   | refine LeO.bind ?_ (fun _ => ?_)
  ·
   intro y0 y1 y2 y3
   unfold mask_Bits.l0
   repeat' first
   | (with_reducible exact ih0 _ _ _)
   | (with_reducible exact ih1 _ _ _ _)
   | (with_reducible exact mask_Count.mono _ _)
   | (with_reducible exact LeO.refl _)
   | (with_reducible exact LeO.none _)
   | (with_reducible refine LeO.ite ?_ ?_)
   | (with_reducible refine LeO.bind ?_ (fun _ => ?_))
   | exact ih0 _ _ _
   | exact ih1 _ _ _ _
   | exact mask_Count.mono _ _
   | exact LeO.none _
   | refine LeO.ite ?_ ?_
   | refine LeO.bind ?_ (fun _ => ?_)
theorem mask_Bits.mono : ∀ a0 a1 k, LeO (mask_Bits.f k a0 a1) (mask_Bits.f (k + 1) a0 a1) := by
 intro a0 a1 k
 obtain ⟨ih0, ih1⟩ := mask_Bits.mono_l k
 unfold mask_Bits.f
 repeat' first
   | (with_reducible exact ih0 _ _ _)
   | (with_reducible exact ih1 _ _ _ _)
   | (with_reducible exact mask_Count.mono _ _)
   | (with_reducible exact LeO.refl _)
   | (with_reducible exact LeO.none _)
   | (with_reducible refine LeO.ite ?_ ?_)
   | (with_reducible refine LeO.bind ?_ (fun _ => ?_))
   | exact ih0 _ _ _
   | exact ih1 _ _ _ _
   | exact mask_Count.mono _ _
   | exact LeO.none _
   | refine LeO.ite ?_ ?_
   | refine LeO.bind ?_ (fun _ => ?_)
set_option maxHeartbeats 8000000 in
set_option maxRecDepth 100000 in
theorem mask_Bits.calls (k : Nat) (A0 : Option Addr) (c0 : Nat) (l0 : List Int) (a1 : Int) (r1 : List Int) (r2 : Bool) (w : World) (hr0 : Kd.C (Kd.int .u8) w A0 l0.length l0) (hc0 : l0.length ≤ c0) (h : mask_Bits.f k l0 a1 = some (r1, r2)) :
  Calls Try.prog 44 #[.slice A0 l0.length c0, .int .i64 a1] w fun e w' => ∃ v0_ : Value, e = .returned (.tuple #[v0_, .bool r2]) ∧ Kd.R (Kd.int .i64) 3 w' w.heap.size (fun _ => True) v0_ r1 ∧ Below w.heap.size w w' := by
 have HR0 := Aside0.mk hr0
 have HC0 := Aside0.mk hc0
 clear hr0 hc0
 have HB := Aside0.mk (Below.refl w.heap.size w)
 have H : (if a1 < 0 then (mask_Bits.j0 k l0 a1 true) else ((mask_Count.f k l0).bind fun t126 => (mask_Bits.j0 k l0 a1 (decide (a1 > t126))))) = some (r1, r2) := h
 clear h
 have HC3 := Aside0.mk H
 clear H
 go_enter Try.func44, Try.ntmps44
 go_upto_region 1 with (fail)
 go_cut [15] (fun v15 wc => ∃ (kq : Nat) (x15_2 : Bool), v15 = .bool x15_2 ∧ Aside0 (mask_Bits.j0 kq l0 a1 x15_2 = some (r1, r2)) ∧ Aside0 (kq ≤ k) ∧ Aside0 (Below w.heap.size w wc))
 case first =>
  have H := HC3.out
  clear HC3
  by_cases c4 : a1 < 0
  ·
   rw [if_pos c4] at H
   have c4b0 : decide (a1 < 0) = true := decide_eq_true c4
   clear c4
   (first | rw [c4b0] | (simp only [i64_w, i32_w]; rw [c4b0]) | skip)
   have H' := Aside0.mk H
   clear H
   go_wp2
   go_meet
   case rel => exact ⟨_, (true), (by first | rfl | (simp; done) | (simp [*]; done)), H', ⟨by first | omega | exact Nat.le_refl _⟩, ⟨(hb0_ HB.out)⟩⟩
  ·
   rw [if_neg c4] at H
   have c4b0 : decide (a1 < 0) = false := decide_eq_false c4
   clear c4
   (first | rw [c4b0] | (simp only [i64_w, i32_w]; rw [c4b0]) | skip)
   replace H := Option.bind_eq_some_iff.mp H
   obtain ⟨t126, A50, H⟩ := H
   replace H : (mask_Bits.j0 k l0 a1 (decide (a1 > t126))) = some (r1, r2) := H
   have A5 := Aside0.mk A50
   clear A50
   have H' := Aside0.mk H
   clear H
   go_wp2_with (first | (go_at_call 45; (with_reducible refine (mask_Count.calls k _ _ l0 t126 _ ?side1 ?side2 A5.out).mono ?_); (case side1 => exact kD_ (Kd.C_below HR0.out HB.out)); (case side2 => exact HC0.out); rintro e w' ⟨rfl, ⟨nd, rfl⟩⟩))
   go_meet
   case rel => exact ⟨_, (decide (a1 > t126)), (by first | rfl | (simp; done) | (simp [*]; done)), H', ⟨by first | omega | exact Nat.le_refl _⟩, ⟨(hb0_ HB.out)⟩⟩
 case rest =>
  clear HC3
  try clear p2
  try clear c4
  try clear c4b0
  obtain ⟨kq, x15_2, rfl, HA, HJ2, HB⟩ := hcut
  cases kq with
  | zero => exact absurd HA.out (by simp [mask_Bits.j0])
  | succ kj2 =>
   have H := HA.out
   clear HA
   simp only [mask_Bits.j0] at H
   by_cases c6 : x15_2 = true
   ·
    subst c6
    have H1 : (some (([] : List Int), false)) = some (r1, r2) := by rw [if_pos rfl] at H; exact H
    clear H
    have H := H1
    clear H1
    simp only [Option.some.injEq, Prod.mk.injEq] at H
    obtain ⟨rfl, rfl⟩ := H
    go_wp2
    go_ret2
    exact ⟨_, by first | rfl | (simp [errW_none, errW_some] <;> rfl) | (simp [*, errW_none, errW_some] <;> rfl), by first | exact Kd.R_nil _ _ _ _ _ | exact Kd.N_nil _ _ _ _ _ | exact Kd.V_nil _ _ _ _ _ | exact Kd.Q_nil _ _ _ _ _ | exact Kd.S_nil _ _ _ _ _, (hb0_ HB.out)⟩
   ·
    replace c6 := Bool.eq_false_iff.mpr c6
    subst c6
    have H1 : (mask_Bits.l0 kj2 l0 a1 ([] : List Int) 0) = some (r1, r2) := by rw [if_neg (show ¬ (false = true) by decide)] at H; exact H
    clear H
    have H := H1
    clear H1
    have H' := Aside0.mk H
    clear H
    go_wp2
    go_loopg [6, 7] kj2 (fun kq v6 v7 w' => ∃ (x6_2 : List Int) (x7_2 : Int), v7 = .int .i64 x7_2 ∧ Aside0 (mask_Bits.l0 kq l0 a1 x6_2 x7_2 = some (r1, r2)) ∧ Aside0 (kq ≤ kj2) ∧ Aside0 (Kd.R (Kd.int .i64) 3 w' w.heap.size (fun _ => True) v6 x6_2) ∧ Aside0 (Below w.heap.size w w'))
    case atStart => exact ⟨(([] : List Int)), (0), (by first | rfl | (simp; done) | (simp [*]; done)), H', ⟨Nat.le_refl _⟩, ⟨by first | exact Kd.R_nil _ _ _ _ _ | exact Kd.N_nil _ _ _ _ _ | exact Kd.V_nil _ _ _ _ _ | exact Kd.Q_nil _ _ _ _ _ | exact Kd.S_nil _ _ _ _ _⟩, ⟨(hb0_ HB.out)⟩⟩
    case round =>
     clear H'
     try clear p2
     try clear c4
     try clear c4b0
     try clear c6
     try clear p2
     obtain ⟨x6_2, x7_2, rfl, HA, HK2, HO_6, HB⟩ := hrel
     cases gk with
     | zero => exact absurd HA.out (by simp [mask_Bits.l0])
     | succ k2 =>
      have H := HA.out
      clear HA
      simp only [mask_Bits.l0] at H
      by_cases c7 : (x6_2.length : Int) < a1
      ·
       rw [if_pos c7] at H
       have c7b0 : decide ((x6_2.length : Int) < a1) = true := decide_eq_true c7
       clear c7
       replace H := Option.bind_eq_some_iff.mp H
       obtain ⟨t127, A80, H⟩ := H
       replace H : (if t127 = true then (if x6_2.length < 17592186044416 then (mask_Bits.l0 k2 l0 a1 (x6_2 ++ [x7_2]) (wrap64 (x7_2 + 1))) else (none)) else (mask_Bits.l0 k2 l0 a1 x6_2 (wrap64 (x7_2 + 1)))) = some (r1, r2) := H
       have A8 := Aside0.mk A80
       clear A80
       by_cases c9 : t127 = true
       ·
        subst c9
        have H1 : (if x6_2.length < 17592186044416 then (mask_Bits.l0 k2 l0 a1 (x6_2 ++ [x7_2]) (wrap64 (x7_2 + 1))) else (none)) = some (r1, r2) := by rw [if_pos rfl] at H; exact H
        clear H
        have H := H1
        clear H1
        by_cases c10 : x6_2.length < 17592186044416
        rotate_left
        ·
         rw [if_neg c10] at H
         exact absurd H (by simp)
        rw [if_pos c10] at H
        have LMc10 := Aside0.mk c10
        clear c10
        obtain ⟨y128, hy128⟩ : ∃ y_ : List Int, y_ = (x6_2 ++ [x7_2]) := ⟨_, rfl⟩
        replace H : (mask_Bits.l0 k2 l0 a1 y128 (wrap64 (x7_2 + 1))) = some (r1, r2) := by first | (rw [hy128]; with_reducible exact H) | (have H2_ := (Option.bind_some _ _).symm.trans H; rw [hy128]; with_reducible exact H2_) | (have H2_ := (Option.bind_some _ _).symm.trans H; with_reducible exact H2_) | with_reducible exact H | (rw [hy128]; exact H) | exact H
        have Ny128 := Aside0.mk hy128
        clear hy128
        have H' := Aside0.mk H
        clear H
        obtain ⟨Ao11, co11, eo11⟩ := Kd.R_slice HO_6.out
        subst eo11
        go_wp2_with (first | ((with_reducible refine gate_callee (f := 85) rfl ?_); refine goesL_ (some 24) rfl rfl Try.func85 (by kernel_rfl) rfl #[.slice A0 l0.length c0, .int .i64 x7_2] rfl (by (try simp only [List.map_toArray, List.map_cons, List.map_nil]); first | done | rfl | (simp only [List.length_drop, List.length_take]; rfl)) ?_; (with_reducible refine (mask_get.calls _ _ l0 x7_2 true _ ?side1 ?side2 A8.out).mono ?_); (case side1 => exact kD_ (Kd.C_below HR0.out HB.out)); (case side2 => exact HC0.out); rintro e w' ⟨rfl, ⟨nd, rfl⟩⟩; refine ⟨_, rfl, ?_⟩) | ((with_reducible refine gate_builtin (b := .append) (xs := #[.tmp 25, .tmp 27]) rfl ?_); at_builtin; refine Kd.R_append (Kd.int .i64) (w0 := w) w.heap.size rfl (.tmp 25) (.tmp 27) 23 3 (.int .i64 0) 8 rfl Try.underlying23 info3 rfl (by decide) (by omega) (.slice Ao11 x6_2.length co11) x6_2 x7_2 [.int .i64 x7_2] (fun _ => True) (fun _ => False) rfl rfl ?aP (fun _ hk => hk.elim) ?aF ?aO ?aB ?aS ?aL ?_; (case aP => exact rfl); (case aB => exact (hb0_ HB.out)); (case aF => exact (fun _ _ => trivial)); (case aO => exact (kR_ HO_6.out)); (case aS => exact (below_size (hb0_ HB.out))); (case aL => have := LMc10.out; omega); intro v129 w12 ho hb hg hat; rw [← Ny128.out] at ho; have n0_ := Aside0.mk (hb); have n1_ := Aside0.mk (ho); clear HB HO_6; revert n0_ n1_; intro HB HO130; clear ho hb hg hat))
        go_roundg k2
        case measure => have := HJ2.out; have := HK2.out; omega
        case rel => exact ⟨(y128), (wrap64 (x7_2 + 1)), (by first | rfl | (simp; done) | (simp [*]; done)), H', ⟨by have := HJ2.out; have := HK2.out; omega⟩, ⟨by (with_reducible repeat (first | apply Kd.R_alloc | apply Kd.R_drewN | apply Kd.R_drew)); exact HO130.out⟩, ⟨(hb0_ HB.out)⟩⟩
       ·
        replace c9 := Bool.eq_false_iff.mpr c9
        subst c9
        have H1 : (mask_Bits.l0 k2 l0 a1 x6_2 (wrap64 (x7_2 + 1))) = some (r1, r2) := by rw [if_neg (show ¬ (false = true) by decide)] at H; exact H
        clear H
        have H := H1
        clear H1
        have H' := Aside0.mk H
        clear H
        obtain ⟨Ao13, co13, eo13⟩ := Kd.R_slice HO_6.out
        subst eo13
        go_wp2_with (first | ((with_reducible refine gate_callee (f := 85) rfl ?_); refine goesL_ (some 24) rfl rfl Try.func85 (by kernel_rfl) rfl #[.slice A0 l0.length c0, .int .i64 x7_2] rfl (by (try simp only [List.map_toArray, List.map_cons, List.map_nil]); first | done | rfl | (simp only [List.length_drop, List.length_take]; rfl)) ?_; (with_reducible refine (mask_get.calls _ _ l0 x7_2 false _ ?side1 ?side2 A8.out).mono ?_); (case side1 => exact kD_ (Kd.C_below HR0.out HB.out)); (case side2 => exact HC0.out); rintro e w' ⟨rfl, ⟨nd, rfl⟩⟩; refine ⟨_, rfl, ?_⟩))
        go_roundg k2
        case measure => have := HJ2.out; have := HK2.out; omega
        case rel => exact ⟨(x6_2), (wrap64 (x7_2 + 1)), (by first | rfl | (simp; done) | (simp [*]; done)), H', ⟨by have := HJ2.out; have := HK2.out; omega⟩, ⟨by (with_reducible repeat (first | apply Kd.R_alloc | apply Kd.R_drewN | apply Kd.R_drew)); exact HO_6.out⟩, ⟨(hb0_ HB.out)⟩⟩
      ·
       rw [if_neg c7] at H
       have c7b0 : decide ((x6_2.length : Int) < a1) = false := decide_eq_false c7
       clear c7
       simp only [Option.some.injEq, Prod.mk.injEq] at H
       obtain ⟨rfl, rfl⟩ := H
       obtain ⟨Ao14, co14, eo14⟩ := Kd.R_slice HO_6.out
       subst eo14
       go_wp2
       go_ret2
       exact ⟨_, by first | rfl | (simp [errW_none, errW_some] <;> rfl) | (simp [*, errW_none, errW_some] <;> rfl), by (with_reducible repeat (first | apply Kd.R_alloc | apply Kd.R_drewN | apply Kd.R_drew)); exact HO_6.out, (hb0_ HB.out)⟩

/-! ### CloneB: function 81 (by hand) -/
def CloneB.f (l0 : List Int) : Option (List Int) := if l0.length < 140737488355328 then some l0 else none
theorem CloneB.nilrun (A : Option Addr) (n c : Nat) (W : World) : (binOp .eql 27 (.slice A n c) (.slice none 0 0)).run Try.prog W = .ok (.bool A.isNone) W := Lib.run_eql_slice_nil W 27 5 A n c 0 0 Try.underlying27
set_option maxHeartbeats 8000000 in
set_option maxRecDepth 100000 in
theorem CloneB.calls (A0 : Option Addr) (c0 : Nat) (l0 : List Int) (r : List Int) (w : World) (hr0 : Kd.C (Kd.int .u8) w A0 l0.length l0) (hc0 : l0.length ≤ c0) (h : CloneB.f l0 = some r) :
    Calls Try.prog 81 #[.slice A0 l0.length c0] w fun e w' => ∃ v0_ : Value, e = .returned (v0_) ∧ Kd.R (Kd.int .u8) 5 w' w.heap.size (fun _ => True) v0_ r ∧ Below w.heap.size w w' := by
  have HR0 := Aside0.mk hr0
  have HC0 := Aside0.mk hc0
  clear hc0
  have HB := Aside0.mk (Below.refl w.heap.size w)
  unfold CloneB.f at h
  by_cases c2 : l0.length < 140737488355328
  · rw [if_pos c2] at h
    obtain rfl := Option.some.inj h
    clear h
    cases A0 with
    | none =>
      have h0 : l0 = [] := by
        rcases Nat.eq_zero_or_pos l0.length with h0 | h0
        · exact List.eq_nil_of_length_eq_zero h0
        · obtain ⟨ad, c, e, _⟩ := Kd.C_get hr0 (0 : Int) 0 (by omega) (by omega)
          cases e
      subst h0
      clear hr0 c2
      have hn := CloneB.nilrun none 0 c0
      simp only [List.length_nil]
      simp only [Option.isNone_none] at hn
      go_enter Try.func81, Try.ntmps81
      go_wp2
      go_ret
      exact ⟨_, rfl, Kd.R_nil _ _ _ _ _, HB.out⟩
    | some ad =>
      clear hr0
      have hn := CloneB.nilrun (some ad) l0.length c0
      simp only [Option.isNone_some] at hn
      have LMc2 := Aside0.mk c2
      clear c2
      obtain ⟨y109, hy109⟩ : ∃ y_ : List Int, y_ = (([] : List Int)) := ⟨_, rfl⟩
      have Ny109 := Aside0.mk hy109
      clear hy109
      obtain ⟨y112, hy112⟩ : ∃ y_ : List Int, y_ = (y109 ++ l0) := ⟨_, rfl⟩
      have Ny112 := Aside0.mk hy112
      clear hy112
      go_enter Try.func81, Try.ntmps81
      go_wp2_with (first | ((with_reducible refine gate_dst (N := 5) rfl ?_); refine Kd.R_lit (Kd.int .u8) _ 5 ?hg (N := 5) ?hd (xs := ([] : List Int)) (inner := []) (ok := fun _ => True) (okp := fun _ => True) ?hr ?hp (fun _ hk => hk) trivial (Below.refl _ _) (Nat.le_refl _) (by simp) ?_; (case hd => rfl); (case hg => rfl); (case hr => first | (go_simp; done) | (go_simp; rfl)); (case hp => exact (Reps.none _ _)); intro v110 w3 ho4 hb hg_ hnew_; clear hg_ hnew_; (first | rw [← Ny109.out] at ho4 | (simp only [Int.reduceToNat] at ho4; rw [← Ny109.out] at ho4)); have n0_ := Aside0.mk (Kd.R_lower ho4 (below_size (hb0_ HB.out))); have n1_ := Aside0.mk (below_step (hb0_ HB.out) hb); clear HB; revert n0_ n1_; intro HO111 HB; clear hb ho4) | ((with_reducible refine gate_builtin (b := .append) (xs := #[.tmp 5, .tmp 6]) rfl ?_); at_builtin; refine Kd.R_append_rows (Kd.int .u8) (w0 := w) w.heap.size rfl (.tmp 5) (.tmp 6) 27 5 (.int .u8 0) 1 rfl Try.underlying27 info5 rfl (by decide) (by omega) v110 y109 l0 _ _ _ (fun _ => True) (fun _ => False) rfl rfl ?aO ?aR (fun _ _ h => h) (fun _ h => h.elim) ?aF ?aB ?aS ?aL ?_; (case aR => repeat (first | exact (Kd.C_below HR0.out HB.out) | (with_reducible refine Kd.C_alloc ?_ _) | (with_reducible refine Kd.C_drewN ?_ _) | (with_reducible refine Kd.C_drew ?_))); (case aB => exact (hb0_ HB.out)); (case aF => exact (fun _ _ => trivial)); (case aO => exact (kR_ HO111.out)); (case aS => exact (below_size (hb0_ HB.out))); (case aL => have := LMc2.out; have h1_ := Ny109.out; (rw [h1_]); simp only [List.length_nil]; omega); intro v113 w5 ho hb hg hat; rw [← Ny112.out] at ho; have n0_ := Aside0.mk (hb); have n1_ := Aside0.mk (ho); clear HB HO111; revert n0_ n1_; intro HB HO114; clear ho hb hg hat))
      have hl0 : y112 = l0 := by rw [Ny112.out, Ny109.out]; rfl
      rw [hl0] at HO114
      go_ret
      exact ⟨_, rfl, by (with_reducible repeat (first | apply Kd.R_alloc | apply Kd.R_drewN | apply Kd.R_drew)); exact HO114.out, (hb0_ HB.out)⟩
  · rw [if_neg c2] at h
    exact absurd h (by simp)

end Go.Proofs.Ytpcephbhnbfcmaa.G
