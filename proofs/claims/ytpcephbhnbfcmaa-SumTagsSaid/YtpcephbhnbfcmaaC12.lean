-- Written by this session's program fork.py: a Lean function for each Go function and its walk. Not trusted: Lean checks it.
import Derived.Test.YtpcephbhnbfcmaaC0
import Derived.Test.YtpcephbhnbfcmaaC1
import Derived.Test.YtpcephbhnbfcmaaC5
import Derived.Test.YtpcephbhnbfcmaaC10
import Derived.Test.YtpcephbhnbfcmaaC11
namespace Go.Proofs.Ytpcephbhnbfcmaa.C
open Go.RowKit Go.Proofs.YtpcephbhnbfcmaaW.PrintWords Go.Proofs.YtpcephbhnbfcmaaW.PrintLast Go.Proofs.YtpcephbhnbfcmaaW.PrintMore
attribute [local go_sem] max2_int min2_int max_two min_two max_three min_three max_four min_four   -- for this text's walks alone
set_option linter.unusedVariables false
set_option linter.unusedSimpArgs false

/-! ### law17_SumTags: function 7 -/
mutual
def law17_SumTags.l0 : Nat → Int → Int → List (S31) → List ByteArray → Int → Int → Option (Bool)
 | 0, _, _, _, _, _, _ => none
 | k + 1, x1, x5, x6, x7, x24, x25 => if x25 < x24 then (if 0 ≤ x25 then (if x25 < (x6.length : Int) then ((some (([(wrap64 (97 + x25)) % 256] : List Int) : List Int)).bind fun y244 => (if 1 + (strOfNums y244).size ≤ 9223372036854775807 then (if x25 < (x7.length : Int) then (law17_SumTags.l0 k x1 x5 (x6.set (x25 : Int).toNat (⟨(rd_T31 x6 x25).f0, 1, (rd_T31 x6 x25).f2, (rd_T31 x6 x25).f3, (rd_T31 x6 x25).f4, (rd_T31 x6 x25).f5, (rd_T31 x6 x25).f6, (rd_T31 x6 x25).f7⟩ : S31)) (x7.set (x25 : Int).toNat ((⟨#[99]⟩ : ByteArray) ++ (strOfNums y244))) x24 (wrap64 (x25 + 1))) else (none)) else (none))) else (none)) else (none)) else (if 0 ≤ x5 then (if (x5 : Int).toNat ≤ 281474976710656 then ((sum_Lay.f k x6 x7 (List.replicate (x5 : Int).toNat false)).bind fun bt251 => (if bt251.2.2.2.2.2.2.2.2 = 0 then (if bt251.1 = 1 then (law17_SumTags.j1 k x1 x5 (bt251.2.1 != 1) bt251.1 bt251.2.1 bt251.2.2.1 bt251.2.2.2.1 bt251.2.2.2.2.1 bt251.2.2.2.2.2.1 bt251.2.2.2.2.2.2.1 bt251.2.2.2.2.2.2.2.1) else (law17_SumTags.j1 k x1 x5 true bt251.1 bt251.2.1 bt251.2.2.1 bt251.2.2.2.1 bt251.2.2.2.2.1 bt251.2.2.2.2.2.1 bt251.2.2.2.2.2.2.1 bt251.2.2.2.2.2.2.2.1)) else (law17_SumTags.j1 k x1 x5 true bt251.1 bt251.2.1 bt251.2.2.1 bt251.2.2.2.1 bt251.2.2.2.2.1 bt251.2.2.2.2.2.1 bt251.2.2.2.2.2.2.1 bt251.2.2.2.2.2.2.2.1))) else (none)) else (none))
def law17_SumTags.j1 : Nat → Int → Int → Bool → Int → Int → List Int → List Int → List (S101) → List (S79) → List Int → Bool → Option (Bool)
 | 0, _, _, _, _, _, _, _, _, _, _, _ => none
 | k + 1, x1, x5, x61, x271000, x271001, x271002, x271003, x271004, x271005, x271006, x271007 => if x61 = true then (some false) else ((sum_Tag.f k x271000 x271001 x271002 x271003 x271004 x271005 x271006 x271007 (([x1] : List Int))).bind fun bt274 => ((sum_Tag.f k x271000 x271001 x271002 x271003 x271004 x271005 x271006 x271007 ([] : List Int)).bind fun bt276 => (if ((bt274.2 == 0) == (decide ((wrap64 (x1)) < x5))) = true then (if bt274.2 = 0 then (if bt274.1 = (wrap64 (x1)) then (if bt276.2 = 21 then ((sum_TagSize.f k x5).bind fun t278 => (if 0 ≤ (IntKind.u64.wrap (t278)) then (if (shl .i64 1 (IntKind.u64.wrap (t278))) ≥ x5 then ((sum_TagSize.f k x5).bind fun t279 => (if 0 ≤ (IntKind.u64.wrap (wrap64 (t279 - 1))) then (if (shl .i64 1 (IntKind.u64.wrap (wrap64 (t279 - 1)))) < x5 then ((Awake17.f).bind fun t280 => (some t280)) else (some false)) else (none))) else (some false)) else (none))) else (some false)) else (some false)) else (if bt274.2 = 21 then (if bt276.2 = 21 then ((sum_TagSize.f k x5).bind fun t281 => (if 0 ≤ (IntKind.u64.wrap (t281)) then (if (shl .i64 1 (IntKind.u64.wrap (t281))) ≥ x5 then ((sum_TagSize.f k x5).bind fun t282 => (if 0 ≤ (IntKind.u64.wrap (wrap64 (t282 - 1))) then (if (shl .i64 1 (IntKind.u64.wrap (wrap64 (t282 - 1)))) < x5 then ((Awake17.f).bind fun t283 => (some t283)) else (some false)) else (none))) else (some false)) else (none))) else (some false)) else (some false))) else (some false))))
end
def law17_SumTags.f (k : Nat) (a0 : Int) (a1 : Int) : Option (Bool) := if 0 ≤ (wrap64 (2 + (wrap64 (Int.tmod a0 11)))) then (if (wrap64 (2 + (wrap64 (Int.tmod a0 11))) : Int).toNat ≤ 1954687338268 then ((some (List.replicate (wrap64 (2 + (wrap64 (Int.tmod a0 11))) : Int).toNat z31 : List (S31))).bind fun y237 => (if (wrap64 (2 + (wrap64 (Int.tmod a0 11))) : Int).toNat ≤ 17592186044416 then (law17_SumTags.l0 k a1 (wrap64 (2 + (wrap64 (Int.tmod a0 11)))) y237 (List.replicate (wrap64 (2 + (wrap64 (Int.tmod a0 11))) : Int).toNat (⟨#[]⟩ : ByteArray)) (y237.length : Int) 0) else (none))) else (none)) else (none)
theorem law17_SumTags.mono_l : ∀ k, (∀ y0 y1 y2 y3 y4 y5, LeO (law17_SumTags.l0 k y0 y1 y2 y3 y4 y5) (law17_SumTags.l0 (k + 1) y0 y1 y2 y3 y4 y5)) ∧ (∀ y0 y1 y2 y3 y4 y5 y6 y7 y8 y9 y10, LeO (law17_SumTags.j1 k y0 y1 y2 y3 y4 y5 y6 y7 y8 y9 y10) (law17_SumTags.j1 (k + 1) y0 y1 y2 y3 y4 y5 y6 y7 y8 y9 y10))
 | 0 => ⟨fun _ _ _ _ _ _ r h => by simp [law17_SumTags.l0] at h, fun _ _ _ _ _ _ _ _ _ _ _ r h => by simp [law17_SumTags.j1] at h⟩
 | k + 1 => by
  obtain ⟨ih0, ih1⟩ := law17_SumTags.mono_l k
  refine ⟨?_, ?_⟩
  ·
   intro y0 y1 y2 y3 y4 y5
   unfold law17_SumTags.l0
   repeat' first
   | (with_reducible exact ih0 _ _ _ _ _ _)
   | (with_reducible exact ih1 _ _ _ _ _ _ _ _ _ _ _)
   | (with_reducible exact sum_Lay.mono _ _ _ _)
   | (with_reducible exact sum_Tag.mono _ _ _ _ _ _ _ _ _ _)
   | (with_reducible exact sum_TagSize.mono _ _)
   | (with_reducible exact LeO.refl _)
   | (with_reducible exact LeO.none _)
   | (with_reducible refine LeO.ite ?_ ?_)
   | (with_reducible refine LeO.bind ?_ (fun _ => ?_))
   | exact ih0 _ _ _ _ _ _
   | exact ih1 _ _ _ _ _ _ _ _ _ _ _
   | exact sum_Lay.mono _ _ _ _
   | exact sum_Tag.mono _ _ _ _ _ _ _ _ _ _
   | exact sum_TagSize.mono _ _
   | exact LeO.none _
   | refine LeO.ite ?_ ?_
   | refine LeO.bind ?_ (fun _ => ?_)
  ·
   intro y0 y1 y2 y3 y4 y5 y6 y7 y8 y9 y10
   unfold law17_SumTags.j1
   repeat' first
   | (with_reducible exact ih0 _ _ _ _ _ _)
   | (with_reducible exact ih1 _ _ _ _ _ _ _ _ _ _ _)
   | (with_reducible exact sum_Lay.mono _ _ _ _)
   | (with_reducible exact sum_Tag.mono _ _ _ _ _ _ _ _ _ _)
   | (with_reducible exact sum_TagSize.mono _ _)
   | (with_reducible exact LeO.refl _)
   | (with_reducible exact LeO.none _)
   | (with_reducible refine LeO.ite ?_ ?_)
   | (with_reducible refine LeO.bind ?_ (fun _ => ?_))
   | exact ih0 _ _ _ _ _ _
   | exact ih1 _ _ _ _ _ _ _ _ _ _ _
   | exact sum_Lay.mono _ _ _ _
   | exact sum_Tag.mono _ _ _ _ _ _ _ _ _ _
   | exact sum_TagSize.mono _ _
   | exact LeO.none _
   | refine LeO.ite ?_ ?_
   | refine LeO.bind ?_ (fun _ => ?_)
theorem law17_SumTags.mono : ∀ a0 a1 k, LeO (law17_SumTags.f k a0 a1) (law17_SumTags.f (k + 1) a0 a1) := by
 intro a0 a1 k
 obtain ⟨ih0, ih1⟩ := law17_SumTags.mono_l k
 unfold law17_SumTags.f
 repeat' first
   | (with_reducible exact ih0 _ _ _ _ _ _)
   | (with_reducible exact ih1 _ _ _ _ _ _ _ _ _ _ _)
   | (with_reducible exact sum_Lay.mono _ _ _ _)
   | (with_reducible exact sum_Tag.mono _ _ _ _ _ _ _ _ _ _)
   | (with_reducible exact sum_TagSize.mono _ _)
   | (with_reducible exact LeO.refl _)
   | (with_reducible exact LeO.none _)
   | (with_reducible refine LeO.ite ?_ ?_)
   | (with_reducible refine LeO.bind ?_ (fun _ => ?_))
   | exact ih0 _ _ _ _ _ _
   | exact ih1 _ _ _ _ _ _ _ _ _ _ _
   | exact sum_Lay.mono _ _ _ _
   | exact sum_Tag.mono _ _ _ _ _ _ _ _ _ _
   | exact sum_TagSize.mono _ _
   | exact LeO.none _
   | refine LeO.ite ?_ ?_
   | refine LeO.bind ?_ (fun _ => ?_)
set_option maxHeartbeats 8000000 in
set_option maxRecDepth 100000 in
theorem law17_SumTags.calls (k : Nat) (a0 : Int) (a1 : Int) (r : Bool) (w : World) (h : law17_SumTags.f k a0 a1 = some r) (hr_ : r = true) :
  Calls Try.prog 7 #[.int .u8 a0, .int .u8 a1] w fun e w' => e = .returned (.bool r) ∧ Below w.heap.size w w' := by
 have hu31 := Try.underlying31
 have HB := Aside0.mk (Below.refl w.heap.size w)
 have H : (if 0 ≤ (wrap64 (2 + (wrap64 (Int.tmod a0 11)))) then (if (wrap64 (2 + (wrap64 (Int.tmod a0 11))) : Int).toNat ≤ 1954687338268 then ((some (List.replicate (wrap64 (2 + (wrap64 (Int.tmod a0 11))) : Int).toNat z31 : List (S31))).bind fun y237 => (if (wrap64 (2 + (wrap64 (Int.tmod a0 11))) : Int).toNat ≤ 17592186044416 then (law17_SumTags.l0 k a1 (wrap64 (2 + (wrap64 (Int.tmod a0 11)))) y237 (List.replicate (wrap64 (2 + (wrap64 (Int.tmod a0 11))) : Int).toNat (⟨#[]⟩ : ByteArray)) (y237.length : Int) 0) else (none))) else (none)) else (none)) = some r := h
 clear h
 obtain ⟨ji3, hji3⟩ : ∃ j_ : Int, (wrap64 (2 + (wrap64 (Int.tmod a0 11)))) = j_ := ⟨_, rfl⟩
 replace H : (if 0 ≤ (ji3) then (if (ji3 : Int).toNat ≤ 1954687338268 then ((some (List.replicate (ji3 : Int).toNat z31 : List (S31))).bind fun y237 => (if (ji3 : Int).toNat ≤ 17592186044416 then (law17_SumTags.l0 k a1 ji3 y237 (List.replicate (ji3 : Int).toNat (⟨#[]⟩ : ByteArray)) (y237.length : Int) 0) else (none))) else (none)) else (none)) = some r := by first | (rw [hji3] at H; exact H) | (simp only [hji3] at H ⊢; exact H)
 have hji3w : (IntKind.i64.wrap (2 + (wrap64 (Int.tmod a0 11)))) = ji3 := (i64_w _).trans hji3
 by_cases c4 : 0 ≤ (ji3)
 ·
  rw [if_pos c4] at H
  have c4b0 := eq_true c4
  have c4b1 : decide (0 ≤ (ji3)) = true := decide_eq_true c4
  clear c4
  by_cases c5 : (ji3 : Int).toNat ≤ 1954687338268
  rotate_left
  ·
   rw [if_neg c5] at H
   exact absurd H (by simp)
  rw [if_pos c5] at H
  have c5b0 := eq_true c5
  have c5b1 : decide ((ji3 : Int).toNat ≤ 1954687338268) = true := decide_eq_true c5
  clear c5
  obtain ⟨y237, hy237⟩ : ∃ y_ : List (S31), y_ = (List.replicate (ji3 : Int).toNat z31) := ⟨_, rfl⟩
  replace H : (if (ji3 : Int).toNat ≤ 17592186044416 then (law17_SumTags.l0 k a1 ji3 y237 (List.replicate (ji3 : Int).toNat (⟨#[]⟩ : ByteArray)) (y237.length : Int) 0) else (none)) = some r := by first | (rw [hy237]; with_reducible exact H) | (have H2_ := (Option.bind_some _ _).symm.trans H; rw [hy237]; with_reducible exact H2_) | (have H2_ := (Option.bind_some _ _).symm.trans H; with_reducible exact H2_) | with_reducible exact H | (rw [hy237]; exact H) | exact H
  have Ny237 := Aside0.mk hy237
  clear hy237
  by_cases c6 : (ji3 : Int).toNat ≤ 17592186044416
  rotate_left
  ·
   rw [if_neg c6] at H
   exact absurd H (by simp)
  rw [if_pos c6] at H
  have c6b0 := eq_true c6
  have c6b1 : decide ((ji3 : Int).toNat ≤ 17592186044416) = true := decide_eq_true c6
  clear c6
  obtain ⟨y240, hy240⟩ : ∃ y_ : List ByteArray, y_ = (List.replicate (ji3 : Int).toNat (⟨#[]⟩ : ByteArray)) := ⟨_, rfl⟩
  replace H : (law17_SumTags.l0 k a1 ji3 y237 y240 (y237.length : Int) 0) = some r := by first | (rw [hy240]; with_reducible exact H) | (have H2_ := (Option.bind_some _ _).symm.trans H; rw [hy240]; with_reducible exact H2_) | (have H2_ := (Option.bind_some _ _).symm.trans H; with_reducible exact H2_) | with_reducible exact H | (rw [hy240]; exact H) | exact H
  have Ny240 := Aside0.mk hy240
  clear hy240
  have H' := Aside0.mk H
  clear H
  go_enter Try.func7, Try.ntmps7
  go_wp2_with (first | ((with_reducible refine gate_dst (N := 20) rfl ?_); refine Kd.N_make k31 _ 31 rfl (N' := 20) rfl 22 _ _ rfl ji3 rfl rfl Try.underlying22 (.agg #[(.int .i64 0), (.int .i64 0), (.slice none 0 0), (.slice none 0 0), (.slice none 0 0), (.slice none 0 0), (.slice none 0 0), (.bool false)]) 144 info31 rfl (by decide) (by omega) z31 (ok := fun k_ => w.heap.size ≤ k_) (okp := fun _ => False) (k31_mkF _ _ z31 (Nat.le_refl _) (Kd.F_nil _ _ _) (Nat.le_refl _) (Kd.F_nil _ _ _) (Nat.le_refl _) (Kd.F_nil _ _ _) (Nat.le_refl _) (Kd.F_nil _ _ _) (Nat.le_refl _) (Kd.F_nil _ _ _)) (fun _ hk => hk.elim) (Nat.le_refl _) od_ (Nat.le_trans (Nat.mul_le_mul_right _ (od_ : ji3.toNat ≤ 1954687338268)) (by omega)) (Below.refl _ _) (Nat.le_refl _) ?_; intro v238 w7 ho8 hb hg_ hnew_; clear hg_ hnew_; (first | rw [← Ny237.out] at ho8 | (simp only [Int.reduceToNat] at ho8; rw [← Ny237.out] at ho8)); have n0_ := Aside0.mk (Kd.N_lower (Kd.N_mono (ok' := fun k_ => True) ho8 (fun k_ hk_ => trivial)) (below_size (hb0_ HB.out))); have n1_ := Aside0.mk (below_step (hb0_ HB.out) hb); clear HB; have HO239 := n0_; have HB := n1_; clear n0_ n1_ hb ho8) | ((with_reducible refine gate_dst (N := 22) rfl ?_); refine Kd.R_make Kd.string _ 9 rfl (N := 22) rfl 47 _ _ rfl ji3 rfl rfl Try.underlying47 (.string ⟨#[]⟩) 16 info9 rfl (by decide) (by omega) (⟨#[]⟩ : ByteArray) (ok := fun _ => True) (okp := fun _ => True) rfl (fun _ hk => hk) trivial od_ (Nat.le_trans (Nat.mul_le_mul_right _ (od_ : ji3.toNat ≤ 17592186044416)) (by omega)) (Below.refl _ _) (Nat.le_refl _) ?_; intro v241 w9 ho10 hb hg_ hnew_; clear hg_ hnew_; (first | rw [← Ny240.out] at ho10 | (simp only [Int.reduceToNat] at ho10; rw [← Ny240.out] at ho10)); have n0_ := Aside0.mk (Kd.N_elder' (kN_ HO239.out) (Kd.R_base ho10) hb); have n1_ := Aside0.mk (Kd.R_lower ho10 (below_size (hb0_ HB.out))); have n2_ := Aside0.mk (below_step (hb0_ HB.out) hb); clear HO239 HB; have HO239 := n0_; have HO242 := n1_; have HB := n2_; clear n0_ n1_ n2_ hb ho10; obtain ⟨Ao11, co11, eo11⟩ := Kd.N_slice HO239.out; subst eo11))
  go_loopg [25] k (fun kq v25 w' => ∃ (x6_1 : List (S31)) (x7_1 : List ByteArray) (x25_1 : Int), v25 = .int .i64 x25_1 ∧ Aside0 (law17_SumTags.l0 kq a1 ji3 x6_1 x7_1 (y237.length : Int) x25_1 = some r) ∧ Aside0 (kq ≤ k) ∧ Aside0 (Kd.N k31 31 w' w.heap.size (fun k_ => some k_ ≠ (v241 : Value).ownBlock) (.slice Ao11 y237.length co11) x6_1) ∧ Aside0 (Kd.R Kd.string 9 w' w.heap.size (fun _ => True) v241 x7_1) ∧ Aside0 (Below w.heap.size w w'))
  case atStart => exact ⟨(y237), (y240), (0), (by first | rfl | (simp; done) | (simp [*]; done)), H', ⟨Nat.le_refl _⟩, ⟨by (with_reducible repeat (first | apply Kd.N_alloc | apply Kd.N_drewN | apply Kd.N_drew)); exact Kd.N_mono HO239.out (fun _ hk => hk.2)⟩, ⟨by (with_reducible repeat (first | apply Kd.R_alloc | apply Kd.R_drewN | apply Kd.R_drew)); exact HO242.out⟩, ⟨by repeat (first | (with_reducible first | exact HB.out | apply below_alloc | apply pw_below_drewN | apply below_drew1) | exact HB.out)⟩⟩
  case round =>
   clear H'
   try clear p2
   try clear c4
   try clear c4b0
   try clear c4b1
   try clear c5
   try clear c5b0
   try clear c5b1
   try clear c6
   try clear c6b0
   try clear c6b1
   try clear p6
   try clear c7
   obtain ⟨x6_1, x7_1, x25_1, rfl, HA, HK1, HO_6, HO_7, HB⟩ := hrel
   have hl6_1 := (Kd.N_reads' HO_6.out).1
   rw [hl6_1] at HO_6
   (try simp only [hl6_1])
   (try simp only [hl6_1] at HO_7)
   cases gk with
   | zero => exact absurd HA.out (by simp [law17_SumTags.l0])
   | succ k1 =>
    have H := HA.out
    clear HA
    simp only [law17_SumTags.l0] at H
    by_cases c12 : x25_1 < (y237.length : Int)
    ·
     rw [if_pos c12] at H
     have c12b0 : decide (x25_1 < (y237.length : Int)) = true := decide_eq_true c12
     (try (have c12r0 := c12b0; simp only [hl6_1] at c12r0))
     clear c12
     by_cases c13 : 0 ≤ x25_1
     rotate_left
     ·
      rw [if_neg c13] at H
      exact absurd H (by simp)
     rw [if_pos c13] at H
     have c13b0 : decide (0 ≤ x25_1) = true := decide_eq_true c13
     clear c13
     by_cases c14 : x25_1 < (x6_1.length : Int)
     rotate_left
     ·
      rw [if_neg c14] at H
      exact absurd H (by simp)
     rw [if_pos c14] at H
     have c14b0 : decide (x25_1 < (x6_1.length : Int)) = true := decide_eq_true c14
     (try (have c14r0 := c14b0; simp only [hl6_1] at c14r0))
     clear c14
     obtain ⟨y243, hy243⟩ : ∃ y_ : List (S31), y_ = (x6_1.set (x25_1 : Int).toNat (⟨(rd_T31 x6_1 x25_1).f0, 1, (rd_T31 x6_1 x25_1).f2, (rd_T31 x6_1 x25_1).f3, (rd_T31 x6_1 x25_1).f4, (rd_T31 x6_1 x25_1).f5, (rd_T31 x6_1 x25_1).f6, (rd_T31 x6_1 x25_1).f7⟩ : S31)) := ⟨_, rfl⟩
     replace H : ((some (([(wrap64 (97 + x25_1)) % 256] : List Int) : List Int)).bind fun y244 => (if 1 + (strOfNums y244).size ≤ 9223372036854775807 then (if x25_1 < (x7_1.length : Int) then (law17_SumTags.l0 k1 a1 ji3 y243 (x7_1.set (x25_1 : Int).toNat ((⟨#[99]⟩ : ByteArray) ++ (strOfNums y244))) (y237.length : Int) (wrap64 (x25_1 + 1))) else (none)) else (none))) = some r := by first | (rw [hy243]; with_reducible exact H) | (have H2_ := (Option.bind_some _ _).symm.trans H; rw [hy243]; with_reducible exact H2_) | (have H2_ := (Option.bind_some _ _).symm.trans H; with_reducible exact H2_) | with_reducible exact H | (rw [hy243]; exact H) | exact H
     have Ny243 := Aside0.mk hy243
     clear hy243
     obtain ⟨y244, hy244⟩ : ∃ y_ : List Int, y_ = (([(wrap64 (97 + x25_1)) % 256] : List Int)) := ⟨_, rfl⟩
     replace H : (if 1 + (strOfNums y244).size ≤ 9223372036854775807 then (if x25_1 < (x7_1.length : Int) then (law17_SumTags.l0 k1 a1 ji3 y243 (x7_1.set (x25_1 : Int).toNat ((⟨#[99]⟩ : ByteArray) ++ (strOfNums y244))) (y237.length : Int) (wrap64 (x25_1 + 1))) else (none)) else (none)) = some r := by first | (rw [hy244]; with_reducible exact H) | (have H2_ := (Option.bind_some _ _).symm.trans H; rw [hy244]; with_reducible exact H2_) | (have H2_ := (Option.bind_some _ _).symm.trans H; with_reducible exact H2_) | with_reducible exact H | (rw [hy244]; exact H) | exact H
     have Ny244 := Aside0.mk hy244
     clear hy244
     by_cases c16 : 1 + (strOfNums y244).size ≤ 9223372036854775807
     rotate_left
     ·
      rw [if_neg c16] at H
      exact absurd H (by simp)
     rw [if_pos c16] at H
     have c16b0 := eq_true c16
     have c16b1 : decide (1 + (strOfNums y244).size ≤ 9223372036854775807) = true := decide_eq_true c16
     try have c16b2 : (9223372036854775807 < 1 + (strOfNums y244).size) = False := eq_false (Nat.not_lt.2 c16)
     by_cases c17 : x25_1 < (x7_1.length : Int)
     rotate_left
     ·
      rw [if_neg c17] at H
      exact absurd H (by simp)
     rw [if_pos c17] at H
     have c17b0 : decide (x25_1 < (x7_1.length : Int)) = true := decide_eq_true c17
     (try (have c17r0 := c17b0; simp only [hl6_1] at c17r0))
     clear c17
     obtain ⟨y247, hy247⟩ : ∃ y_ : List ByteArray, y_ = (x7_1.set (x25_1 : Int).toNat ((⟨#[99]⟩ : ByteArray) ++ (strOfNums y244))) := ⟨_, rfl⟩
     replace H : (law17_SumTags.l0 k1 a1 ji3 y243 y247 (y237.length : Int) (wrap64 (x25_1 + 1))) = some r := by first | (rw [hy247]; with_reducible exact H) | (have H2_ := (Option.bind_some _ _).symm.trans H; rw [hy247]; with_reducible exact H2_) | (have H2_ := (Option.bind_some _ _).symm.trans H; with_reducible exact H2_) | with_reducible exact H | (rw [hy247]; exact H) | exact H
     have Ny247 := Aside0.mk hy247
     clear hy247
     have H' := Aside0.mk H
     clear H
     have p15 : 0 ≤ (x25_1 : Int) := od_
     have q15 : (x25_1 : Int) < ((x6_1.length : Int) : Int) := od_
     obtain ⟨go15, co15, eo15, gb15, gl15, cl15, HG15⟩ := Kd.N_form HO_6.out (by omega)
     (first | cases eo15 | (injection eo15 with ea_ en_ ec_; (first | subst ea_ | (injection ea_ with ea_; subst ea_)); subst ec_; clear en_))
     have GB15 := Aside0.mk gb15
     have GG15 := Aside0.mk HG15
     clear gb15 gl15 HG15
     obtain ⟨ce15, hcl15, hM15, hcc15, hfr15⟩ := Kd.N_elem HO_6.out z31 (x25_1 : Int) p15 q15
     obtain ⟨ua15_2, uc15_2, ua15_3, uc15_3, ua15_4, uc15_4, ua15_5, uc15_5, ua15_6, uc15_6, rfl, ul15_2, ge15_2, ul15_3, ge15_3, ul15_4, ge15_4, ul15_5, ge15_5, ul15_6, ge15_6⟩ := k31_openF hM15
     have hx15_0 : wr.cell? ⟨go15, (x25_1 : Int).toNat * 8, none⟩ = some (.int .i64 ((rd_T31 x6_1 x25_1).f0)) := hcc15 0 _ rfl
     have hx15_1 : wr.cell? ⟨go15, (x25_1 : Int).toNat * 8 + 1, none⟩ = some (.int .i64 ((rd_T31 x6_1 x25_1).f1)) := hcc15 1 _ rfl
     have hx15_2 : wr.cell? ⟨go15, (x25_1 : Int).toNat * 8 + 2, none⟩ = some (.slice ua15_2 ((rd_T31 x6_1 x25_1).f2).length uc15_2) := hcc15 2 _ rfl
     have hx15_3 : wr.cell? ⟨go15, (x25_1 : Int).toNat * 8 + 3, none⟩ = some (.slice ua15_3 ((rd_T31 x6_1 x25_1).f3).length uc15_3) := hcc15 3 _ rfl
     have hx15_4 : wr.cell? ⟨go15, (x25_1 : Int).toNat * 8 + 4, none⟩ = some (.slice ua15_4 ((rd_T31 x6_1 x25_1).f4).length uc15_4) := hcc15 4 _ rfl
     have hx15_5 : wr.cell? ⟨go15, (x25_1 : Int).toNat * 8 + 5, none⟩ = some (.slice ua15_5 ((rd_T31 x6_1 x25_1).f5).length uc15_5) := hcc15 5 _ rfl
     have hx15_6 : wr.cell? ⟨go15, (x25_1 : Int).toNat * 8 + 6, none⟩ = some (.slice ua15_6 ((rd_T31 x6_1 x25_1).f6).length uc15_6) := hcc15 6 _ rfl
     have hx15_7 : wr.cell? ⟨go15, (x25_1 : Int).toNat * 8 + 7, none⟩ = some (.bool ((rd_T31 x6_1 x25_1).f7)) := hcc15 7 _ rfl
     have hf15_0 : wr.frozen? ⟨go15, (x25_1 : Int).toNat * 8, none⟩ = false := hfr15 0
     have hf15_1 : wr.frozen? ⟨go15, (x25_1 : Int).toNat * 8 + 1, none⟩ = false := hfr15 1
     have hf15_2 : wr.frozen? ⟨go15, (x25_1 : Int).toNat * 8 + 2, none⟩ = false := hfr15 2
     have hf15_3 : wr.frozen? ⟨go15, (x25_1 : Int).toNat * 8 + 3, none⟩ = false := hfr15 3
     have hf15_4 : wr.frozen? ⟨go15, (x25_1 : Int).toNat * 8 + 4, none⟩ = false := hfr15 4
     have hf15_5 : wr.frozen? ⟨go15, (x25_1 : Int).toNat * 8 + 5, none⟩ = false := hfr15 5
     have hf15_6 : wr.frozen? ⟨go15, (x25_1 : Int).toNat * 8 + 6, none⟩ = false := hfr15 6
     have hf15_7 : wr.frozen? ⟨go15, (x25_1 : Int).toNat * 8 + 7, none⟩ = false := hfr15 7
     clear hcl15 hcc15 hfr15 hM15
     replace p15 := eq_true p15
     replace q15 := eq_true q15
     have HX19 := Aside0.mk (show Kd.N k31 31 wr w.heap.size (fun k_ => some k_ ≠ (v241 : Value).ownBlock) (.slice (some ⟨go15, 0, none⟩) x6_1.length co11) x6_1 from (kN_ HO_6.out))
     obtain ⟨ce19, hcl19, hM19, hcc19, hfr19⟩ := Kd.N_elem HX19.out z31 (x25_1 : Int) od_ (by have h_ : (x25_1 : Int) < ((x6_1.length : Int) : Int) := od_; first | exact h_ | (have e_ := (Kd.N_reads' HO_6.out).1; omega) | simpa using h_)
     obtain ⟨ua19_2, uc19_2, ua19_3, uc19_3, ua19_4, uc19_4, ua19_5, uc19_5, ua19_6, uc19_6, rfl, ul19_2, ge19_2, ul19_3, ge19_3, ul19_4, ge19_4, ul19_5, ge19_5, ul19_6, ge19_6⟩ := k31_openF hM19
     have HP19 := Kd.N_seg HX19.out (x25_1 : Int) od_ (by have h_ : (x25_1 : Int) < ((x6_1.length : Int) : Int) := od_; first | exact h_ | (have e_ := (Kd.N_reads' HO_6.out).1; omega) | simpa using h_) (seg := [.int .i64 1]) (j := 1) hcl19 hcc19 (show 2 ≤ 8 from by decide) (x' := (⟨(rd_T31 x6_1 x25_1).f0, 1, (rd_T31 x6_1 x25_1).f2, (rd_T31 x6_1 x25_1).f3, (rd_T31 x6_1 x25_1).f4, (rd_T31 x6_1 x25_1).f5, (rd_T31 x6_1 x25_1).f6, (rd_T31 x6_1 x25_1).f7⟩ : S31)) (k31_mkF _ _ (⟨(rd_T31 x6_1 x25_1).f0, 1, (rd_T31 x6_1 x25_1).f2, (rd_T31 x6_1 x25_1).f3, (rd_T31 x6_1 x25_1).f4, (rd_T31 x6_1 x25_1).f5, (rd_T31 x6_1 x25_1).f6, (rd_T31 x6_1 x25_1).f7⟩ : S31) ul19_2 ge19_2 ul19_3 ge19_3 ul19_4 ge19_4 ul19_5 ge19_5 ul19_6 ge19_6) (fun _ hk => hk)
     have hx19_1 := hcc19 1 _ rfl
     (try simp only [show (k31).sz = 8 from rfl, Nat.mul_one, Nat.add_zero] at hx19_1)
     have hf19_1 := hfr19 1
     (try simp only [show (k31).sz = 8 from rfl, Nat.mul_one, Nat.add_zero] at hf19_1)
     clear hcl19 hcc19 hfr19 hM19
     go_wp2_with (first | ((with_reducible refine gate_store (t := 3) (p := 31) rfl ?_); refine store_event (t := 3) (p := 31) (v := ?vo_w20) (w1 := (wr.setCell ⟨go15, (x25_1 : Int).toNat * 8 + 1, none⟩ (.int .i64 1))) ?hg ?ho ?hn ?hr ?_; (case ho => rfl); (case hg => rfl); (case hn => rfl); (case hr => first | (go_simp; done) | (go_simp; rfl)); intro w20 hw; have hg : wr.grownBy w20 (some go15) := (by rw [hw]; exact HP19.2); have hp_ : Kd.N k31 31 w20 w.heap.size (fun k_ => some k_ ≠ (v241 : Value).ownBlock) (.slice (some ⟨go15, 0, none⟩) x6_1.length co11) y243 := (by rw [hw, Ny243.out]; exact HP19.1); clear HP19; have n0_ := Aside0.mk (hp_); have n1_ := Aside0.mk (Kd.R_over' (v := (.slice (some ⟨go15, 0, none⟩) x6_1.length co11)) (kR_ HO_7.out) (Kd.N_typed HO_6.out) (by decide) hg); have n2_ := Aside0.mk ((by rw [hw]; exact below_set (HB.out) GB15.out : Below w.heap.size w w20)); clear HO_6 HO_7 HB; have HO_6 := n0_; have HO_7 := n1_; have HB := n2_; clear n0_ n1_ n2_ hg hw hp_) | ((with_reducible refine gate_dst (N := 37) rfl ?_); refine Kd.R_lit (Kd.int .u8) _ 5 ?hg (N := 37) ?hd (xs := ([(wrap64 (97 + x25_1)) % 256] : List Int)) (inner := [.int .u8 ((wrap64 (97 + x25_1)) % 256)]) (ok := fun _ => True) (okp := fun _ => True) ?hr ?hp (fun _ hk => hk) trivial (Below.refl _ _) (Nat.le_refl _) (by simp) ?_; (case hd => rfl); (case hg => rfl); (case hr => first | (go_simp; done) | (go_simp; rfl)); (case hp => exact (Reps.one (show Kd.M (Kd.int .u8) _ _ _ ((wrap64 (97 + x25_1)) % 256) [.int .u8 ((wrap64 (97 + x25_1)) % 256)] from rfl) (Reps.none _ _))); intro v245 w21 ho22 hb hg_ hnew_; clear hg_ hnew_; (first | rw [← Ny244.out] at ho22 | (simp only [Int.reduceToNat] at ho22; rw [← Ny244.out] at ho22)); have n0_ := Aside0.mk (Kd.N_elder' (kN_ HO_6.out) (Kd.R_base ho22) hb); have n1_ := Aside0.mk (Kd.R_below (kR_ HO_7.out) hb); have n2_ := Aside0.mk (Kd.R_lower ho22 (below_size (hb0_ HB.out))); have n3_ := Aside0.mk (below_step (hb0_ HB.out) hb); clear HO_6 HO_7 HB; have HO_6 := n0_; have HO_7 := n1_; have HO246 := n2_; have HB := n3_; clear n0_ n1_ n2_ n3_ hb ho22; have hcv23 := own_string (P := Try.prog) Try.underlying27 Try.underlying5 Try.underlying9 (Kd.own_of_R (HO246.out)); have p18 : 0 ≤ (x25_1 : Int) := od_; have q18 : (x25_1 : Int) < ((x7_1.length : Int) : Int) := od_; obtain ⟨go18, co18, eo18, gb18, gl18, cl18, HG18⟩ := Kd.R_form HO_7.out (by omega); (first | cases eo18 | (injection eo18 with ea_ en_ ec_; (first | subst ea_ | (injection ea_ with ea_; subst ea_)); subst ec_; clear en_)); have GB18 := Aside0.mk gb18; have GG18 := Aside0.mk HG18; clear gb18 gl18 HG18; obtain ⟨hx18_0, hf18_0⟩ := Kd.R_celln (⟨#[]⟩ : ByteArray) HO_7.out (x25_1 : Int) p18 q18; replace p18 := eq_true p18; replace q18 := eq_true q18; obtain ⟨hy24_, hz24_⟩ := Kd.R_celln (⟨#[]⟩ : ByteArray) HO_7.out (x25_1 : Int) od_ od_; have HP24 := Kd.R_putg HO_7.out (x25_1 : Int) ((⟨#[99]⟩ : ByteArray) ++ (strOfNums y244))) | ((with_reducible refine gate_store (t := 9) (p := 40) rfl ?_); refine store_event (t := 9) (p := 40) (v := ?vo_w25) (w1 := (w21.setCell ⟨go18, (x25_1 : Int).toNat, none⟩ (.string ((⟨#[99]⟩ : ByteArray) ++ (strOfNums y244))))) ?hg ?ho ?hn ?hr ?_; (case ho => rfl); (case hg => rfl); (case hn => rfl); (case hr => first | (go_simp; done) | (go_simp; rfl)); intro w25 hw; have hg : w21.grownBy w25 (some go18) := (by rw [hw]; exact HP24.2); have hp_ : Kd.R Kd.string 9 w25 w.heap.size (fun _ => True) (.slice (some ⟨go18, 0, none⟩) x7_1.length co18) y247 := (by rw [hw, Ny247.out]; exact HP24.1); clear HP24; have n0_ := Aside0.mk (Kd.N_afterv (v := (.slice (some ⟨go18, 0, none⟩) x7_1.length co18)) (v1 := (.slice (some ⟨go18, 0, none⟩) x7_1.length co18)) (ok := (fun k_ => some k_ ≠ (v245 : Value).ownBlock)) (by (with_reducible repeat (first | apply Kd.N_alloc | apply Kd.N_drewN | apply Kd.N_drew)); exact Kd.N_mono HO_6.out (fun _ hk => ⟨hk.2, hk.1⟩)) hg (.inl rfl)); have n1_ := Aside0.mk (hp_); have n2_ := Aside0.mk (Kd.R_over' (v := (.slice (some ⟨go18, 0, none⟩) x7_1.length co18)) (kR_ HO246.out) (Kd.R_typed HO_7.out) (by decide) hg); have n3_ := Aside0.mk ((by rw [hw]; exact below_set (HB.out) GB18.out : Below w.heap.size w w25)); clear HO_6 HO_7 HO246 HB; have HO_6 := n0_; have HO_7 := n1_; have HO246 := n2_; have HB := n3_; clear n0_ n1_ n2_ n3_ hg hw hp_))
     (try simp only [← hl6_1])
     go_roundg k1
     case measure => have := HK1.out; omega
     case rel => exact ⟨(y243), (y247), (wrap64 (x25_1 + 1)), (by first | rfl | (simp; done) | (simp [*]; done)), H', ⟨by have := HK1.out; omega⟩, ⟨by (try simp only [hl6_1]); (with_reducible repeat (first | apply Kd.N_alloc | apply Kd.N_drewN | apply Kd.N_drew)); exact Kd.N_mono HO_6.out (fun _ hk => hk.2)⟩, ⟨by (try simp only [hl6_1]); (with_reducible repeat (first | apply Kd.R_alloc | apply Kd.R_drewN | apply Kd.R_drew)); exact HO_7.out⟩, ⟨by repeat (first | (with_reducible first | exact HB.out | apply below_alloc | apply pw_below_drewN | apply below_drew1) | exact HB.out)⟩⟩
    ·
     rw [if_neg c12] at H
     have c12b0 : decide (x25_1 < (y237.length : Int)) = false := decide_eq_false c12
     (try (have c12r0 := c12b0; simp only [hl6_1] at c12r0))
     clear c12
     by_cases c26 : 0 ≤ ji3
     rotate_left
     ·
      rw [if_neg c26] at H
      exact absurd H (by simp)
     rw [if_pos c26] at H
     have c26b0 := eq_true c26
     have c26b1 : decide (0 ≤ ji3) = true := decide_eq_true c26
     clear c26
     by_cases c27 : (ji3 : Int).toNat ≤ 281474976710656
     rotate_left
     ·
      rw [if_neg c27] at H
      exact absurd H (by simp)
     rw [if_pos c27] at H
     have c27b0 := eq_true c27
     have c27b1 : decide ((ji3 : Int).toNat ≤ 281474976710656) = true := decide_eq_true c27
     clear c27
     obtain ⟨y248, hy248⟩ : ∃ y_ : List Bool, y_ = (List.replicate (ji3 : Int).toNat false) := ⟨_, rfl⟩
     replace H : ((sum_Lay.f k1 x6_1 x7_1 y248).bind fun bt251 => (if bt251.2.2.2.2.2.2.2.2 = 0 then (if bt251.1 = 1 then (law17_SumTags.j1 k1 a1 ji3 (bt251.2.1 != 1) bt251.1 bt251.2.1 bt251.2.2.1 bt251.2.2.2.1 bt251.2.2.2.2.1 bt251.2.2.2.2.2.1 bt251.2.2.2.2.2.2.1 bt251.2.2.2.2.2.2.2.1) else (law17_SumTags.j1 k1 a1 ji3 true bt251.1 bt251.2.1 bt251.2.2.1 bt251.2.2.2.1 bt251.2.2.2.2.1 bt251.2.2.2.2.2.1 bt251.2.2.2.2.2.2.1 bt251.2.2.2.2.2.2.2.1)) else (law17_SumTags.j1 k1 a1 ji3 true bt251.1 bt251.2.1 bt251.2.2.1 bt251.2.2.2.1 bt251.2.2.2.2.1 bt251.2.2.2.2.2.1 bt251.2.2.2.2.2.2.1 bt251.2.2.2.2.2.2.2.1))) = some r := by first | (rw [hy248]; with_reducible exact H) | (have H2_ := (Option.bind_some _ _).symm.trans H; rw [hy248]; with_reducible exact H2_) | (have H2_ := (Option.bind_some _ _).symm.trans H; with_reducible exact H2_) | with_reducible exact H | (rw [hy248]; exact H) | exact H
     have Ny248 := Aside0.mk hy248
     clear hy248
     replace H := Option.bind_eq_some_iff.mp H
     obtain ⟨⟨t251, t252, t253, t256, t259, t262, t265, t268, t269⟩, A280, H⟩ := H
     replace H : (if t269 = 0 then (if t251 = 1 then (law17_SumTags.j1 k1 a1 ji3 (t252 != 1) t251 t252 t253 t256 t259 t262 t265 t268) else (law17_SumTags.j1 k1 a1 ji3 true t251 t252 t253 t256 t259 t262 t265 t268)) else (law17_SumTags.j1 k1 a1 ji3 true t251 t252 t253 t256 t259 t262 t265 t268)) = some r := H
     have A28 := Aside0.mk A280
     clear A280
     have HC29 := Aside0.mk H
     clear H
     go_upto_region 11 with (first | ((with_reducible refine gate_dst (N := 46) rfl ?_); refine Kd.R_make Kd.bool _ 4 rfl (N := 46) rfl 48 _ _ rfl ji3 rfl rfl Try.underlying48 (.bool false) 1 info4 rfl (by decide) (by omega) false (ok := fun _ => True) (okp := fun _ => True) rfl (fun _ hk => hk) trivial od_ (Nat.le_trans (Nat.mul_le_mul_right _ (od_ : ji3.toNat ≤ 281474976710656)) (by omega)) (Below.refl _ _) (Nat.le_refl _) ?_; intro v249 w30 ho31 hb hg_ hnew_; clear hg_ hnew_; (first | rw [← Ny248.out] at ho31 | (simp only [Int.reduceToNat] at ho31; rw [← Ny248.out] at ho31)); have n0_ := Aside0.mk (Kd.N_elder' (kN_ HO_6.out) (Kd.R_base ho31) hb); have n1_ := Aside0.mk (Kd.R_below (kR_ HO_7.out) hb); have n2_ := Aside0.mk (Kd.R_lower ho31 (below_size (hb0_ HB.out))); have n3_ := Aside0.mk (below_step (hb0_ HB.out) hb); clear HO_6 HO_7 HB; have HO_6 := n0_; have HO_7 := n1_; have HO250 := n2_; have HB := n3_; clear n0_ n1_ n2_ n3_ hb ho31; obtain ⟨Ao32, co32, eo32⟩ := Kd.R_slice HO_7.out; subst eo32; obtain ⟨Ao33, co33, eo33⟩ := Kd.R_slice HO250.out; subst eo33) | ((with_reducible refine gate_callee (f := 36) rfl ?_); refine goesL_ (some 47) rfl rfl Try.func36 (by kernel_rfl) rfl #[.slice Ao11 x6_1.length co11, .slice Ao32 x7_1.length co32, .slice Ao33 y248.length co33] rfl (by (try simp only [List.map_toArray, List.map_cons, List.map_nil]); first | done | rfl | (simp only [List.length_drop, List.length_take]; rfl)) ?_; (with_reducible refine (sum_Lay.calls k1 (fun k_ => (some k_ ≠ (.slice Ao32 x7_1.length co32 : Value).ownBlock ∧ some k_ ≠ (.slice Ao33 y248.length co33 : Value).ownBlock)) _ _ x6_1 _ _ x7_1 _ _ y248 t251 t252 t253 t256 t259 t262 t265 t268 t269 _ ?side1 ?side2 ?side3 ?side4 ?side5 A28.out).mono ?_); (case side1 => exact Kd.N_V (HO_6.out)); (case side2 => repeat (first | exact (Kd.R_reads' HO_7.out).2.2 | (with_reducible refine Kd.C_alloc ?_ _) | (with_reducible refine Kd.C_drewN ?_ _) | (with_reducible refine Kd.C_drew ?_))); (case side3 => exact (Kd.R_reads' HO_7.out).2.1); (case side4 => repeat (first | exact (Kd.R_reads' HO250.out).2.2 | (with_reducible refine Kd.C_alloc ?_ _) | (with_reducible refine Kd.C_drewN ?_ _) | (with_reducible refine Kd.C_drew ?_))); (case side5 => exact (Kd.R_reads' HO250.out).2.1); rintro e w34 ⟨v254, v257, v260, v263, v266, rfl, ho0, ho1, ho2, ho3, ho4, hb⟩; refine ⟨_, rfl, ?_⟩; have n0_ := Aside0.mk (Kd.N_mono (Kd.N_told (Kd.N_told (Kd.N_told (Kd.N_told (Kd.N_told (Kd.N_old (kN_ HO_6.out) hb) (Kd.R_base ho0)) (Kd.R_base ho1)) (by first | exact Kd.N_base ho2 | exact Kd.R_base ho2)) (by first | exact Kd.N_base ho3 | exact Kd.R_base ho3)) (Kd.R_base ho4)) (fun _ h_ => h_.1)); have n1_ := Aside0.mk (Kd.R_below (kR_ HO_7.out) hb); have n2_ := Aside0.mk (Kd.R_below (kR_ HO250.out) hb); have n3_ := Aside0.mk (Kd.R_lower (Kd.R_mono (ok' := fun k_ => True) ho0 (fun _ hk_ => trivial)) (below_size (hb0_ HB.out))); have n4_ := Aside0.mk (Kd.R_lower (Kd.R_mono (ok' := fun k_ => some k_ ≠ (v266 : Value).ownBlock) ho1 (fun _ hk_ => hk_.2)) (below_size (hb0_ HB.out))); have n5_ := Aside0.mk (Kd.N_lower (Kd.N_mono (ok' := fun k_ => some k_ ≠ (v254 : Value).ownBlock ∧ some k_ ≠ (v257 : Value).ownBlock ∧ some k_ ≠ (v263 : Value).ownBlock ∧ some k_ ≠ (v266 : Value).ownBlock ∧ some k_ ≠ (.slice Ao32 x7_1.length co32 : Value).ownBlock ∧ some k_ ≠ (.slice Ao33 y248.length co33 : Value).ownBlock) ho2 (fun k_ hk_ => ⟨hk_.2.1, hk_.2.2.1, hk_.2.2.2.1, hk_.2.2.2.2, Or.elim hk_.1 (fun hs_ => hs_.1) (fun hn_ => (Kd.fresh' (Kd.R_lt (kR_ HO_7.out)) k_ hn_)), Or.elim hk_.1 (fun hs_ => hs_.2) (fun hn_ => (Kd.fresh' (Kd.R_lt (kR_ HO250.out)) k_ hn_))⟩)) (below_size (hb0_ HB.out))); have n6_ := Aside0.mk (Kd.N_lower (Kd.N_mono (ok' := fun k_ => some k_ ≠ (v254 : Value).ownBlock ∧ some k_ ≠ (v257 : Value).ownBlock ∧ some k_ ≠ (v260 : Value).ownBlock ∧ some k_ ≠ (v266 : Value).ownBlock ∧ some k_ ≠ (.slice Ao32 x7_1.length co32 : Value).ownBlock ∧ some k_ ≠ (.slice Ao33 y248.length co33 : Value).ownBlock) ho3 (fun k_ hk_ => ⟨hk_.2.1, hk_.2.2.1, hk_.2.2.2.1, hk_.2.2.2.2, Or.elim hk_.1 (fun hs_ => hs_.1) (fun hn_ => (Kd.fresh' (Kd.R_lt (kR_ HO_7.out)) k_ hn_)), Or.elim hk_.1 (fun hs_ => hs_.2) (fun hn_ => (Kd.fresh' (Kd.R_lt (kR_ HO250.out)) k_ hn_))⟩)) (below_size (hb0_ HB.out))); have n7_ := Aside0.mk (Kd.R_lower (Kd.R_mono (ok' := fun k_ => some k_ ≠ (v257 : Value).ownBlock) ho4 (fun _ hk_ => hk_.2)) (below_size (hb0_ HB.out))); have n8_ := Aside0.mk (below_step (hb0_ HB.out) hb); clear HO_6 HO_7 HO250 HB; have HO_6 := n0_; have HO_7 := n1_; have HO250 := n2_; have HO255 := n3_; have HO258 := n4_; have HO261 := n5_; have HO264 := n6_; have HO267 := n7_; have HB := n8_; clear n0_ n1_ n2_ n3_ n4_ n5_ n6_ n7_ n8_; (try clear hb); (try clear hb2); (try clear hk); (try clear hi); (try clear ho0); (try clear ho1); (try clear ho2); (try clear ho3); (try clear ho4)) | ((with_reducible refine gate_dst (N := 9) rfl ?_); refine box_event ?hg (N := 9) ?hd (cs := #[.int .i64 0, .int .i64 0, .slice none 0 0, .slice none 0 0, .slice none 0 0, .slice none 0 0, .slice none 0 0, .bool false]) (t := 31) ?hr ?_; (case hd => rfl); (case hg => rfl); (case hr => first | (go_simp; done) | (go_simp; rfl)); intro gb270 hg w35 hbox hb; have n0_ := Aside0.mk (Kd.N_below (Kd.N_elderB (kN_ HO_6.out) gb270 (Nat.le_of_eq hg.symm)) hb); have n1_ := Aside0.mk (Kd.R_below (kR_ HO_7.out) hb); have n2_ := Aside0.mk (Kd.R_below (kR_ HO250.out) hb); have n3_ := Aside0.mk (Kd.R_below (kR_ HO255.out) hb); have n4_ := Aside0.mk (Kd.R_below (kR_ HO258.out) hb); have n5_ := Aside0.mk (Kd.N_below (Kd.N_elderB (kN_ HO261.out) gb270 (Nat.le_of_eq hg.symm)) hb); have n6_ := Aside0.mk (Kd.N_below (Kd.N_elderB (kN_ HO264.out) gb270 (Nat.le_of_eq hg.symm)) hb); have n7_ := Aside0.mk (Kd.R_below (kR_ HO267.out) hb); have n8_ := Aside0.mk (below_step (hb0_ HB.out) hb); have n9_ := Aside0.mk (hbox); have n10_ := Aside0.mk ((by rw [hg]; exact (below_size (hb0_ HB.out)) : w.heap.size ≤ gb270)); have n11_ := Aside0.mk ((by rw [hg]; exact (below_size (hb0_ HB.out)) : w.heap.size ≤ gb270)); clear HO_6 HO_7 HO250 HO255 HO258 HO261 HO264 HO267 HB; have HO_6 := n0_; have HO_7 := n1_; have HO250 := n2_; have HO255 := n3_; have HO258 := n4_; have HO261 := n5_; have HO264 := n6_; have HO267 := n7_; have HB := n8_; have BK270 := n9_; have GW270 := n10_; have GE270 := n11_; clear n0_ n1_ n2_ n3_ n4_ n5_ n6_ n7_ n8_ n9_ n10_ n11_ hb hbox hg; have hcz36_0 : w35.cell? ⟨gb270, 0, none⟩ = some (.int .i64 0) := (blk_cell BK270.out 0).trans rfl; have hcz36_1 : w35.cell? ⟨gb270, 1, none⟩ = some (.int .i64 0) := (blk_cell BK270.out 1).trans rfl; have hcz36_2 : w35.cell? ⟨gb270, 2, none⟩ = some (.slice none 0 0) := (blk_cell BK270.out 2).trans rfl; have hcz36_3 : w35.cell? ⟨gb270, 3, none⟩ = some (.slice none 0 0) := (blk_cell BK270.out 3).trans rfl; have hcz36_4 : w35.cell? ⟨gb270, 4, none⟩ = some (.slice none 0 0) := (blk_cell BK270.out 4).trans rfl; have hcz36_5 : w35.cell? ⟨gb270, 5, none⟩ = some (.slice none 0 0) := (blk_cell BK270.out 5).trans rfl; have hcz36_6 : w35.cell? ⟨gb270, 6, none⟩ = some (.slice none 0 0) := (blk_cell BK270.out 6).trans rfl; have hcz36_7 : w35.cell? ⟨gb270, 7, none⟩ = some (.bool false) := (blk_cell BK270.out 7).trans rfl; have hfz36_0 := blk_frozen BK270.out 0; have hfz36_1 := blk_frozen BK270.out 1; have hfz36_2 := blk_frozen BK270.out 2; have hfz36_3 := blk_frozen BK270.out 3; have hfz36_4 := blk_frozen BK270.out 4; have hfz36_5 := blk_frozen BK270.out 5; have hfz36_6 := blk_frozen BK270.out 6; have hfz36_7 := blk_frozen BK270.out 7; obtain ⟨Ao37, co37, eo37⟩ := Kd.R_slice HO255.out; subst eo37; obtain ⟨Ao38, co38, eo38⟩ := Kd.R_slice HO258.out; subst eo38; obtain ⟨Ao39, co39, eo39⟩ := Kd.N_slice HO261.out; subst eo39; obtain ⟨Ao40, co40, eo40⟩ := Kd.N_slice HO264.out; subst eo40; obtain ⟨Ao41, co41, eo41⟩ := Kd.R_slice HO267.out; subst eo41))
     (try simp only [Act.put, List.setIfInBounds_toArray, List.set_cons_zero, List.set_cons_succ])
     go_cut [61] (fun v61 wc => ∃ (kq : Nat) (x61_28 : Bool), v61 = .bool x61_28 ∧ Aside0 (law17_SumTags.j1 kq a1 ji3 x61_28 t251 t252 t253 t256 t259 t262 t265 t268 = some r) ∧ Aside0 (kq ≤ k1) ∧ Aside0 (Kd.R (Kd.int .u8) 5 wc w.heap.size (fun _ => True) (.slice Ao37 t253.length co37) t253) ∧ Aside0 (Kd.R (Kd.int .i64) 3 wc w.heap.size (fun k_ => some k_ ≠ ((.slice Ao41 t265.length co41) : Value).ownBlock) (.slice Ao38 t256.length co38) t256) ∧ Aside0 (Kd.N k101 101 wc w.heap.size (fun k_ => some k_ ≠ ((.slice Ao37 t253.length co37) : Value).ownBlock ∧ some k_ ≠ ((.slice Ao38 t256.length co38) : Value).ownBlock ∧ some k_ ≠ ((.slice Ao40 t262.length co40) : Value).ownBlock ∧ some k_ ≠ ((.slice Ao41 t265.length co41) : Value).ownBlock ∧ k_ ≠ gb270) (.slice Ao39 t259.length co39) t259) ∧ Aside0 (Kd.N k79 79 wc w.heap.size (fun k_ => some k_ ≠ ((.slice Ao37 t253.length co37) : Value).ownBlock ∧ some k_ ≠ ((.slice Ao38 t256.length co38) : Value).ownBlock ∧ some k_ ≠ ((.slice Ao39 t259.length co39) : Value).ownBlock ∧ some k_ ≠ ((.slice Ao41 t265.length co41) : Value).ownBlock ∧ k_ ≠ gb270) (.slice Ao40 t262.length co40) t262) ∧ Aside0 (Kd.R (Kd.int .i64) 3 wc w.heap.size (fun k_ => some k_ ≠ ((.slice Ao38 t256.length co38) : Value).ownBlock) (.slice Ao41 t265.length co41) t265) ∧ Aside0 (wc.heap[gb270]? = some (.cells #[.int .i64 t251, .int .i64 t252, (.slice Ao37 t253.length co37), (.slice Ao38 t256.length co38), (.slice Ao39 t259.length co39), (.slice Ao40 t262.length co40), (.slice Ao41 t265.length co41), .bool t268] 31 (0, 0))) ∧ Aside0 (Below w.heap.size w wc))
     case first =>
      have H := HC29.out
      clear HC29
      by_cases c42 : t269 = 0
      ·
       rw [if_pos c42] at H
       have c42b0 : (t269 == 0) = true := beq_iff_eq.mpr c42
       have c42b1 : (t269 != 0) = false := bne_eq_false_iff_eq.mpr c42
       clear c42
       (first | rw [c42b0] | (simp only [i64_w, i32_w]; rw [c42b0]) | skip)
       by_cases c43 : t251 = 1
       ·
        rw [if_pos c43] at H
        have c43b0 : (t251 == 1) = true := beq_iff_eq.mpr c43
        have c43b1 : (t251 != 1) = false := bne_eq_false_iff_eq.mpr c43
        clear c43
        have H' := Aside0.mk H
        clear H
        have hcz44_0 : w35.cell? ⟨gb270, 0, none⟩ = some (.int .i64 0) := (blk_cell BK270.out 0).trans rfl
        have hcz44_1 : w35.cell? ⟨gb270, 1, none⟩ = some (.int .i64 0) := (blk_cell BK270.out 1).trans rfl
        have hcz44_2 : w35.cell? ⟨gb270, 2, none⟩ = some (.slice none 0 0) := (blk_cell BK270.out 2).trans rfl
        have hcz44_3 : w35.cell? ⟨gb270, 3, none⟩ = some (.slice none 0 0) := (blk_cell BK270.out 3).trans rfl
        have hcz44_4 : w35.cell? ⟨gb270, 4, none⟩ = some (.slice none 0 0) := (blk_cell BK270.out 4).trans rfl
        have hcz44_5 : w35.cell? ⟨gb270, 5, none⟩ = some (.slice none 0 0) := (blk_cell BK270.out 5).trans rfl
        have hcz44_6 : w35.cell? ⟨gb270, 6, none⟩ = some (.slice none 0 0) := (blk_cell BK270.out 6).trans rfl
        have hcz44_7 : w35.cell? ⟨gb270, 7, none⟩ = some (.bool false) := (blk_cell BK270.out 7).trans rfl
        have hfz44_0 := blk_frozen BK270.out 0
        have hfz44_1 := blk_frozen BK270.out 1
        have hfz44_2 := blk_frozen BK270.out 2
        have hfz44_3 := blk_frozen BK270.out 3
        have hfz44_4 := blk_frozen BK270.out 4
        have hfz44_5 := blk_frozen BK270.out 5
        have hfz44_6 := blk_frozen BK270.out 6
        have hfz44_7 := blk_frozen BK270.out 7
        go_wp2
        go_meet
        case rel => exact ⟨_, ((t252 != 1)), (by first | rfl | (simp; done) | (simp [*]; done)), H', ⟨by have := HK1.out; first | omega | exact Nat.le_refl _⟩, ⟨by (try simp only [hl6_1]); (with_reducible repeat (first | apply Kd.R_alloc | apply Kd.R_drewN | apply Kd.R_drew)); exact Kd.R_mono (Kd.R_far (p := ⟨gb270, 7, none⟩) (Kd.R_far (p := ⟨gb270, 6, none⟩) (Kd.R_far (p := ⟨gb270, 5, none⟩) (Kd.R_far (p := ⟨gb270, 4, none⟩) (Kd.R_far (p := ⟨gb270, 3, none⟩) (Kd.R_far (p := ⟨gb270, 2, none⟩) (Kd.R_far (p := ⟨gb270, 1, none⟩) (Kd.R_far (p := ⟨gb270, 0, none⟩) (Kd.R_types HO255.out BK270.out (by decide)) (fun _ hk => hk.2) (.int .i64 t251)) (fun _ hk => hk.2) (.int .i64 t252)) (fun _ hk => hk.2) (.slice Ao37 t253.length co37)) (fun _ hk => hk.2) (.slice Ao38 t256.length co38)) (fun _ hk => hk.2) (.slice Ao39 t259.length co39)) (fun _ hk => hk.2) (.slice Ao40 t262.length co40)) (fun _ hk => hk.2) (.slice Ao41 t265.length co41)) (fun _ hk => hk.2) (.bool t268)) (fun _ hk => trivial)⟩, ⟨by (try simp only [hl6_1]); (with_reducible repeat (first | apply Kd.R_alloc | apply Kd.R_drewN | apply Kd.R_drew)); exact Kd.R_mono (Kd.R_far (p := ⟨gb270, 7, none⟩) (Kd.R_far (p := ⟨gb270, 6, none⟩) (Kd.R_far (p := ⟨gb270, 5, none⟩) (Kd.R_far (p := ⟨gb270, 4, none⟩) (Kd.R_far (p := ⟨gb270, 3, none⟩) (Kd.R_far (p := ⟨gb270, 2, none⟩) (Kd.R_far (p := ⟨gb270, 1, none⟩) (Kd.R_far (p := ⟨gb270, 0, none⟩) (Kd.R_types HO258.out BK270.out (by decide)) (fun _ hk => hk.2) (.int .i64 t251)) (fun _ hk => hk.2) (.int .i64 t252)) (fun _ hk => hk.2) (.slice Ao37 t253.length co37)) (fun _ hk => hk.2) (.slice Ao38 t256.length co38)) (fun _ hk => hk.2) (.slice Ao39 t259.length co39)) (fun _ hk => hk.2) (.slice Ao40 t262.length co40)) (fun _ hk => hk.2) (.slice Ao41 t265.length co41)) (fun _ hk => hk.2) (.bool t268)) (fun _ hk => hk.1)⟩, ⟨by (try simp only [hl6_1]); (with_reducible repeat (first | apply Kd.N_alloc | apply Kd.N_drewN | apply Kd.N_drew)); exact Kd.N_mono (Kd.N_far (p := ⟨gb270, 7, none⟩) (Kd.N_far (p := ⟨gb270, 6, none⟩) (Kd.N_far (p := ⟨gb270, 5, none⟩) (Kd.N_far (p := ⟨gb270, 4, none⟩) (Kd.N_far (p := ⟨gb270, 3, none⟩) (Kd.N_far (p := ⟨gb270, 2, none⟩) (Kd.N_far (p := ⟨gb270, 1, none⟩) (Kd.N_far (p := ⟨gb270, 0, none⟩) (Kd.N_mono HO261.out (fun k_ hk => (⟨hk, hk.2⟩ : _ ∧ k_ ≠ gb270))) (fun _ hk => hk.2) (.int .i64 t251)) (fun _ hk => hk.2) (.int .i64 t252)) (fun _ hk => hk.2) (.slice Ao37 t253.length co37)) (fun _ hk => hk.2) (.slice Ao38 t256.length co38)) (fun _ hk => hk.2) (.slice Ao39 t259.length co39)) (fun _ hk => hk.2) (.slice Ao40 t262.length co40)) (fun _ hk => hk.2) (.slice Ao41 t265.length co41)) (fun _ hk => hk.2) (.bool t268)) (fun _ hk => ⟨hk.1.1.1, ⟨hk.1.1.2.1, ⟨hk.1.1.2.2.1, ⟨hk.1.1.2.2.2.1, hk.1.2⟩⟩⟩⟩)⟩, ⟨by (try simp only [hl6_1]); (with_reducible repeat (first | apply Kd.N_alloc | apply Kd.N_drewN | apply Kd.N_drew)); exact Kd.N_mono (Kd.N_far (p := ⟨gb270, 7, none⟩) (Kd.N_far (p := ⟨gb270, 6, none⟩) (Kd.N_far (p := ⟨gb270, 5, none⟩) (Kd.N_far (p := ⟨gb270, 4, none⟩) (Kd.N_far (p := ⟨gb270, 3, none⟩) (Kd.N_far (p := ⟨gb270, 2, none⟩) (Kd.N_far (p := ⟨gb270, 1, none⟩) (Kd.N_far (p := ⟨gb270, 0, none⟩) (Kd.N_mono HO264.out (fun k_ hk => (⟨hk, hk.2⟩ : _ ∧ k_ ≠ gb270))) (fun _ hk => hk.2) (.int .i64 t251)) (fun _ hk => hk.2) (.int .i64 t252)) (fun _ hk => hk.2) (.slice Ao37 t253.length co37)) (fun _ hk => hk.2) (.slice Ao38 t256.length co38)) (fun _ hk => hk.2) (.slice Ao39 t259.length co39)) (fun _ hk => hk.2) (.slice Ao40 t262.length co40)) (fun _ hk => hk.2) (.slice Ao41 t265.length co41)) (fun _ hk => hk.2) (.bool t268)) (fun _ hk => ⟨hk.1.1.1, ⟨hk.1.1.2.1, ⟨hk.1.1.2.2.1, ⟨hk.1.1.2.2.2.1, hk.1.2⟩⟩⟩⟩)⟩, ⟨by (try simp only [hl6_1]); (with_reducible repeat (first | apply Kd.R_alloc | apply Kd.R_drewN | apply Kd.R_drew)); exact Kd.R_mono (Kd.R_far (p := ⟨gb270, 7, none⟩) (Kd.R_far (p := ⟨gb270, 6, none⟩) (Kd.R_far (p := ⟨gb270, 5, none⟩) (Kd.R_far (p := ⟨gb270, 4, none⟩) (Kd.R_far (p := ⟨gb270, 3, none⟩) (Kd.R_far (p := ⟨gb270, 2, none⟩) (Kd.R_far (p := ⟨gb270, 1, none⟩) (Kd.R_far (p := ⟨gb270, 0, none⟩) (Kd.R_types HO267.out BK270.out (by decide)) (fun _ hk => hk.2) (.int .i64 t251)) (fun _ hk => hk.2) (.int .i64 t252)) (fun _ hk => hk.2) (.slice Ao37 t253.length co37)) (fun _ hk => hk.2) (.slice Ao38 t256.length co38)) (fun _ hk => hk.2) (.slice Ao39 t259.length co39)) (fun _ hk => hk.2) (.slice Ao40 t262.length co40)) (fun _ hk => hk.2) (.slice Ao41 t265.length co41)) (fun _ hk => hk.2) (.bool t268)) (fun _ hk => hk.1)⟩, ⟨by (try simp only [hl6_1]); (with_reducible repeat (first | refine blk_drewN ?_ _ | refine blk_drew ?_ | refine blk_alloc ?_ _)); refine blk_put (cs := #[.int .i64 t251, .int .i64 t252, .slice Ao37 t253.length co37, .slice Ao38 t256.length co38, .slice Ao39 t259.length co39, .slice Ao40 t262.length co40, .slice Ao41 t265.length co41, .bool false]) ?_ 7 _ rfl; (with_reducible repeat (first | refine blk_drewN ?_ _ | refine blk_drew ?_ | refine blk_alloc ?_ _)); refine blk_put (cs := #[.int .i64 t251, .int .i64 t252, .slice Ao37 t253.length co37, .slice Ao38 t256.length co38, .slice Ao39 t259.length co39, .slice Ao40 t262.length co40, .slice none 0 0, .bool false]) ?_ 6 _ rfl; (with_reducible repeat (first | refine blk_drewN ?_ _ | refine blk_drew ?_ | refine blk_alloc ?_ _)); refine blk_put (cs := #[.int .i64 t251, .int .i64 t252, .slice Ao37 t253.length co37, .slice Ao38 t256.length co38, .slice Ao39 t259.length co39, .slice none 0 0, .slice none 0 0, .bool false]) ?_ 5 _ rfl; (with_reducible repeat (first | refine blk_drewN ?_ _ | refine blk_drew ?_ | refine blk_alloc ?_ _)); refine blk_put (cs := #[.int .i64 t251, .int .i64 t252, .slice Ao37 t253.length co37, .slice Ao38 t256.length co38, .slice none 0 0, .slice none 0 0, .slice none 0 0, .bool false]) ?_ 4 _ rfl; (with_reducible repeat (first | refine blk_drewN ?_ _ | refine blk_drew ?_ | refine blk_alloc ?_ _)); refine blk_put (cs := #[.int .i64 t251, .int .i64 t252, .slice Ao37 t253.length co37, .slice none 0 0, .slice none 0 0, .slice none 0 0, .slice none 0 0, .bool false]) ?_ 3 _ rfl; (with_reducible repeat (first | refine blk_drewN ?_ _ | refine blk_drew ?_ | refine blk_alloc ?_ _)); refine blk_put (cs := #[.int .i64 t251, .int .i64 t252, .slice none 0 0, .slice none 0 0, .slice none 0 0, .slice none 0 0, .slice none 0 0, .bool false]) ?_ 2 _ rfl; (with_reducible repeat (first | refine blk_drewN ?_ _ | refine blk_drew ?_ | refine blk_alloc ?_ _)); refine blk_put (cs := #[.int .i64 t251, .int .i64 0, .slice none 0 0, .slice none 0 0, .slice none 0 0, .slice none 0 0, .slice none 0 0, .bool false]) ?_ 1 _ rfl; (with_reducible repeat (first | refine blk_drewN ?_ _ | refine blk_drew ?_ | refine blk_alloc ?_ _)); refine blk_put (cs := #[.int .i64 0, .int .i64 0, .slice none 0 0, .slice none 0 0, .slice none 0 0, .slice none 0 0, .slice none 0 0, .bool false]) ?_ 0 _ rfl; (with_reducible repeat (first | refine blk_drewN ?_ _ | refine blk_drew ?_ | refine blk_alloc ?_ _)); exact BK270.out⟩, ⟨by repeat (first | (with_reducible first | exact HB.out | apply below_alloc | apply pw_below_drewN | apply below_drew1 | refine below_set ?_ GE270.out) | exact HB.out)⟩⟩
       ·
        rw [if_neg c43] at H
        have c43b0 : (t251 == 1) = false := beq_eq_false_iff_ne.mpr c43
        have c43b1 : (t251 != 1) = true := bne_iff_ne.mpr c43
        have H' := Aside0.mk H
        clear H
        have hcz45_0 : w35.cell? ⟨gb270, 0, none⟩ = some (.int .i64 0) := (blk_cell BK270.out 0).trans rfl
        have hcz45_1 : w35.cell? ⟨gb270, 1, none⟩ = some (.int .i64 0) := (blk_cell BK270.out 1).trans rfl
        have hcz45_2 : w35.cell? ⟨gb270, 2, none⟩ = some (.slice none 0 0) := (blk_cell BK270.out 2).trans rfl
        have hcz45_3 : w35.cell? ⟨gb270, 3, none⟩ = some (.slice none 0 0) := (blk_cell BK270.out 3).trans rfl
        have hcz45_4 : w35.cell? ⟨gb270, 4, none⟩ = some (.slice none 0 0) := (blk_cell BK270.out 4).trans rfl
        have hcz45_5 : w35.cell? ⟨gb270, 5, none⟩ = some (.slice none 0 0) := (blk_cell BK270.out 5).trans rfl
        have hcz45_6 : w35.cell? ⟨gb270, 6, none⟩ = some (.slice none 0 0) := (blk_cell BK270.out 6).trans rfl
        have hcz45_7 : w35.cell? ⟨gb270, 7, none⟩ = some (.bool false) := (blk_cell BK270.out 7).trans rfl
        have hfz45_0 := blk_frozen BK270.out 0
        have hfz45_1 := blk_frozen BK270.out 1
        have hfz45_2 := blk_frozen BK270.out 2
        have hfz45_3 := blk_frozen BK270.out 3
        have hfz45_4 := blk_frozen BK270.out 4
        have hfz45_5 := blk_frozen BK270.out 5
        have hfz45_6 := blk_frozen BK270.out 6
        have hfz45_7 := blk_frozen BK270.out 7
        go_wp2
        go_meet
        case rel => exact ⟨_, (true), (by first | rfl | (simp; done) | (simp [*]; done)), H', ⟨by have := HK1.out; first | omega | exact Nat.le_refl _⟩, ⟨by (try simp only [hl6_1]); (with_reducible repeat (first | apply Kd.R_alloc | apply Kd.R_drewN | apply Kd.R_drew)); exact Kd.R_mono (Kd.R_far (p := ⟨gb270, 7, none⟩) (Kd.R_far (p := ⟨gb270, 6, none⟩) (Kd.R_far (p := ⟨gb270, 5, none⟩) (Kd.R_far (p := ⟨gb270, 4, none⟩) (Kd.R_far (p := ⟨gb270, 3, none⟩) (Kd.R_far (p := ⟨gb270, 2, none⟩) (Kd.R_far (p := ⟨gb270, 1, none⟩) (Kd.R_far (p := ⟨gb270, 0, none⟩) (Kd.R_types HO255.out BK270.out (by decide)) (fun _ hk => hk.2) (.int .i64 t251)) (fun _ hk => hk.2) (.int .i64 t252)) (fun _ hk => hk.2) (.slice Ao37 t253.length co37)) (fun _ hk => hk.2) (.slice Ao38 t256.length co38)) (fun _ hk => hk.2) (.slice Ao39 t259.length co39)) (fun _ hk => hk.2) (.slice Ao40 t262.length co40)) (fun _ hk => hk.2) (.slice Ao41 t265.length co41)) (fun _ hk => hk.2) (.bool t268)) (fun _ hk => trivial)⟩, ⟨by (try simp only [hl6_1]); (with_reducible repeat (first | apply Kd.R_alloc | apply Kd.R_drewN | apply Kd.R_drew)); exact Kd.R_mono (Kd.R_far (p := ⟨gb270, 7, none⟩) (Kd.R_far (p := ⟨gb270, 6, none⟩) (Kd.R_far (p := ⟨gb270, 5, none⟩) (Kd.R_far (p := ⟨gb270, 4, none⟩) (Kd.R_far (p := ⟨gb270, 3, none⟩) (Kd.R_far (p := ⟨gb270, 2, none⟩) (Kd.R_far (p := ⟨gb270, 1, none⟩) (Kd.R_far (p := ⟨gb270, 0, none⟩) (Kd.R_types HO258.out BK270.out (by decide)) (fun _ hk => hk.2) (.int .i64 t251)) (fun _ hk => hk.2) (.int .i64 t252)) (fun _ hk => hk.2) (.slice Ao37 t253.length co37)) (fun _ hk => hk.2) (.slice Ao38 t256.length co38)) (fun _ hk => hk.2) (.slice Ao39 t259.length co39)) (fun _ hk => hk.2) (.slice Ao40 t262.length co40)) (fun _ hk => hk.2) (.slice Ao41 t265.length co41)) (fun _ hk => hk.2) (.bool t268)) (fun _ hk => hk.1)⟩, ⟨by (try simp only [hl6_1]); (with_reducible repeat (first | apply Kd.N_alloc | apply Kd.N_drewN | apply Kd.N_drew)); exact Kd.N_mono (Kd.N_far (p := ⟨gb270, 7, none⟩) (Kd.N_far (p := ⟨gb270, 6, none⟩) (Kd.N_far (p := ⟨gb270, 5, none⟩) (Kd.N_far (p := ⟨gb270, 4, none⟩) (Kd.N_far (p := ⟨gb270, 3, none⟩) (Kd.N_far (p := ⟨gb270, 2, none⟩) (Kd.N_far (p := ⟨gb270, 1, none⟩) (Kd.N_far (p := ⟨gb270, 0, none⟩) (Kd.N_mono HO261.out (fun k_ hk => (⟨hk, hk.2⟩ : _ ∧ k_ ≠ gb270))) (fun _ hk => hk.2) (.int .i64 t251)) (fun _ hk => hk.2) (.int .i64 t252)) (fun _ hk => hk.2) (.slice Ao37 t253.length co37)) (fun _ hk => hk.2) (.slice Ao38 t256.length co38)) (fun _ hk => hk.2) (.slice Ao39 t259.length co39)) (fun _ hk => hk.2) (.slice Ao40 t262.length co40)) (fun _ hk => hk.2) (.slice Ao41 t265.length co41)) (fun _ hk => hk.2) (.bool t268)) (fun _ hk => ⟨hk.1.1.1, ⟨hk.1.1.2.1, ⟨hk.1.1.2.2.1, ⟨hk.1.1.2.2.2.1, hk.1.2⟩⟩⟩⟩)⟩, ⟨by (try simp only [hl6_1]); (with_reducible repeat (first | apply Kd.N_alloc | apply Kd.N_drewN | apply Kd.N_drew)); exact Kd.N_mono (Kd.N_far (p := ⟨gb270, 7, none⟩) (Kd.N_far (p := ⟨gb270, 6, none⟩) (Kd.N_far (p := ⟨gb270, 5, none⟩) (Kd.N_far (p := ⟨gb270, 4, none⟩) (Kd.N_far (p := ⟨gb270, 3, none⟩) (Kd.N_far (p := ⟨gb270, 2, none⟩) (Kd.N_far (p := ⟨gb270, 1, none⟩) (Kd.N_far (p := ⟨gb270, 0, none⟩) (Kd.N_mono HO264.out (fun k_ hk => (⟨hk, hk.2⟩ : _ ∧ k_ ≠ gb270))) (fun _ hk => hk.2) (.int .i64 t251)) (fun _ hk => hk.2) (.int .i64 t252)) (fun _ hk => hk.2) (.slice Ao37 t253.length co37)) (fun _ hk => hk.2) (.slice Ao38 t256.length co38)) (fun _ hk => hk.2) (.slice Ao39 t259.length co39)) (fun _ hk => hk.2) (.slice Ao40 t262.length co40)) (fun _ hk => hk.2) (.slice Ao41 t265.length co41)) (fun _ hk => hk.2) (.bool t268)) (fun _ hk => ⟨hk.1.1.1, ⟨hk.1.1.2.1, ⟨hk.1.1.2.2.1, ⟨hk.1.1.2.2.2.1, hk.1.2⟩⟩⟩⟩)⟩, ⟨by (try simp only [hl6_1]); (with_reducible repeat (first | apply Kd.R_alloc | apply Kd.R_drewN | apply Kd.R_drew)); exact Kd.R_mono (Kd.R_far (p := ⟨gb270, 7, none⟩) (Kd.R_far (p := ⟨gb270, 6, none⟩) (Kd.R_far (p := ⟨gb270, 5, none⟩) (Kd.R_far (p := ⟨gb270, 4, none⟩) (Kd.R_far (p := ⟨gb270, 3, none⟩) (Kd.R_far (p := ⟨gb270, 2, none⟩) (Kd.R_far (p := ⟨gb270, 1, none⟩) (Kd.R_far (p := ⟨gb270, 0, none⟩) (Kd.R_types HO267.out BK270.out (by decide)) (fun _ hk => hk.2) (.int .i64 t251)) (fun _ hk => hk.2) (.int .i64 t252)) (fun _ hk => hk.2) (.slice Ao37 t253.length co37)) (fun _ hk => hk.2) (.slice Ao38 t256.length co38)) (fun _ hk => hk.2) (.slice Ao39 t259.length co39)) (fun _ hk => hk.2) (.slice Ao40 t262.length co40)) (fun _ hk => hk.2) (.slice Ao41 t265.length co41)) (fun _ hk => hk.2) (.bool t268)) (fun _ hk => hk.1)⟩, ⟨by (try simp only [hl6_1]); (with_reducible repeat (first | refine blk_drewN ?_ _ | refine blk_drew ?_ | refine blk_alloc ?_ _)); refine blk_put (cs := #[.int .i64 t251, .int .i64 t252, .slice Ao37 t253.length co37, .slice Ao38 t256.length co38, .slice Ao39 t259.length co39, .slice Ao40 t262.length co40, .slice Ao41 t265.length co41, .bool false]) ?_ 7 _ rfl; (with_reducible repeat (first | refine blk_drewN ?_ _ | refine blk_drew ?_ | refine blk_alloc ?_ _)); refine blk_put (cs := #[.int .i64 t251, .int .i64 t252, .slice Ao37 t253.length co37, .slice Ao38 t256.length co38, .slice Ao39 t259.length co39, .slice Ao40 t262.length co40, .slice none 0 0, .bool false]) ?_ 6 _ rfl; (with_reducible repeat (first | refine blk_drewN ?_ _ | refine blk_drew ?_ | refine blk_alloc ?_ _)); refine blk_put (cs := #[.int .i64 t251, .int .i64 t252, .slice Ao37 t253.length co37, .slice Ao38 t256.length co38, .slice Ao39 t259.length co39, .slice none 0 0, .slice none 0 0, .bool false]) ?_ 5 _ rfl; (with_reducible repeat (first | refine blk_drewN ?_ _ | refine blk_drew ?_ | refine blk_alloc ?_ _)); refine blk_put (cs := #[.int .i64 t251, .int .i64 t252, .slice Ao37 t253.length co37, .slice Ao38 t256.length co38, .slice none 0 0, .slice none 0 0, .slice none 0 0, .bool false]) ?_ 4 _ rfl; (with_reducible repeat (first | refine blk_drewN ?_ _ | refine blk_drew ?_ | refine blk_alloc ?_ _)); refine blk_put (cs := #[.int .i64 t251, .int .i64 t252, .slice Ao37 t253.length co37, .slice none 0 0, .slice none 0 0, .slice none 0 0, .slice none 0 0, .bool false]) ?_ 3 _ rfl; (with_reducible repeat (first | refine blk_drewN ?_ _ | refine blk_drew ?_ | refine blk_alloc ?_ _)); refine blk_put (cs := #[.int .i64 t251, .int .i64 t252, .slice none 0 0, .slice none 0 0, .slice none 0 0, .slice none 0 0, .slice none 0 0, .bool false]) ?_ 2 _ rfl; (with_reducible repeat (first | refine blk_drewN ?_ _ | refine blk_drew ?_ | refine blk_alloc ?_ _)); refine blk_put (cs := #[.int .i64 t251, .int .i64 0, .slice none 0 0, .slice none 0 0, .slice none 0 0, .slice none 0 0, .slice none 0 0, .bool false]) ?_ 1 _ rfl; (with_reducible repeat (first | refine blk_drewN ?_ _ | refine blk_drew ?_ | refine blk_alloc ?_ _)); refine blk_put (cs := #[.int .i64 0, .int .i64 0, .slice none 0 0, .slice none 0 0, .slice none 0 0, .slice none 0 0, .slice none 0 0, .bool false]) ?_ 0 _ rfl; (with_reducible repeat (first | refine blk_drewN ?_ _ | refine blk_drew ?_ | refine blk_alloc ?_ _)); exact BK270.out⟩, ⟨by repeat (first | (with_reducible first | exact HB.out | apply below_alloc | apply pw_below_drewN | apply below_drew1 | refine below_set ?_ GE270.out) | exact HB.out)⟩⟩
      ·
       rw [if_neg c42] at H
       have c42b0 : (t269 == 0) = false := beq_eq_false_iff_ne.mpr c42
       have c42b1 : (t269 != 0) = true := bne_iff_ne.mpr c42
       (first | rw [c42b0] | (simp only [i64_w, i32_w]; rw [c42b0]) | skip)
       have H' := Aside0.mk H
       clear H
       go_wp2
       go_meet
       case rel => exact ⟨_, (true), (by first | rfl | (simp; done) | (simp [*]; done)), H', ⟨by have := HK1.out; first | omega | exact Nat.le_refl _⟩, ⟨by (try simp only [hl6_1]); (with_reducible repeat (first | apply Kd.R_alloc | apply Kd.R_drewN | apply Kd.R_drew)); exact Kd.R_mono (Kd.R_far (p := ⟨gb270, 7, none⟩) (Kd.R_far (p := ⟨gb270, 6, none⟩) (Kd.R_far (p := ⟨gb270, 5, none⟩) (Kd.R_far (p := ⟨gb270, 4, none⟩) (Kd.R_far (p := ⟨gb270, 3, none⟩) (Kd.R_far (p := ⟨gb270, 2, none⟩) (Kd.R_far (p := ⟨gb270, 1, none⟩) (Kd.R_far (p := ⟨gb270, 0, none⟩) (Kd.R_types HO255.out BK270.out (by decide)) (fun _ hk => hk.2) (.int .i64 t251)) (fun _ hk => hk.2) (.int .i64 t252)) (fun _ hk => hk.2) (.slice Ao37 t253.length co37)) (fun _ hk => hk.2) (.slice Ao38 t256.length co38)) (fun _ hk => hk.2) (.slice Ao39 t259.length co39)) (fun _ hk => hk.2) (.slice Ao40 t262.length co40)) (fun _ hk => hk.2) (.slice Ao41 t265.length co41)) (fun _ hk => hk.2) (.bool t268)) (fun _ hk => trivial)⟩, ⟨by (try simp only [hl6_1]); (with_reducible repeat (first | apply Kd.R_alloc | apply Kd.R_drewN | apply Kd.R_drew)); exact Kd.R_mono (Kd.R_far (p := ⟨gb270, 7, none⟩) (Kd.R_far (p := ⟨gb270, 6, none⟩) (Kd.R_far (p := ⟨gb270, 5, none⟩) (Kd.R_far (p := ⟨gb270, 4, none⟩) (Kd.R_far (p := ⟨gb270, 3, none⟩) (Kd.R_far (p := ⟨gb270, 2, none⟩) (Kd.R_far (p := ⟨gb270, 1, none⟩) (Kd.R_far (p := ⟨gb270, 0, none⟩) (Kd.R_types HO258.out BK270.out (by decide)) (fun _ hk => hk.2) (.int .i64 t251)) (fun _ hk => hk.2) (.int .i64 t252)) (fun _ hk => hk.2) (.slice Ao37 t253.length co37)) (fun _ hk => hk.2) (.slice Ao38 t256.length co38)) (fun _ hk => hk.2) (.slice Ao39 t259.length co39)) (fun _ hk => hk.2) (.slice Ao40 t262.length co40)) (fun _ hk => hk.2) (.slice Ao41 t265.length co41)) (fun _ hk => hk.2) (.bool t268)) (fun _ hk => hk.1)⟩, ⟨by (try simp only [hl6_1]); (with_reducible repeat (first | apply Kd.N_alloc | apply Kd.N_drewN | apply Kd.N_drew)); exact Kd.N_mono (Kd.N_far (p := ⟨gb270, 7, none⟩) (Kd.N_far (p := ⟨gb270, 6, none⟩) (Kd.N_far (p := ⟨gb270, 5, none⟩) (Kd.N_far (p := ⟨gb270, 4, none⟩) (Kd.N_far (p := ⟨gb270, 3, none⟩) (Kd.N_far (p := ⟨gb270, 2, none⟩) (Kd.N_far (p := ⟨gb270, 1, none⟩) (Kd.N_far (p := ⟨gb270, 0, none⟩) (Kd.N_mono HO261.out (fun k_ hk => (⟨hk, hk.2⟩ : _ ∧ k_ ≠ gb270))) (fun _ hk => hk.2) (.int .i64 t251)) (fun _ hk => hk.2) (.int .i64 t252)) (fun _ hk => hk.2) (.slice Ao37 t253.length co37)) (fun _ hk => hk.2) (.slice Ao38 t256.length co38)) (fun _ hk => hk.2) (.slice Ao39 t259.length co39)) (fun _ hk => hk.2) (.slice Ao40 t262.length co40)) (fun _ hk => hk.2) (.slice Ao41 t265.length co41)) (fun _ hk => hk.2) (.bool t268)) (fun _ hk => ⟨hk.1.1.1, ⟨hk.1.1.2.1, ⟨hk.1.1.2.2.1, ⟨hk.1.1.2.2.2.1, hk.1.2⟩⟩⟩⟩)⟩, ⟨by (try simp only [hl6_1]); (with_reducible repeat (first | apply Kd.N_alloc | apply Kd.N_drewN | apply Kd.N_drew)); exact Kd.N_mono (Kd.N_far (p := ⟨gb270, 7, none⟩) (Kd.N_far (p := ⟨gb270, 6, none⟩) (Kd.N_far (p := ⟨gb270, 5, none⟩) (Kd.N_far (p := ⟨gb270, 4, none⟩) (Kd.N_far (p := ⟨gb270, 3, none⟩) (Kd.N_far (p := ⟨gb270, 2, none⟩) (Kd.N_far (p := ⟨gb270, 1, none⟩) (Kd.N_far (p := ⟨gb270, 0, none⟩) (Kd.N_mono HO264.out (fun k_ hk => (⟨hk, hk.2⟩ : _ ∧ k_ ≠ gb270))) (fun _ hk => hk.2) (.int .i64 t251)) (fun _ hk => hk.2) (.int .i64 t252)) (fun _ hk => hk.2) (.slice Ao37 t253.length co37)) (fun _ hk => hk.2) (.slice Ao38 t256.length co38)) (fun _ hk => hk.2) (.slice Ao39 t259.length co39)) (fun _ hk => hk.2) (.slice Ao40 t262.length co40)) (fun _ hk => hk.2) (.slice Ao41 t265.length co41)) (fun _ hk => hk.2) (.bool t268)) (fun _ hk => ⟨hk.1.1.1, ⟨hk.1.1.2.1, ⟨hk.1.1.2.2.1, ⟨hk.1.1.2.2.2.1, hk.1.2⟩⟩⟩⟩)⟩, ⟨by (try simp only [hl6_1]); (with_reducible repeat (first | apply Kd.R_alloc | apply Kd.R_drewN | apply Kd.R_drew)); exact Kd.R_mono (Kd.R_far (p := ⟨gb270, 7, none⟩) (Kd.R_far (p := ⟨gb270, 6, none⟩) (Kd.R_far (p := ⟨gb270, 5, none⟩) (Kd.R_far (p := ⟨gb270, 4, none⟩) (Kd.R_far (p := ⟨gb270, 3, none⟩) (Kd.R_far (p := ⟨gb270, 2, none⟩) (Kd.R_far (p := ⟨gb270, 1, none⟩) (Kd.R_far (p := ⟨gb270, 0, none⟩) (Kd.R_types HO267.out BK270.out (by decide)) (fun _ hk => hk.2) (.int .i64 t251)) (fun _ hk => hk.2) (.int .i64 t252)) (fun _ hk => hk.2) (.slice Ao37 t253.length co37)) (fun _ hk => hk.2) (.slice Ao38 t256.length co38)) (fun _ hk => hk.2) (.slice Ao39 t259.length co39)) (fun _ hk => hk.2) (.slice Ao40 t262.length co40)) (fun _ hk => hk.2) (.slice Ao41 t265.length co41)) (fun _ hk => hk.2) (.bool t268)) (fun _ hk => hk.1)⟩, ⟨by (try simp only [hl6_1]); (with_reducible repeat (first | refine blk_drewN ?_ _ | refine blk_drew ?_ | refine blk_alloc ?_ _)); refine blk_put (cs := #[.int .i64 t251, .int .i64 t252, .slice Ao37 t253.length co37, .slice Ao38 t256.length co38, .slice Ao39 t259.length co39, .slice Ao40 t262.length co40, .slice Ao41 t265.length co41, .bool false]) ?_ 7 _ rfl; (with_reducible repeat (first | refine blk_drewN ?_ _ | refine blk_drew ?_ | refine blk_alloc ?_ _)); refine blk_put (cs := #[.int .i64 t251, .int .i64 t252, .slice Ao37 t253.length co37, .slice Ao38 t256.length co38, .slice Ao39 t259.length co39, .slice Ao40 t262.length co40, .slice none 0 0, .bool false]) ?_ 6 _ rfl; (with_reducible repeat (first | refine blk_drewN ?_ _ | refine blk_drew ?_ | refine blk_alloc ?_ _)); refine blk_put (cs := #[.int .i64 t251, .int .i64 t252, .slice Ao37 t253.length co37, .slice Ao38 t256.length co38, .slice Ao39 t259.length co39, .slice none 0 0, .slice none 0 0, .bool false]) ?_ 5 _ rfl; (with_reducible repeat (first | refine blk_drewN ?_ _ | refine blk_drew ?_ | refine blk_alloc ?_ _)); refine blk_put (cs := #[.int .i64 t251, .int .i64 t252, .slice Ao37 t253.length co37, .slice Ao38 t256.length co38, .slice none 0 0, .slice none 0 0, .slice none 0 0, .bool false]) ?_ 4 _ rfl; (with_reducible repeat (first | refine blk_drewN ?_ _ | refine blk_drew ?_ | refine blk_alloc ?_ _)); refine blk_put (cs := #[.int .i64 t251, .int .i64 t252, .slice Ao37 t253.length co37, .slice none 0 0, .slice none 0 0, .slice none 0 0, .slice none 0 0, .bool false]) ?_ 3 _ rfl; (with_reducible repeat (first | refine blk_drewN ?_ _ | refine blk_drew ?_ | refine blk_alloc ?_ _)); refine blk_put (cs := #[.int .i64 t251, .int .i64 t252, .slice none 0 0, .slice none 0 0, .slice none 0 0, .slice none 0 0, .slice none 0 0, .bool false]) ?_ 2 _ rfl; (with_reducible repeat (first | refine blk_drewN ?_ _ | refine blk_drew ?_ | refine blk_alloc ?_ _)); refine blk_put (cs := #[.int .i64 t251, .int .i64 0, .slice none 0 0, .slice none 0 0, .slice none 0 0, .slice none 0 0, .slice none 0 0, .bool false]) ?_ 1 _ rfl; (with_reducible repeat (first | refine blk_drewN ?_ _ | refine blk_drew ?_ | refine blk_alloc ?_ _)); refine blk_put (cs := #[.int .i64 0, .int .i64 0, .slice none 0 0, .slice none 0 0, .slice none 0 0, .slice none 0 0, .slice none 0 0, .bool false]) ?_ 0 _ rfl; (with_reducible repeat (first | refine blk_drewN ?_ _ | refine blk_drew ?_ | refine blk_alloc ?_ _)); exact BK270.out⟩, ⟨by repeat (first | (with_reducible first | exact HB.out | apply below_alloc | apply pw_below_drewN | apply below_drew1 | refine below_set ?_ GE270.out) | exact HB.out)⟩⟩
     case rest =>
      clear HC29
      try clear c1
      try clear p1
      try clear q1
      try clear hx1
      try clear c2
      try clear p2
      try clear hcv2
      try clear c3
      try clear c4
      try clear c4b0
      try clear c4b1
      try clear c5
      try clear c5b0
      try clear c5b1
      try clear c6
      try clear c6b0
      try clear c6b1
      try clear p6
      try clear c7
      try clear c12
      try clear c12b0
      try clear c13
      try clear c13b0
      try clear c14
      try clear c14b0
      try clear c15
      try clear p15
      try clear q15
      try clear hx15
      try clear hf15
      try clear c16
      try clear c16b0
      try clear c16b1
      try clear c16b2
      try clear c17
      try clear c17b0
      try clear p18
      try clear q18
      try clear hx18
      try clear hf18
      try clear c19
      try clear hx19
      try clear hf19
      try clear hcv23
      try clear c26
      try clear c26b0
      try clear c26b1
      try clear c27
      try clear c27b0
      try clear c27b1
      try clear c36
      try clear c42
      try clear c42b0
      try clear c42b1
      try clear c43
      try clear c43b0
      try clear c43b1
      try clear hcz36_0
      try clear hcz36_1
      try clear hcz36_2
      try clear hcz36_3
      try clear hcz36_4
      try clear hcz36_5
      try clear hcz36_6
      try clear hcz36_7
      try clear hcz44_0
      try clear hcz44_1
      try clear hcz44_2
      try clear hcz44_3
      try clear hcz44_4
      try clear hcz44_5
      try clear hcz44_6
      try clear hcz44_7
      try clear hcz45_0
      try clear hcz45_1
      try clear hcz45_2
      try clear hcz45_3
      try clear hcz45_4
      try clear hcz45_5
      try clear hcz45_6
      try clear hcz45_7
      try clear hfz36_0
      try clear hfz36_1
      try clear hfz36_2
      try clear hfz36_3
      try clear hfz36_4
      try clear hfz36_5
      try clear hfz36_6
      try clear hfz36_7
      try clear hfz44_0
      try clear hfz44_1
      try clear hfz44_2
      try clear hfz44_3
      try clear hfz44_4
      try clear hfz44_5
      try clear hfz44_6
      try clear hfz44_7
      try clear hfz45_0
      try clear hfz45_1
      try clear hfz45_2
      try clear hfz45_3
      try clear hfz45_4
      try clear hfz45_5
      try clear hfz45_6
      try clear hfz45_7
      try clear hx15_0
      try clear hx15_1
      try clear hx15_2
      try clear hx15_3
      try clear hx15_4
      try clear hx15_5
      try clear hx15_6
      try clear hx15_7
      try clear hx18_0
      try clear hx19_1
      try clear p15
      try clear p18
      try clear p2
      try clear p6
      try clear q15
      try clear q18
      obtain ⟨kq, x61_28, rfl, HA, HJ28, HO_271002, HO_271003, HO_271004, HO_271005, HO_271006, BK270, HB⟩ := hcut
      cases kq with
      | zero => exact absurd HA.out (by simp [law17_SumTags.j1])
      | succ kj28 =>
       have H := HA.out
       clear HA
       simp only [law17_SumTags.j1] at H
       by_cases c46 : x61_28 = true
       ·
        subst c46
        have H1 : (some false) = some r := by rw [if_pos rfl] at H; exact H
        clear H
        have H := H1
        clear H1
        exact absurd ((Option.some.inj H).trans hr_) (by decide)
       replace c46 := Bool.eq_false_iff.mpr c46
       subst c46
       have H1 : ((sum_Tag.f kj28 t251 t252 t253 t256 t259 t262 t265 t268 (([a1] : List Int))).bind fun bt274 => ((sum_Tag.f kj28 t251 t252 t253 t256 t259 t262 t265 t268 ([] : List Int)).bind fun bt276 => (if ((bt274.2 == 0) == (decide ((wrap64 (a1)) < ji3))) = true then (if bt274.2 = 0 then (if bt274.1 = (wrap64 (a1)) then (if bt276.2 = 21 then ((sum_TagSize.f kj28 ji3).bind fun t278 => (if 0 ≤ (IntKind.u64.wrap (t278)) then (if (shl .i64 1 (IntKind.u64.wrap (t278))) ≥ ji3 then ((sum_TagSize.f kj28 ji3).bind fun t279 => (if 0 ≤ (IntKind.u64.wrap (wrap64 (t279 - 1))) then (if (shl .i64 1 (IntKind.u64.wrap (wrap64 (t279 - 1)))) < ji3 then ((Awake17.f).bind fun t280 => (some t280)) else (some false)) else (none))) else (some false)) else (none))) else (some false)) else (some false)) else (if bt274.2 = 21 then (if bt276.2 = 21 then ((sum_TagSize.f kj28 ji3).bind fun t281 => (if 0 ≤ (IntKind.u64.wrap (t281)) then (if (shl .i64 1 (IntKind.u64.wrap (t281))) ≥ ji3 then ((sum_TagSize.f kj28 ji3).bind fun t282 => (if 0 ≤ (IntKind.u64.wrap (wrap64 (t282 - 1))) then (if (shl .i64 1 (IntKind.u64.wrap (wrap64 (t282 - 1)))) < ji3 then ((Awake17.f).bind fun t283 => (some t283)) else (some false)) else (none))) else (some false)) else (none))) else (some false)) else (some false))) else (some false)))) = some r := by rw [if_neg (show ¬ (false = true) by decide)] at H; exact H
       clear H
       have H := H1
       clear H1
       obtain ⟨y271, hy271⟩ : ∃ y_ : List Int, y_ = (([a1] : List Int)) := ⟨_, rfl⟩
       replace H : ((sum_Tag.f kj28 t251 t252 t253 t256 t259 t262 t265 t268 y271).bind fun bt274 => ((sum_Tag.f kj28 t251 t252 t253 t256 t259 t262 t265 t268 ([] : List Int)).bind fun bt276 => (if ((bt274.2 == 0) == (decide ((wrap64 (a1)) < ji3))) = true then (if bt274.2 = 0 then (if bt274.1 = (wrap64 (a1)) then (if bt276.2 = 21 then ((sum_TagSize.f kj28 ji3).bind fun t278 => (if 0 ≤ (IntKind.u64.wrap (t278)) then (if (shl .i64 1 (IntKind.u64.wrap (t278))) ≥ ji3 then ((sum_TagSize.f kj28 ji3).bind fun t279 => (if 0 ≤ (IntKind.u64.wrap (wrap64 (t279 - 1))) then (if (shl .i64 1 (IntKind.u64.wrap (wrap64 (t279 - 1)))) < ji3 then ((Awake17.f).bind fun t280 => (some t280)) else (some false)) else (none))) else (some false)) else (none))) else (some false)) else (some false)) else (if bt274.2 = 21 then (if bt276.2 = 21 then ((sum_TagSize.f kj28 ji3).bind fun t281 => (if 0 ≤ (IntKind.u64.wrap (t281)) then (if (shl .i64 1 (IntKind.u64.wrap (t281))) ≥ ji3 then ((sum_TagSize.f kj28 ji3).bind fun t282 => (if 0 ≤ (IntKind.u64.wrap (wrap64 (t282 - 1))) then (if (shl .i64 1 (IntKind.u64.wrap (wrap64 (t282 - 1)))) < ji3 then ((Awake17.f).bind fun t283 => (some t283)) else (some false)) else (none))) else (some false)) else (none))) else (some false)) else (some false))) else (some false)))) = some r := by first | (rw [hy271]; with_reducible exact H) | (have H2_ := (Option.bind_some _ _).symm.trans H; rw [hy271]; with_reducible exact H2_) | (have H2_ := (Option.bind_some _ _).symm.trans H; with_reducible exact H2_) | with_reducible exact H | (rw [hy271]; exact H) | exact H
       have Ny271 := Aside0.mk hy271
       clear hy271
       replace H := Option.bind_eq_some_iff.mp H
       obtain ⟨⟨t274, t275⟩, A470, H⟩ := H
       replace H : ((sum_Tag.f kj28 t251 t252 t253 t256 t259 t262 t265 t268 ([] : List Int)).bind fun bt276 => (if ((t275 == 0) == (decide ((wrap64 (a1)) < ji3))) = true then (if t275 = 0 then (if t274 = (wrap64 (a1)) then (if bt276.2 = 21 then ((sum_TagSize.f kj28 ji3).bind fun t278 => (if 0 ≤ (IntKind.u64.wrap (t278)) then (if (shl .i64 1 (IntKind.u64.wrap (t278))) ≥ ji3 then ((sum_TagSize.f kj28 ji3).bind fun t279 => (if 0 ≤ (IntKind.u64.wrap (wrap64 (t279 - 1))) then (if (shl .i64 1 (IntKind.u64.wrap (wrap64 (t279 - 1)))) < ji3 then ((Awake17.f).bind fun t280 => (some t280)) else (some false)) else (none))) else (some false)) else (none))) else (some false)) else (some false)) else (if t275 = 21 then (if bt276.2 = 21 then ((sum_TagSize.f kj28 ji3).bind fun t281 => (if 0 ≤ (IntKind.u64.wrap (t281)) then (if (shl .i64 1 (IntKind.u64.wrap (t281))) ≥ ji3 then ((sum_TagSize.f kj28 ji3).bind fun t282 => (if 0 ≤ (IntKind.u64.wrap (wrap64 (t282 - 1))) then (if (shl .i64 1 (IntKind.u64.wrap (wrap64 (t282 - 1)))) < ji3 then ((Awake17.f).bind fun t283 => (some t283)) else (some false)) else (none))) else (some false)) else (none))) else (some false)) else (some false))) else (some false))) = some r := H
       have A47 := Aside0.mk A470
       clear A470
       replace H := Option.bind_eq_some_iff.mp H
       obtain ⟨⟨t276, t277⟩, A480, H⟩ := H
       replace H : (if ((t275 == 0) == (decide ((wrap64 (a1)) < ji3))) = true then (if t275 = 0 then (if t274 = (wrap64 (a1)) then (if t277 = 21 then ((sum_TagSize.f kj28 ji3).bind fun t278 => (if 0 ≤ (IntKind.u64.wrap (t278)) then (if (shl .i64 1 (IntKind.u64.wrap (t278))) ≥ ji3 then ((sum_TagSize.f kj28 ji3).bind fun t279 => (if 0 ≤ (IntKind.u64.wrap (wrap64 (t279 - 1))) then (if (shl .i64 1 (IntKind.u64.wrap (wrap64 (t279 - 1)))) < ji3 then ((Awake17.f).bind fun t280 => (some t280)) else (some false)) else (none))) else (some false)) else (none))) else (some false)) else (some false)) else (if t275 = 21 then (if t277 = 21 then ((sum_TagSize.f kj28 ji3).bind fun t281 => (if 0 ≤ (IntKind.u64.wrap (t281)) then (if (shl .i64 1 (IntKind.u64.wrap (t281))) ≥ ji3 then ((sum_TagSize.f kj28 ji3).bind fun t282 => (if 0 ≤ (IntKind.u64.wrap (wrap64 (t282 - 1))) then (if (shl .i64 1 (IntKind.u64.wrap (wrap64 (t282 - 1)))) < ji3 then ((Awake17.f).bind fun t283 => (some t283)) else (some false)) else (none))) else (some false)) else (none))) else (some false)) else (some false))) else (some false)) = some r := H
       have A48 := Aside0.mk A480
       clear A480
       by_cases c49 : ((t275 == 0) == (decide ((wrap64 (a1)) < ji3))) = true
       rotate_left
       ·
        rw [if_neg c49] at H
        have c49b0 : ((t275 == 0) == (decide ((wrap64 (a1)) < ji3))) = false := by simpa using c49
        (try (have c49b1 : decide ((t275 == 0) = (decide ((wrap64 (a1)) < ji3))) = false := by simpa using c49))
        (try (have c49b2 : ((t275 == 0) == (decide ((wrap64 (a1)) < ji3))) = false := by simpa using c49))
        (try (have c49b3 : ¬ ((t275 == 0) = (decide ((wrap64 (a1)) < ji3))) := by simpa using c49))
        clear c49
        exact absurd ((Option.some.inj H).trans hr_) (by decide)
       rw [if_pos c49] at H
       have c49b0 : ((t275 == 0) == (decide ((wrap64 (a1)) < ji3))) = true := c49
       (try (have c49b1 : decide ((t275 == 0) = (decide ((wrap64 (a1)) < ji3))) = true := by simpa using c49))
       (try (have c49b2 : ((t275 == 0) == (decide ((wrap64 (a1)) < ji3))) = true := by simpa using c49))
       clear c49
       by_cases c50 : t275 = 0
       ·
        rw [if_pos c50] at H
        have c50b0 : (t275 == 0) = true := beq_iff_eq.mpr c50
        have c50b1 : (t275 != 0) = false := bne_eq_false_iff_eq.mpr c50
        clear c50
        by_cases c51 : t274 = (wrap64 (a1))
        rotate_left
        ·
         rw [if_neg c51] at H
         have c51b0 : (t274 == (wrap64 (a1))) = false := beq_eq_false_iff_ne.mpr c51
         have c51b1 : (t274 != (wrap64 (a1))) = true := bne_iff_ne.mpr c51
         exact absurd ((Option.some.inj H).trans hr_) (by decide)
        rw [if_pos c51] at H
        have c51b0 : (t274 == (wrap64 (a1))) = true := beq_iff_eq.mpr c51
        have c51b1 : (t274 != (wrap64 (a1))) = false := bne_eq_false_iff_eq.mpr c51
        clear c51
        by_cases c52 : t277 = 21
        rotate_left
        ·
         rw [if_neg c52] at H
         have c52b0 : (t277 == 21) = false := beq_eq_false_iff_ne.mpr c52
         have c52b1 : (t277 != 21) = true := bne_iff_ne.mpr c52
         exact absurd ((Option.some.inj H).trans hr_) (by decide)
        rw [if_pos c52] at H
        have c52b0 : (t277 == 21) = true := beq_iff_eq.mpr c52
        have c52b1 : (t277 != 21) = false := bne_eq_false_iff_eq.mpr c52
        clear c52
        replace H := Option.bind_eq_some_iff.mp H
        obtain ⟨t278, A530, H⟩ := H
        replace H : (if 0 ≤ (IntKind.u64.wrap (t278)) then (if (shl .i64 1 (IntKind.u64.wrap (t278))) ≥ ji3 then ((sum_TagSize.f kj28 ji3).bind fun t279 => (if 0 ≤ (IntKind.u64.wrap (wrap64 (t279 - 1))) then (if (shl .i64 1 (IntKind.u64.wrap (wrap64 (t279 - 1)))) < ji3 then ((Awake17.f).bind fun t280 => (some t280)) else (some false)) else (none))) else (some false)) else (none)) = some r := H
        have A53 := Aside0.mk A530
        clear A530
        obtain ⟨ji54, hji54⟩ : ∃ j_ : Int, (IntKind.u64.wrap (t278)) = j_ := ⟨_, rfl⟩
        replace H : (if 0 ≤ (ji54) then (if (shl .i64 1 (ji54)) ≥ ji3 then ((sum_TagSize.f kj28 ji3).bind fun t279 => (if 0 ≤ (IntKind.u64.wrap (wrap64 (t279 - 1))) then (if (shl .i64 1 (IntKind.u64.wrap (wrap64 (t279 - 1)))) < ji3 then ((Awake17.f).bind fun t280 => (some t280)) else (some false)) else (none))) else (some false)) else (none)) = some r := by first | (rw [hji54] at H; exact H) | (simp only [hji54] at H ⊢; exact H)
        (try rw [hji54] at A47)
        (try rw [hji54] at A48)
        (try rw [hji54] at A53)
        by_cases c55 : 0 ≤ (ji54)
        rotate_left
        ·
         rw [if_neg c55] at H
         exact absurd H (by simp)
        rw [if_pos c55] at H
        have c55b0 := eq_true c55
        have c55b1 : decide (0 ≤ (ji54)) = true := decide_eq_true c55
        clear c55
        obtain ⟨ji56, hji56⟩ : ∃ j_ : Int, (shl .i64 1 (ji54)) = j_ := ⟨_, rfl⟩
        replace H : (if (ji56) ≥ ji3 then ((sum_TagSize.f kj28 ji3).bind fun t279 => (if 0 ≤ (IntKind.u64.wrap (wrap64 (t279 - 1))) then (if (shl .i64 1 (IntKind.u64.wrap (wrap64 (t279 - 1)))) < ji3 then ((Awake17.f).bind fun t280 => (some t280)) else (some false)) else (none))) else (some false)) = some r := by first | (rw [hji56] at H; exact H) | (simp only [hji56] at H ⊢; exact H)
        (try rw [hji56] at A47)
        (try rw [hji56] at A48)
        (try rw [hji56] at A53)
        have hji56_ : (IntKind.i64.wrap (1 * 2 ^ min (ji54).toNat 64)) = ji56 := hji56
        have hji56z : (ji54) ≤ 64 → (IntKind.i64.wrap (1 * 2 ^ (ji54).toNat)) = ji56 := shl_small hji56
        have hji56u : (IntKind.i64.wrap (2 ^ min (ji54).toNat 64)) = ji56 := by have h_ := hji56_; rw [Int.one_mul] at h_; exact h_
        have hji56v : (ji54) ≤ 64 → (IntKind.i64.wrap (2 ^ (ji54).toNat)) = ji56 := fun hle_ => by have h_ := hji56z hle_; rw [Int.one_mul] at h_; exact h_
        have hji56y : (wrap64 (1 * 2 ^ min (ji54).toNat 64)) = ji56 := (i64_w _).symm.trans hji56_
        have hji56x : (ji54) ≤ 64 → (wrap64 (1 * 2 ^ (ji54).toNat)) = ji56 := fun h_ => (i64_w _).symm.trans (hji56z h_)
        by_cases c57 : (ji56) ≥ ji3
        rotate_left
        ·
         rw [if_neg c57] at H
         have c57b0 : decide (ji3 ≤ (ji56)) = false := decide_eq_false c57
         clear c57
         exact absurd ((Option.some.inj H).trans hr_) (by decide)
        rw [if_pos c57] at H
        have c57b0 : decide (ji3 ≤ (ji56)) = true := decide_eq_true c57
        clear c57
        replace H := Option.bind_eq_some_iff.mp H
        obtain ⟨t279, A580, H⟩ := H
        replace H : (if 0 ≤ (IntKind.u64.wrap (wrap64 (t279 - 1))) then (if (shl .i64 1 (IntKind.u64.wrap (wrap64 (t279 - 1)))) < ji3 then ((Awake17.f).bind fun t280 => (some t280)) else (some false)) else (none)) = some r := H
        have A58 := Aside0.mk A580
        clear A580
        obtain ⟨ji59, hji59⟩ : ∃ j_ : Int, (IntKind.u64.wrap (wrap64 (t279 - 1))) = j_ := ⟨_, rfl⟩
        replace H : (if 0 ≤ (ji59) then (if (shl .i64 1 (ji59)) < ji3 then ((Awake17.f).bind fun t280 => (some t280)) else (some false)) else (none)) = some r := by first | (rw [hji59] at H; exact H) | (simp only [hji59] at H ⊢; exact H)
        (try rw [hji59] at A47)
        (try rw [hji59] at A48)
        (try rw [hji59] at A53)
        (try rw [hji59] at A58)
        by_cases c60 : 0 ≤ (ji59)
        rotate_left
        ·
         rw [if_neg c60] at H
         exact absurd H (by simp)
        rw [if_pos c60] at H
        have c60b0 := eq_true c60
        have c60b1 : decide (0 ≤ (ji59)) = true := decide_eq_true c60
        clear c60
        obtain ⟨ji61, hji61⟩ : ∃ j_ : Int, (shl .i64 1 (ji59)) = j_ := ⟨_, rfl⟩
        replace H : (if (ji61) < ji3 then ((Awake17.f).bind fun t280 => (some t280)) else (some false)) = some r := by first | (rw [hji61] at H; exact H) | (simp only [hji61] at H ⊢; exact H)
        (try rw [hji61] at A47)
        (try rw [hji61] at A48)
        (try rw [hji61] at A53)
        (try rw [hji61] at A58)
        have hji61_ : (IntKind.i64.wrap (1 * 2 ^ min (ji59).toNat 64)) = ji61 := hji61
        have hji61z : (ji59) ≤ 64 → (IntKind.i64.wrap (1 * 2 ^ (ji59).toNat)) = ji61 := shl_small hji61
        have hji61u : (IntKind.i64.wrap (2 ^ min (ji59).toNat 64)) = ji61 := by have h_ := hji61_; rw [Int.one_mul] at h_; exact h_
        have hji61v : (ji59) ≤ 64 → (IntKind.i64.wrap (2 ^ (ji59).toNat)) = ji61 := fun hle_ => by have h_ := hji61z hle_; rw [Int.one_mul] at h_; exact h_
        have hji61y : (wrap64 (1 * 2 ^ min (ji59).toNat 64)) = ji61 := (i64_w _).symm.trans hji61_
        have hji61x : (ji59) ≤ 64 → (wrap64 (1 * 2 ^ (ji59).toNat)) = ji61 := fun h_ => (i64_w _).symm.trans (hji61z h_)
        by_cases c62 : (ji61) < ji3
        rotate_left
        ·
         rw [if_neg c62] at H
         have c62b0 : decide ((ji61) < ji3) = false := decide_eq_false c62
         clear c62
         exact absurd ((Option.some.inj H).trans hr_) (by decide)
        rw [if_pos c62] at H
        have c62b0 : decide ((ji61) < ji3) = true := decide_eq_true c62
        clear c62
        replace H := Option.bind_eq_some_iff.mp H
        obtain ⟨t280, A630, H⟩ := H
        replace H : (some t280) = some r := H
        have A63 := Aside0.mk A630
        clear A630
        obtain rfl := Option.some.inj H
        have hcz64_0 : wc.cell? ⟨gb270, 0, none⟩ = some (.int .i64 t251) := (blk_cell BK270.out 0).trans rfl
        have hcz64_1 : wc.cell? ⟨gb270, 1, none⟩ = some (.int .i64 t252) := (blk_cell BK270.out 1).trans rfl
        have hcz64_2 : wc.cell? ⟨gb270, 2, none⟩ = some (.slice Ao37 t253.length co37) := (blk_cell BK270.out 2).trans rfl
        have hcz64_3 : wc.cell? ⟨gb270, 3, none⟩ = some (.slice Ao38 t256.length co38) := (blk_cell BK270.out 3).trans rfl
        have hcz64_4 : wc.cell? ⟨gb270, 4, none⟩ = some (.slice Ao39 t259.length co39) := (blk_cell BK270.out 4).trans rfl
        have hcz64_5 : wc.cell? ⟨gb270, 5, none⟩ = some (.slice Ao40 t262.length co40) := (blk_cell BK270.out 5).trans rfl
        have hcz64_6 : wc.cell? ⟨gb270, 6, none⟩ = some (.slice Ao41 t265.length co41) := (blk_cell BK270.out 6).trans rfl
        have hcz64_7 : wc.cell? ⟨gb270, 7, none⟩ = some (.bool t268) := (blk_cell BK270.out 7).trans rfl
        have hfz64_0 := blk_frozen BK270.out 0
        have hfz64_1 := blk_frozen BK270.out 1
        have hfz64_2 := blk_frozen BK270.out 2
        have hfz64_3 := blk_frozen BK270.out 3
        have hfz64_4 := blk_frozen BK270.out 4
        have hfz64_5 := blk_frozen BK270.out 5
        have hfz64_6 := blk_frozen BK270.out 6
        have hfz64_7 := blk_frozen BK270.out 7
        have ce_ := Option.some.inj (A53.out.symm.trans A58.out)
        subst ce_
        have cd_ : decide ((wrap64 (a1)) < ji3) = true := by simpa [c50b0] using c49b0
        go_wp2_with (first | ((with_reducible refine gate_dst (N := 65) rfl ?_); refine Kd.R_lit (Kd.int .u8) _ 5 ?hg (N := 65) ?hd (xs := ([a1] : List Int)) (inner := [.int .u8 a1]) (ok := fun _ => True) (okp := fun _ => True) ?hr ?hp (fun _ hk => hk) trivial (Below.refl _ _) (Nat.le_refl _) (by simp) ?_; (case hd => rfl); (case hg => rfl); (case hr => first | (go_simp; done) | (go_simp; rfl)); (case hp => exact (Reps.one (show Kd.M (Kd.int .u8) _ _ _ a1 [.int .u8 a1] from rfl) (Reps.none _ _))); intro v272 w65 ho66 hb hg_ hnew_; clear hg_ hnew_; (first | rw [← Ny271.out] at ho66 | (simp only [Int.reduceToNat] at ho66; rw [← Ny271.out] at ho66)); have n0_ := Aside0.mk (Kd.R_elder' (kR_ HO_271002.out) (Kd.R_base ho66) hb); have n1_ := Aside0.mk (Kd.R_below (kR_ HO_271003.out) hb); have n2_ := Aside0.mk (Kd.N_elder' (kN_ HO_271004.out) (Kd.R_base ho66) hb); have n3_ := Aside0.mk (Kd.N_elder' (kN_ HO_271005.out) (Kd.R_base ho66) hb); have n4_ := Aside0.mk (Kd.R_below (kR_ HO_271006.out) hb); have n5_ := Aside0.mk (Kd.R_lower (Kd.R_new' ho66 (Kd.R_lt (kR_ HO_271002.out))) (below_size (hb1_ HB.out GE270.out))); have n6_ := Aside0.mk (blk_below (g := gb270) (o := .cells #[.int .i64 t251, .int .i64 t252, .slice Ao37 t253.length co37, .slice Ao38 t256.length co38, .slice Ao39 t259.length co39, .slice Ao40 t262.length co40, .slice Ao41 t265.length co41, .bool t268] 31 (0, 0)) (bk_ BK270.out) hb); have n7_ := Aside0.mk (below_step (hb1_ HB.out GE270.out) hb); clear HO_271002 HO_271003 HO_271004 HO_271005 HO_271006 BK270 HB; have HO_271002 := n0_; have HO_271003 := n1_; have HO_271004 := n2_; have HO_271005 := n3_; have HO_271006 := n4_; have HO273 := n5_; have BK270 := n6_; have HB := n7_; clear n0_ n1_ n2_ n3_ n4_ n5_ n6_ n7_ hb ho66; obtain ⟨Ao67, co67, eo67⟩ := Kd.R_slice HO273.out; subst eo67) | ((with_reducible refine gate_callee (f := 40) rfl ?_); refine goesL_ (some 66) rfl rfl Try.func40 (by kernel_rfl) rfl #[.agg #[.int .i64 t251, .int .i64 t252, .slice Ao37 t253.length co37, .slice Ao38 t256.length co38, .slice Ao39 t259.length co39, .slice Ao40 t262.length co40, .slice Ao41 t265.length co41, .bool t268], .slice Ao67 y271.length co67] rfl (by (try simp only [List.map_toArray, List.map_cons, List.map_nil]); first | done | rfl | (simp only [List.length_drop, List.length_take]; rfl)) ?_; (with_reducible refine (sum_Tag.calls kj28 t251 t252 _ _ t253 _ _ t256 _ _ t259 _ _ t262 _ _ t265 t268 _ _ y271 t274 t275 _ ?side1 ?side2 ?side3 ?side4 ?side5 ?side6 ?side7 ?side8 ?side9 ?side10 ?side11 ?side12 A47.out).mono ?_); (case side1 => repeat (first | exact (Kd.R_reads' HO_271002.out).2.2 | (with_reducible refine Kd.C_alloc ?_ _) | (with_reducible refine Kd.C_drewN ?_ _) | (with_reducible refine Kd.C_drew ?_))); (case side2 => exact (Kd.R_reads' HO_271002.out).2.1); (case side3 => repeat (first | exact (Kd.R_reads' HO_271003.out).2.2 | (with_reducible refine Kd.C_alloc ?_ _) | (with_reducible refine Kd.C_drewN ?_ _) | (with_reducible refine Kd.C_drew ?_))); (case side4 => exact (Kd.R_reads' HO_271003.out).2.1); (case side5 => repeat (first | exact (Kd.N_reads' HO_271004.out).2.2 | (with_reducible refine Kd.C_alloc ?_ _) | (with_reducible refine Kd.C_drewN ?_ _) | (with_reducible refine Kd.C_drew ?_))); (case side6 => exact (Kd.N_reads' HO_271004.out).2.1); (case side7 => repeat (first | exact (Kd.N_reads' HO_271005.out).2.2 | (with_reducible refine Kd.C_alloc ?_ _) | (with_reducible refine Kd.C_drewN ?_ _) | (with_reducible refine Kd.C_drew ?_))); (case side8 => exact (Kd.N_reads' HO_271005.out).2.1); (case side9 => repeat (first | exact (Kd.R_reads' HO_271006.out).2.2 | (with_reducible refine Kd.C_alloc ?_ _) | (with_reducible refine Kd.C_drewN ?_ _) | (with_reducible refine Kd.C_drew ?_))); (case side10 => exact (Kd.R_reads' HO_271006.out).2.1); (case side11 => repeat (first | exact (Kd.R_reads' HO273.out).2.2 | (with_reducible refine Kd.C_alloc ?_ _) | (with_reducible refine Kd.C_drewN ?_ _) | (with_reducible refine Kd.C_drew ?_))); (case side12 => exact (Kd.R_reads' HO273.out).2.1); rintro e w68 ⟨rfl, hb⟩; refine ⟨_, rfl, ?_⟩; have n0_ := Aside0.mk (Kd.R_below (kR_ HO_271002.out) hb); have n1_ := Aside0.mk (Kd.R_below (kR_ HO_271003.out) hb); have n2_ := Aside0.mk (Kd.N_below (kN_ HO_271004.out) hb); have n3_ := Aside0.mk (Kd.N_below (kN_ HO_271005.out) hb); have n4_ := Aside0.mk (Kd.R_below (kR_ HO_271006.out) hb); have n5_ := Aside0.mk (Kd.R_below (kR_ HO273.out) hb); have n6_ := Aside0.mk (blk_below (g := gb270) (o := .cells #[.int .i64 t251, .int .i64 t252, .slice Ao37 t253.length co37, .slice Ao38 t256.length co38, .slice Ao39 t259.length co39, .slice Ao40 t262.length co40, .slice Ao41 t265.length co41, .bool t268] 31 (0, 0)) (bk_ BK270.out) hb); have n7_ := Aside0.mk (below_step (hb1_ HB.out GE270.out) hb); clear HO_271002 HO_271003 HO_271004 HO_271005 HO_271006 HO273 BK270 HB; have HO_271002 := n0_; have HO_271003 := n1_; have HO_271004 := n2_; have HO_271005 := n3_; have HO_271006 := n4_; have HO273 := n5_; have BK270 := n6_; have HB := n7_; clear n0_ n1_ n2_ n3_ n4_ n5_ n6_ n7_; (try clear hb); (try clear hb2); (try clear hk); (try clear hi); have hcz69_0 : w68.cell? ⟨gb270, 0, none⟩ = some (.int .i64 t251) := (blk_cell BK270.out 0).trans rfl; have hcz69_1 : w68.cell? ⟨gb270, 1, none⟩ = some (.int .i64 t252) := (blk_cell BK270.out 1).trans rfl; have hcz69_2 : w68.cell? ⟨gb270, 2, none⟩ = some (.slice Ao37 t253.length co37) := (blk_cell BK270.out 2).trans rfl; have hcz69_3 : w68.cell? ⟨gb270, 3, none⟩ = some (.slice Ao38 t256.length co38) := (blk_cell BK270.out 3).trans rfl; have hcz69_4 : w68.cell? ⟨gb270, 4, none⟩ = some (.slice Ao39 t259.length co39) := (blk_cell BK270.out 4).trans rfl; have hcz69_5 : w68.cell? ⟨gb270, 5, none⟩ = some (.slice Ao40 t262.length co40) := (blk_cell BK270.out 5).trans rfl; have hcz69_6 : w68.cell? ⟨gb270, 6, none⟩ = some (.slice Ao41 t265.length co41) := (blk_cell BK270.out 6).trans rfl; have hcz69_7 : w68.cell? ⟨gb270, 7, none⟩ = some (.bool t268) := (blk_cell BK270.out 7).trans rfl; have hfz69_0 := blk_frozen BK270.out 0; have hfz69_1 := blk_frozen BK270.out 1; have hfz69_2 := blk_frozen BK270.out 2; have hfz69_3 := blk_frozen BK270.out 3; have hfz69_4 := blk_frozen BK270.out 4; have hfz69_5 := blk_frozen BK270.out 5; have hfz69_6 := blk_frozen BK270.out 6; have hfz69_7 := blk_frozen BK270.out 7) | ((with_reducible refine gate_callee (f := 40) rfl ?_); refine goesL_ (some 71) rfl rfl Try.func40 (by kernel_rfl) rfl #[.agg #[.int .i64 t251, .int .i64 t252, .slice Ao37 t253.length co37, .slice Ao38 t256.length co38, .slice Ao39 t259.length co39, .slice Ao40 t262.length co40, .slice Ao41 t265.length co41, .bool t268], .slice none 0 0] rfl (by (try simp only [List.map_toArray, List.map_cons, List.map_nil]); first | done | rfl | (simp only [List.length_drop, List.length_take]; rfl)) ?_; (refine (sum_Tag.calls kj28 t251 t252 _ _ t253 _ _ t256 _ _ t259 _ _ t262 _ _ t265 t268 _ _ ([] : List Int) t276 t277 _ ?side1 ?side2 ?side3 ?side4 ?side5 ?side6 ?side7 ?side8 ?side9 ?side10 ?side11 ?side12 A48.out).mono ?_); (case side1 => repeat (first | exact (Kd.R_reads' HO_271002.out).2.2 | (with_reducible refine Kd.C_alloc ?_ _) | (with_reducible refine Kd.C_drewN ?_ _) | (with_reducible refine Kd.C_drew ?_))); (case side2 => exact (Kd.R_reads' HO_271002.out).2.1); (case side3 => repeat (first | exact (Kd.R_reads' HO_271003.out).2.2 | (with_reducible refine Kd.C_alloc ?_ _) | (with_reducible refine Kd.C_drewN ?_ _) | (with_reducible refine Kd.C_drew ?_))); (case side4 => exact (Kd.R_reads' HO_271003.out).2.1); (case side5 => repeat (first | exact (Kd.N_reads' HO_271004.out).2.2 | (with_reducible refine Kd.C_alloc ?_ _) | (with_reducible refine Kd.C_drewN ?_ _) | (with_reducible refine Kd.C_drew ?_))); (case side6 => exact (Kd.N_reads' HO_271004.out).2.1); (case side7 => repeat (first | exact (Kd.N_reads' HO_271005.out).2.2 | (with_reducible refine Kd.C_alloc ?_ _) | (with_reducible refine Kd.C_drewN ?_ _) | (with_reducible refine Kd.C_drew ?_))); (case side8 => exact (Kd.N_reads' HO_271005.out).2.1); (case side9 => repeat (first | exact (Kd.R_reads' HO_271006.out).2.2 | (with_reducible refine Kd.C_alloc ?_ _) | (with_reducible refine Kd.C_drewN ?_ _) | (with_reducible refine Kd.C_drew ?_))); (case side10 => exact (Kd.R_reads' HO_271006.out).2.1); (case side11 => exact Kd.C_nil _ _); (case side12 => exact Nat.le_refl _); rintro e w70 ⟨rfl, hb⟩; refine ⟨_, rfl, ?_⟩; have n0_ := Aside0.mk (Kd.R_below (kR_ HO_271002.out) hb); have n1_ := Aside0.mk (Kd.R_below (kR_ HO_271003.out) hb); have n2_ := Aside0.mk (Kd.N_below (kN_ HO_271004.out) hb); have n3_ := Aside0.mk (Kd.N_below (kN_ HO_271005.out) hb); have n4_ := Aside0.mk (Kd.R_below (kR_ HO_271006.out) hb); have n5_ := Aside0.mk (Kd.R_below (kR_ HO273.out) hb); have n6_ := Aside0.mk (blk_below (g := gb270) (o := .cells #[.int .i64 t251, .int .i64 t252, .slice Ao37 t253.length co37, .slice Ao38 t256.length co38, .slice Ao39 t259.length co39, .slice Ao40 t262.length co40, .slice Ao41 t265.length co41, .bool t268] 31 (0, 0)) (bk_ BK270.out) hb); have n7_ := Aside0.mk (below_step (hb1_ HB.out GE270.out) hb); clear HO_271002 HO_271003 HO_271004 HO_271005 HO_271006 HO273 BK270 HB; have HO_271002 := n0_; have HO_271003 := n1_; have HO_271004 := n2_; have HO_271005 := n3_; have HO_271006 := n4_; have HO273 := n5_; have BK270 := n6_; have HB := n7_; clear n0_ n1_ n2_ n3_ n4_ n5_ n6_ n7_; (try clear hb); (try clear hb2); (try clear hk); (try clear hi)) | (go_at_call 42; (with_reducible refine (sum_TagSize.calls kj28 ji3 t278 _ A53.out).mono ?_); rintro e w' ⟨rfl, ⟨nd, rfl⟩⟩) | (go_at_call 42; (with_reducible refine (sum_TagSize.calls kj28 ji3 t279 _ A58.out).mono ?_); rintro e w' ⟨rfl, ⟨nd, rfl⟩⟩) | (go_at_call 34; (with_reducible refine (Awake17.calls  t280 _ A63.out).mono ?_); rintro e w71 ⟨rfl, hb⟩; have n0_ := Aside0.mk (Kd.R_below (kR_ HO_271002.out) hb); have n1_ := Aside0.mk (Kd.R_below (kR_ HO_271003.out) hb); have n2_ := Aside0.mk (Kd.N_below (kN_ HO_271004.out) hb); have n3_ := Aside0.mk (Kd.N_below (kN_ HO_271005.out) hb); have n4_ := Aside0.mk (Kd.R_below (kR_ HO_271006.out) hb); have n5_ := Aside0.mk (Kd.R_below (kR_ HO273.out) hb); have n6_ := Aside0.mk (blk_below (g := gb270) (o := .cells #[.int .i64 t251, .int .i64 t252, .slice Ao37 t253.length co37, .slice Ao38 t256.length co38, .slice Ao39 t259.length co39, .slice Ao40 t262.length co40, .slice Ao41 t265.length co41, .bool t268] 31 (0, 0)) (bk_ BK270.out) hb); have n7_ := Aside0.mk (below_step (hb1_ HB.out GE270.out) hb); clear HO_271002 HO_271003 HO_271004 HO_271005 HO_271006 HO273 BK270 HB; have HO_271002 := n0_; have HO_271003 := n1_; have HO_271004 := n2_; have HO_271005 := n3_; have HO_271006 := n4_; have HO273 := n5_; have BK270 := n6_; have HB := n7_; clear n0_ n1_ n2_ n3_ n4_ n5_ n6_ n7_; (try clear hb); (try clear hb2); (try clear hk); (try clear hi)))
        go_ret
        exact ⟨by first | rfl | (simp [errW_none, errW_some] <;> rfl) | (simp only [← hji3, ← hji54, ← hji56, ← hji59, ← hji61]; first | rfl | (simp [errW_none, errW_some] <;> rfl)) | (simp [*, errW_none, errW_some] <;> rfl), by repeat (first | (with_reducible first | exact HB.out | apply below_alloc | apply pw_below_drewN | apply below_drew1 | refine below_set ?_ GE270.out) | exact HB.out)⟩
       ·
        rw [if_neg c50] at H
        have c50b0 : (t275 == 0) = false := beq_eq_false_iff_ne.mpr c50
        have c50b1 : (t275 != 0) = true := bne_iff_ne.mpr c50
        by_cases c72 : t275 = 21
        rotate_left
        ·
         rw [if_neg c72] at H
         have c72b0 : (t275 == 21) = false := beq_eq_false_iff_ne.mpr c72
         have c72b1 : (t275 != 21) = true := bne_iff_ne.mpr c72
         exact absurd ((Option.some.inj H).trans hr_) (by decide)
        rw [if_pos c72] at H
        have c72b0 : (t275 == 21) = true := beq_iff_eq.mpr c72
        have c72b1 : (t275 != 21) = false := bne_eq_false_iff_eq.mpr c72
        clear c72
        by_cases c73 : t277 = 21
        rotate_left
        ·
         rw [if_neg c73] at H
         have c73b0 : (t277 == 21) = false := beq_eq_false_iff_ne.mpr c73
         have c73b1 : (t277 != 21) = true := bne_iff_ne.mpr c73
         exact absurd ((Option.some.inj H).trans hr_) (by decide)
        rw [if_pos c73] at H
        have c73b0 : (t277 == 21) = true := beq_iff_eq.mpr c73
        have c73b1 : (t277 != 21) = false := bne_eq_false_iff_eq.mpr c73
        clear c73
        replace H := Option.bind_eq_some_iff.mp H
        obtain ⟨t281, A740, H⟩ := H
        replace H : (if 0 ≤ (IntKind.u64.wrap (t281)) then (if (shl .i64 1 (IntKind.u64.wrap (t281))) ≥ ji3 then ((sum_TagSize.f kj28 ji3).bind fun t282 => (if 0 ≤ (IntKind.u64.wrap (wrap64 (t282 - 1))) then (if (shl .i64 1 (IntKind.u64.wrap (wrap64 (t282 - 1)))) < ji3 then ((Awake17.f).bind fun t283 => (some t283)) else (some false)) else (none))) else (some false)) else (none)) = some r := H
        have A74 := Aside0.mk A740
        clear A740
        obtain ⟨ji75, hji75⟩ : ∃ j_ : Int, (IntKind.u64.wrap (t281)) = j_ := ⟨_, rfl⟩
        replace H : (if 0 ≤ (ji75) then (if (shl .i64 1 (ji75)) ≥ ji3 then ((sum_TagSize.f kj28 ji3).bind fun t282 => (if 0 ≤ (IntKind.u64.wrap (wrap64 (t282 - 1))) then (if (shl .i64 1 (IntKind.u64.wrap (wrap64 (t282 - 1)))) < ji3 then ((Awake17.f).bind fun t283 => (some t283)) else (some false)) else (none))) else (some false)) else (none)) = some r := by first | (rw [hji75] at H; exact H) | (simp only [hji75] at H ⊢; exact H)
        (try rw [hji75] at A47)
        (try rw [hji75] at A48)
        (try rw [hji75] at A74)
        by_cases c76 : 0 ≤ (ji75)
        rotate_left
        ·
         rw [if_neg c76] at H
         exact absurd H (by simp)
        rw [if_pos c76] at H
        have c76b0 := eq_true c76
        have c76b1 : decide (0 ≤ (ji75)) = true := decide_eq_true c76
        clear c76
        obtain ⟨ji77, hji77⟩ : ∃ j_ : Int, (shl .i64 1 (ji75)) = j_ := ⟨_, rfl⟩
        replace H : (if (ji77) ≥ ji3 then ((sum_TagSize.f kj28 ji3).bind fun t282 => (if 0 ≤ (IntKind.u64.wrap (wrap64 (t282 - 1))) then (if (shl .i64 1 (IntKind.u64.wrap (wrap64 (t282 - 1)))) < ji3 then ((Awake17.f).bind fun t283 => (some t283)) else (some false)) else (none))) else (some false)) = some r := by first | (rw [hji77] at H; exact H) | (simp only [hji77] at H ⊢; exact H)
        (try rw [hji77] at A47)
        (try rw [hji77] at A48)
        (try rw [hji77] at A74)
        have hji77_ : (IntKind.i64.wrap (1 * 2 ^ min (ji75).toNat 64)) = ji77 := hji77
        have hji77z : (ji75) ≤ 64 → (IntKind.i64.wrap (1 * 2 ^ (ji75).toNat)) = ji77 := shl_small hji77
        have hji77u : (IntKind.i64.wrap (2 ^ min (ji75).toNat 64)) = ji77 := by have h_ := hji77_; rw [Int.one_mul] at h_; exact h_
        have hji77v : (ji75) ≤ 64 → (IntKind.i64.wrap (2 ^ (ji75).toNat)) = ji77 := fun hle_ => by have h_ := hji77z hle_; rw [Int.one_mul] at h_; exact h_
        have hji77y : (wrap64 (1 * 2 ^ min (ji75).toNat 64)) = ji77 := (i64_w _).symm.trans hji77_
        have hji77x : (ji75) ≤ 64 → (wrap64 (1 * 2 ^ (ji75).toNat)) = ji77 := fun h_ => (i64_w _).symm.trans (hji77z h_)
        by_cases c78 : (ji77) ≥ ji3
        rotate_left
        ·
         rw [if_neg c78] at H
         have c78b0 : decide (ji3 ≤ (ji77)) = false := decide_eq_false c78
         clear c78
         exact absurd ((Option.some.inj H).trans hr_) (by decide)
        rw [if_pos c78] at H
        have c78b0 : decide (ji3 ≤ (ji77)) = true := decide_eq_true c78
        clear c78
        replace H := Option.bind_eq_some_iff.mp H
        obtain ⟨t282, A790, H⟩ := H
        replace H : (if 0 ≤ (IntKind.u64.wrap (wrap64 (t282 - 1))) then (if (shl .i64 1 (IntKind.u64.wrap (wrap64 (t282 - 1)))) < ji3 then ((Awake17.f).bind fun t283 => (some t283)) else (some false)) else (none)) = some r := H
        have A79 := Aside0.mk A790
        clear A790
        obtain ⟨ji80, hji80⟩ : ∃ j_ : Int, (IntKind.u64.wrap (wrap64 (t282 - 1))) = j_ := ⟨_, rfl⟩
        replace H : (if 0 ≤ (ji80) then (if (shl .i64 1 (ji80)) < ji3 then ((Awake17.f).bind fun t283 => (some t283)) else (some false)) else (none)) = some r := by first | (rw [hji80] at H; exact H) | (simp only [hji80] at H ⊢; exact H)
        (try rw [hji80] at A47)
        (try rw [hji80] at A48)
        (try rw [hji80] at A74)
        (try rw [hji80] at A79)
        by_cases c81 : 0 ≤ (ji80)
        rotate_left
        ·
         rw [if_neg c81] at H
         exact absurd H (by simp)
        rw [if_pos c81] at H
        have c81b0 := eq_true c81
        have c81b1 : decide (0 ≤ (ji80)) = true := decide_eq_true c81
        clear c81
        obtain ⟨ji82, hji82⟩ : ∃ j_ : Int, (shl .i64 1 (ji80)) = j_ := ⟨_, rfl⟩
        replace H : (if (ji82) < ji3 then ((Awake17.f).bind fun t283 => (some t283)) else (some false)) = some r := by first | (rw [hji82] at H; exact H) | (simp only [hji82] at H ⊢; exact H)
        (try rw [hji82] at A47)
        (try rw [hji82] at A48)
        (try rw [hji82] at A74)
        (try rw [hji82] at A79)
        have hji82_ : (IntKind.i64.wrap (1 * 2 ^ min (ji80).toNat 64)) = ji82 := hji82
        have hji82z : (ji80) ≤ 64 → (IntKind.i64.wrap (1 * 2 ^ (ji80).toNat)) = ji82 := shl_small hji82
        have hji82u : (IntKind.i64.wrap (2 ^ min (ji80).toNat 64)) = ji82 := by have h_ := hji82_; rw [Int.one_mul] at h_; exact h_
        have hji82v : (ji80) ≤ 64 → (IntKind.i64.wrap (2 ^ (ji80).toNat)) = ji82 := fun hle_ => by have h_ := hji82z hle_; rw [Int.one_mul] at h_; exact h_
        have hji82y : (wrap64 (1 * 2 ^ min (ji80).toNat 64)) = ji82 := (i64_w _).symm.trans hji82_
        have hji82x : (ji80) ≤ 64 → (wrap64 (1 * 2 ^ (ji80).toNat)) = ji82 := fun h_ => (i64_w _).symm.trans (hji82z h_)
        by_cases c83 : (ji82) < ji3
        rotate_left
        ·
         rw [if_neg c83] at H
         have c83b0 : decide ((ji82) < ji3) = false := decide_eq_false c83
         clear c83
         exact absurd ((Option.some.inj H).trans hr_) (by decide)
        rw [if_pos c83] at H
        have c83b0 : decide ((ji82) < ji3) = true := decide_eq_true c83
        clear c83
        replace H := Option.bind_eq_some_iff.mp H
        obtain ⟨t283, A840, H⟩ := H
        replace H : (some t283) = some r := H
        have A84 := Aside0.mk A840
        clear A840
        obtain rfl := Option.some.inj H
        have hcz85_0 : wc.cell? ⟨gb270, 0, none⟩ = some (.int .i64 t251) := (blk_cell BK270.out 0).trans rfl
        have hcz85_1 : wc.cell? ⟨gb270, 1, none⟩ = some (.int .i64 t252) := (blk_cell BK270.out 1).trans rfl
        have hcz85_2 : wc.cell? ⟨gb270, 2, none⟩ = some (.slice Ao37 t253.length co37) := (blk_cell BK270.out 2).trans rfl
        have hcz85_3 : wc.cell? ⟨gb270, 3, none⟩ = some (.slice Ao38 t256.length co38) := (blk_cell BK270.out 3).trans rfl
        have hcz85_4 : wc.cell? ⟨gb270, 4, none⟩ = some (.slice Ao39 t259.length co39) := (blk_cell BK270.out 4).trans rfl
        have hcz85_5 : wc.cell? ⟨gb270, 5, none⟩ = some (.slice Ao40 t262.length co40) := (blk_cell BK270.out 5).trans rfl
        have hcz85_6 : wc.cell? ⟨gb270, 6, none⟩ = some (.slice Ao41 t265.length co41) := (blk_cell BK270.out 6).trans rfl
        have hcz85_7 : wc.cell? ⟨gb270, 7, none⟩ = some (.bool t268) := (blk_cell BK270.out 7).trans rfl
        have hfz85_0 := blk_frozen BK270.out 0
        have hfz85_1 := blk_frozen BK270.out 1
        have hfz85_2 := blk_frozen BK270.out 2
        have hfz85_3 := blk_frozen BK270.out 3
        have hfz85_4 := blk_frozen BK270.out 4
        have hfz85_5 := blk_frozen BK270.out 5
        have hfz85_6 := blk_frozen BK270.out 6
        have hfz85_7 := blk_frozen BK270.out 7
        have ce_ := Option.some.inj (A74.out.symm.trans A79.out)
        subst ce_
        have cd_ : decide ((wrap64 (a1)) < ji3) = false := by simpa [c50b0] using c49b0
        go_wp2_with (first | ((with_reducible refine gate_dst (N := 65) rfl ?_); refine Kd.R_lit (Kd.int .u8) _ 5 ?hg (N := 65) ?hd (xs := ([a1] : List Int)) (inner := [.int .u8 a1]) (ok := fun _ => True) (okp := fun _ => True) ?hr ?hp (fun _ hk => hk) trivial (Below.refl _ _) (Nat.le_refl _) (by simp) ?_; (case hd => rfl); (case hg => rfl); (case hr => first | (go_simp; done) | (go_simp; rfl)); (case hp => exact (Reps.one (show Kd.M (Kd.int .u8) _ _ _ a1 [.int .u8 a1] from rfl) (Reps.none _ _))); intro v272 w86 ho87 hb hg_ hnew_; clear hg_ hnew_; (first | rw [← Ny271.out] at ho87 | (simp only [Int.reduceToNat] at ho87; rw [← Ny271.out] at ho87)); have n0_ := Aside0.mk (Kd.R_elder' (kR_ HO_271002.out) (Kd.R_base ho87) hb); have n1_ := Aside0.mk (Kd.R_below (kR_ HO_271003.out) hb); have n2_ := Aside0.mk (Kd.N_elder' (kN_ HO_271004.out) (Kd.R_base ho87) hb); have n3_ := Aside0.mk (Kd.N_elder' (kN_ HO_271005.out) (Kd.R_base ho87) hb); have n4_ := Aside0.mk (Kd.R_below (kR_ HO_271006.out) hb); have n5_ := Aside0.mk (Kd.R_lower (Kd.R_new' ho87 (Kd.R_lt (kR_ HO_271002.out))) (below_size (hb1_ HB.out GE270.out))); have n6_ := Aside0.mk (blk_below (g := gb270) (o := .cells #[.int .i64 t251, .int .i64 t252, .slice Ao37 t253.length co37, .slice Ao38 t256.length co38, .slice Ao39 t259.length co39, .slice Ao40 t262.length co40, .slice Ao41 t265.length co41, .bool t268] 31 (0, 0)) (bk_ BK270.out) hb); have n7_ := Aside0.mk (below_step (hb1_ HB.out GE270.out) hb); clear HO_271002 HO_271003 HO_271004 HO_271005 HO_271006 BK270 HB; have HO_271002 := n0_; have HO_271003 := n1_; have HO_271004 := n2_; have HO_271005 := n3_; have HO_271006 := n4_; have HO273 := n5_; have BK270 := n6_; have HB := n7_; clear n0_ n1_ n2_ n3_ n4_ n5_ n6_ n7_ hb ho87; obtain ⟨Ao88, co88, eo88⟩ := Kd.R_slice HO273.out; subst eo88) | ((with_reducible refine gate_callee (f := 40) rfl ?_); refine goesL_ (some 66) rfl rfl Try.func40 (by kernel_rfl) rfl #[.agg #[.int .i64 t251, .int .i64 t252, .slice Ao37 t253.length co37, .slice Ao38 t256.length co38, .slice Ao39 t259.length co39, .slice Ao40 t262.length co40, .slice Ao41 t265.length co41, .bool t268], .slice Ao88 y271.length co88] rfl (by (try simp only [List.map_toArray, List.map_cons, List.map_nil]); first | done | rfl | (simp only [List.length_drop, List.length_take]; rfl)) ?_; (with_reducible refine (sum_Tag.calls kj28 t251 t252 _ _ t253 _ _ t256 _ _ t259 _ _ t262 _ _ t265 t268 _ _ y271 t274 t275 _ ?side1 ?side2 ?side3 ?side4 ?side5 ?side6 ?side7 ?side8 ?side9 ?side10 ?side11 ?side12 A47.out).mono ?_); (case side1 => repeat (first | exact (Kd.R_reads' HO_271002.out).2.2 | (with_reducible refine Kd.C_alloc ?_ _) | (with_reducible refine Kd.C_drewN ?_ _) | (with_reducible refine Kd.C_drew ?_))); (case side2 => exact (Kd.R_reads' HO_271002.out).2.1); (case side3 => repeat (first | exact (Kd.R_reads' HO_271003.out).2.2 | (with_reducible refine Kd.C_alloc ?_ _) | (with_reducible refine Kd.C_drewN ?_ _) | (with_reducible refine Kd.C_drew ?_))); (case side4 => exact (Kd.R_reads' HO_271003.out).2.1); (case side5 => repeat (first | exact (Kd.N_reads' HO_271004.out).2.2 | (with_reducible refine Kd.C_alloc ?_ _) | (with_reducible refine Kd.C_drewN ?_ _) | (with_reducible refine Kd.C_drew ?_))); (case side6 => exact (Kd.N_reads' HO_271004.out).2.1); (case side7 => repeat (first | exact (Kd.N_reads' HO_271005.out).2.2 | (with_reducible refine Kd.C_alloc ?_ _) | (with_reducible refine Kd.C_drewN ?_ _) | (with_reducible refine Kd.C_drew ?_))); (case side8 => exact (Kd.N_reads' HO_271005.out).2.1); (case side9 => repeat (first | exact (Kd.R_reads' HO_271006.out).2.2 | (with_reducible refine Kd.C_alloc ?_ _) | (with_reducible refine Kd.C_drewN ?_ _) | (with_reducible refine Kd.C_drew ?_))); (case side10 => exact (Kd.R_reads' HO_271006.out).2.1); (case side11 => repeat (first | exact (Kd.R_reads' HO273.out).2.2 | (with_reducible refine Kd.C_alloc ?_ _) | (with_reducible refine Kd.C_drewN ?_ _) | (with_reducible refine Kd.C_drew ?_))); (case side12 => exact (Kd.R_reads' HO273.out).2.1); rintro e w89 ⟨rfl, hb⟩; refine ⟨_, rfl, ?_⟩; have n0_ := Aside0.mk (Kd.R_below (kR_ HO_271002.out) hb); have n1_ := Aside0.mk (Kd.R_below (kR_ HO_271003.out) hb); have n2_ := Aside0.mk (Kd.N_below (kN_ HO_271004.out) hb); have n3_ := Aside0.mk (Kd.N_below (kN_ HO_271005.out) hb); have n4_ := Aside0.mk (Kd.R_below (kR_ HO_271006.out) hb); have n5_ := Aside0.mk (Kd.R_below (kR_ HO273.out) hb); have n6_ := Aside0.mk (blk_below (g := gb270) (o := .cells #[.int .i64 t251, .int .i64 t252, .slice Ao37 t253.length co37, .slice Ao38 t256.length co38, .slice Ao39 t259.length co39, .slice Ao40 t262.length co40, .slice Ao41 t265.length co41, .bool t268] 31 (0, 0)) (bk_ BK270.out) hb); have n7_ := Aside0.mk (below_step (hb1_ HB.out GE270.out) hb); clear HO_271002 HO_271003 HO_271004 HO_271005 HO_271006 HO273 BK270 HB; have HO_271002 := n0_; have HO_271003 := n1_; have HO_271004 := n2_; have HO_271005 := n3_; have HO_271006 := n4_; have HO273 := n5_; have BK270 := n6_; have HB := n7_; clear n0_ n1_ n2_ n3_ n4_ n5_ n6_ n7_; (try clear hb); (try clear hb2); (try clear hk); (try clear hi); have hcz90_0 : w89.cell? ⟨gb270, 0, none⟩ = some (.int .i64 t251) := (blk_cell BK270.out 0).trans rfl; have hcz90_1 : w89.cell? ⟨gb270, 1, none⟩ = some (.int .i64 t252) := (blk_cell BK270.out 1).trans rfl; have hcz90_2 : w89.cell? ⟨gb270, 2, none⟩ = some (.slice Ao37 t253.length co37) := (blk_cell BK270.out 2).trans rfl; have hcz90_3 : w89.cell? ⟨gb270, 3, none⟩ = some (.slice Ao38 t256.length co38) := (blk_cell BK270.out 3).trans rfl; have hcz90_4 : w89.cell? ⟨gb270, 4, none⟩ = some (.slice Ao39 t259.length co39) := (blk_cell BK270.out 4).trans rfl; have hcz90_5 : w89.cell? ⟨gb270, 5, none⟩ = some (.slice Ao40 t262.length co40) := (blk_cell BK270.out 5).trans rfl; have hcz90_6 : w89.cell? ⟨gb270, 6, none⟩ = some (.slice Ao41 t265.length co41) := (blk_cell BK270.out 6).trans rfl; have hcz90_7 : w89.cell? ⟨gb270, 7, none⟩ = some (.bool t268) := (blk_cell BK270.out 7).trans rfl; have hfz90_0 := blk_frozen BK270.out 0; have hfz90_1 := blk_frozen BK270.out 1; have hfz90_2 := blk_frozen BK270.out 2; have hfz90_3 := blk_frozen BK270.out 3; have hfz90_4 := blk_frozen BK270.out 4; have hfz90_5 := blk_frozen BK270.out 5; have hfz90_6 := blk_frozen BK270.out 6; have hfz90_7 := blk_frozen BK270.out 7) | ((with_reducible refine gate_callee (f := 40) rfl ?_); refine goesL_ (some 71) rfl rfl Try.func40 (by kernel_rfl) rfl #[.agg #[.int .i64 t251, .int .i64 t252, .slice Ao37 t253.length co37, .slice Ao38 t256.length co38, .slice Ao39 t259.length co39, .slice Ao40 t262.length co40, .slice Ao41 t265.length co41, .bool t268], .slice none 0 0] rfl (by (try simp only [List.map_toArray, List.map_cons, List.map_nil]); first | done | rfl | (simp only [List.length_drop, List.length_take]; rfl)) ?_; (refine (sum_Tag.calls kj28 t251 t252 _ _ t253 _ _ t256 _ _ t259 _ _ t262 _ _ t265 t268 _ _ ([] : List Int) t276 t277 _ ?side1 ?side2 ?side3 ?side4 ?side5 ?side6 ?side7 ?side8 ?side9 ?side10 ?side11 ?side12 A48.out).mono ?_); (case side1 => repeat (first | exact (Kd.R_reads' HO_271002.out).2.2 | (with_reducible refine Kd.C_alloc ?_ _) | (with_reducible refine Kd.C_drewN ?_ _) | (with_reducible refine Kd.C_drew ?_))); (case side2 => exact (Kd.R_reads' HO_271002.out).2.1); (case side3 => repeat (first | exact (Kd.R_reads' HO_271003.out).2.2 | (with_reducible refine Kd.C_alloc ?_ _) | (with_reducible refine Kd.C_drewN ?_ _) | (with_reducible refine Kd.C_drew ?_))); (case side4 => exact (Kd.R_reads' HO_271003.out).2.1); (case side5 => repeat (first | exact (Kd.N_reads' HO_271004.out).2.2 | (with_reducible refine Kd.C_alloc ?_ _) | (with_reducible refine Kd.C_drewN ?_ _) | (with_reducible refine Kd.C_drew ?_))); (case side6 => exact (Kd.N_reads' HO_271004.out).2.1); (case side7 => repeat (first | exact (Kd.N_reads' HO_271005.out).2.2 | (with_reducible refine Kd.C_alloc ?_ _) | (with_reducible refine Kd.C_drewN ?_ _) | (with_reducible refine Kd.C_drew ?_))); (case side8 => exact (Kd.N_reads' HO_271005.out).2.1); (case side9 => repeat (first | exact (Kd.R_reads' HO_271006.out).2.2 | (with_reducible refine Kd.C_alloc ?_ _) | (with_reducible refine Kd.C_drewN ?_ _) | (with_reducible refine Kd.C_drew ?_))); (case side10 => exact (Kd.R_reads' HO_271006.out).2.1); (case side11 => exact Kd.C_nil _ _); (case side12 => exact Nat.le_refl _); rintro e w91 ⟨rfl, hb⟩; refine ⟨_, rfl, ?_⟩; have n0_ := Aside0.mk (Kd.R_below (kR_ HO_271002.out) hb); have n1_ := Aside0.mk (Kd.R_below (kR_ HO_271003.out) hb); have n2_ := Aside0.mk (Kd.N_below (kN_ HO_271004.out) hb); have n3_ := Aside0.mk (Kd.N_below (kN_ HO_271005.out) hb); have n4_ := Aside0.mk (Kd.R_below (kR_ HO_271006.out) hb); have n5_ := Aside0.mk (Kd.R_below (kR_ HO273.out) hb); have n6_ := Aside0.mk (blk_below (g := gb270) (o := .cells #[.int .i64 t251, .int .i64 t252, .slice Ao37 t253.length co37, .slice Ao38 t256.length co38, .slice Ao39 t259.length co39, .slice Ao40 t262.length co40, .slice Ao41 t265.length co41, .bool t268] 31 (0, 0)) (bk_ BK270.out) hb); have n7_ := Aside0.mk (below_step (hb1_ HB.out GE270.out) hb); clear HO_271002 HO_271003 HO_271004 HO_271005 HO_271006 HO273 BK270 HB; have HO_271002 := n0_; have HO_271003 := n1_; have HO_271004 := n2_; have HO_271005 := n3_; have HO_271006 := n4_; have HO273 := n5_; have BK270 := n6_; have HB := n7_; clear n0_ n1_ n2_ n3_ n4_ n5_ n6_ n7_; (try clear hb); (try clear hb2); (try clear hk); (try clear hi)) | (go_at_call 42; (with_reducible refine (sum_TagSize.calls kj28 ji3 t281 _ A74.out).mono ?_); rintro e w' ⟨rfl, ⟨nd, rfl⟩⟩) | (go_at_call 42; (with_reducible refine (sum_TagSize.calls kj28 ji3 t282 _ A79.out).mono ?_); rintro e w' ⟨rfl, ⟨nd, rfl⟩⟩) | (go_at_call 34; (with_reducible refine (Awake17.calls  t283 _ A84.out).mono ?_); rintro e w92 ⟨rfl, hb⟩; have n0_ := Aside0.mk (Kd.R_below (kR_ HO_271002.out) hb); have n1_ := Aside0.mk (Kd.R_below (kR_ HO_271003.out) hb); have n2_ := Aside0.mk (Kd.N_below (kN_ HO_271004.out) hb); have n3_ := Aside0.mk (Kd.N_below (kN_ HO_271005.out) hb); have n4_ := Aside0.mk (Kd.R_below (kR_ HO_271006.out) hb); have n5_ := Aside0.mk (Kd.R_below (kR_ HO273.out) hb); have n6_ := Aside0.mk (blk_below (g := gb270) (o := .cells #[.int .i64 t251, .int .i64 t252, .slice Ao37 t253.length co37, .slice Ao38 t256.length co38, .slice Ao39 t259.length co39, .slice Ao40 t262.length co40, .slice Ao41 t265.length co41, .bool t268] 31 (0, 0)) (bk_ BK270.out) hb); have n7_ := Aside0.mk (below_step (hb1_ HB.out GE270.out) hb); clear HO_271002 HO_271003 HO_271004 HO_271005 HO_271006 HO273 BK270 HB; have HO_271002 := n0_; have HO_271003 := n1_; have HO_271004 := n2_; have HO_271005 := n3_; have HO_271006 := n4_; have HO273 := n5_; have BK270 := n6_; have HB := n7_; clear n0_ n1_ n2_ n3_ n4_ n5_ n6_ n7_; (try clear hb); (try clear hb2); (try clear hk); (try clear hi)))
        go_ret
        exact ⟨by first | rfl | (simp [errW_none, errW_some] <;> rfl) | (simp only [← hji3, ← hji75, ← hji77, ← hji80, ← hji82]; first | rfl | (simp [errW_none, errW_some] <;> rfl)) | (simp [*, errW_none, errW_some] <;> rfl), by repeat (first | (with_reducible first | exact HB.out | apply below_alloc | apply pw_below_drewN | apply below_drew1 | refine below_set ?_ GE270.out) | exact HB.out)⟩
 ·
  rw [if_neg c4] at H
  exact absurd H (by simp)

/-- THE ONE PURE STATEMENT of law17_SumTags: yours. -/
def law17_SumTags.Pure : Prop := ∀ (a0 : Int) (a1 : Int), (Lit.int .u8 a0).wf = true → (Lit.int .u8 a1).wf = true → ∃ k, law17_SumTags.f k a0 a1 = some true
theorem law17_SumTags.walk (P : law17_SumTags.Pure) (a0 : Int) (a1 : Int) (w : World) (w0 : (Lit.int .u8 a0).wf = true) (w1 : (Lit.int .u8 a1).wf = true) :
  Calls Try.prog 7 #[.int .u8 a0, .int .u8 a1] w fun e w' => e = .returned (.bool true) ∧ Below w.heap.size w w' := by
 obtain ⟨k, h⟩ := P a0 a1 w0 w1
 refine (law17_SumTags.calls k a0 a1 true w h rfl).mono ?_
 rintro e w' ⟨rfl, hd⟩
 exact ⟨rfl, hd⟩

end Go.Proofs.Ytpcephbhnbfcmaa.C
