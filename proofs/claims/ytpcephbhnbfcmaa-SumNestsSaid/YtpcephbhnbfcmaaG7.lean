-- Written by this session's program fork.py: a Lean function for each Go function and its walk. Not trusted: Lean checks it.
import Derived.Test.YtpcephbhnbfcmaaG0
import Derived.Test.YtpcephbhnbfcmaaG3
import Derived.Test.YtpcephbhnbfcmaaG4
import Derived.Test.YtpcephbhnbfcmaaG5
import Derived.Test.YtpcephbhnbfcmaaG6
namespace Go.Proofs.Ytpcephbhnbfcmaa.G
open Go.RowKit Go.Proofs.YtpcephbhnbfcmaaW.PrintWords Go.Proofs.YtpcephbhnbfcmaaW.PrintLast Go.Proofs.YtpcephbhnbfcmaaW.PrintMore
attribute [local go_sem] max2_int min2_int max_two min_two max_three min_three max_four min_four   -- for this text's walks alone
set_option linter.unusedVariables false
set_option linter.unusedSimpArgs false

open List (setIfInBounds_toArray set_cons_zero set_cons_succ)
/-! ### sum_Lay: function 36 -/
mutual
def sum_Lay.j0 : Nat → List (S31) → List ByteArray → List Bool → Bool → Option (Int × Int × List Int × List Int × (List (S101)) × (List (S79)) × List Int × Bool × Int)
 | 0, _, _, _, _ => none
 | k + 1, x0, x1, x2, x34 => if x34 = true then (some (0, 0, ([] : List Int), ([] : List Int), ([] : List (S101)), ([] : List (S79)), ([] : List Int), false, 19)) else (if (x1.length : Int) > 12 then (some (0, 0, ([] : List Int), ([] : List Int), ([] : List (S101)), ([] : List (S79)), ([] : List Int), false, 4)) else (sum_Lay.l0 k x1 x2 ([] : List (S31)) x0 (x0.length : Int) 0 0 1 ([] : List (S79)) false))
def sum_Lay.l0 : Nat → List ByteArray → List Bool → List (S31) → List (S31) → Int → Int → Int → Int → List (S79) → Bool → Option (Int × Int × List Int × List Int × (List (S101)) × (List (S79)) × List Int × Bool × Int)
 | 0, _, _, _, _, _, _, _, _, _, _ => none
 | k + 1, x1, x2, x10, x41, x42, x43, x157000, x157001, x157005, x157007 => if x43 < x42 then (if 0 ≤ x43 then (if x43 < (x41.length : Int) then (if x43 < (x1.length : Int) then (if x43 < (x2.length : Int) then ((CloneI.f ((rd_T31 x41 x43).f3)).bind fun t161 => (if x157005.length < 1759218604441 then ((some (x157005 ++ [(⟨rdOf ByteArray.empty x1 x43, rdOf false x2 x43, t161, ([] : List (S101)), (rd_T31 x41 x43).f0⟩ : S79)] : List (S79))).bind fun y164 => (if rdOf false x2 x43 = true then ((sum_Pointer.f).bind fun bt168 => (if x10.length < 977343669134 then (sum_Lay.l0 k x1 x2 (x10 ++ [(⟨bt168.1, bt168.2.1, bt168.2.2.1, bt168.2.2.2.1, bt168.2.2.2.2.1, bt168.2.2.2.2.2.1, bt168.2.2.2.2.2.2.1, bt168.2.2.2.2.2.2.2⟩ : S31)]) x41 x42 (wrap64 (x43 + 1)) (mx x157000 bt168.1) (mx x157001 bt168.2.1) y164 x157007) else (none))) else (if x10.length < 977343669134 then (sum_Lay.l0 k x1 x2 (x10 ++ [(⟨(rd_T31 x41 x43).f0, (rd_T31 x41 x43).f1, (rd_T31 x41 x43).f2, (rd_T31 x41 x43).f3, (rd_T31 x41 x43).f4, (rd_T31 x41 x43).f5, (rd_T31 x41 x43).f6, (rd_T31 x41 x43).f7⟩ : S31)]) x41 x42 (wrap64 (x43 + 1)) (mx x157000 ((rd_T31 x41 x43).f0)) (mx x157001 ((rd_T31 x41 x43).f1)) y164 x157007) else (none)))) else (none))) else (none)) else (none)) else (none)) else (none)) else ((sum_common.f k x10 x157000).bind fun t192 => ((sum_TagSize.f k (x1.length : Int)).bind fun t195 => ((mask_Bits.f k t192 t195).bind fun bt196 => (if bt196.2 = true then ((mask_Clear.f k t192 bt196.1).bind fun t200 => (some (x157000, x157001, t200, ([] : List Int), ([] : List (S101)), x157005, bt196.1, x157007, 0))) else (if x157000 = 1024 then (some (0, 0, ([] : List Int), ([] : List Int), ([] : List (S101)), ([] : List (S79)), ([] : List Int), false, 4)) else (sum_Lay.l1 k t192 ([] : List Int) t195 0 x157000 x157001 x157005 x157007))))))
def sum_Lay.l1 : Nat → List Int → List Int → Int → Int → Int → Int → List (S79) → Bool → Option (Int × Int × List Int × List Int × (List (S101)) × (List (S79)) × List Int × Bool × Int)
 | 0, _, _, _, _, _, _, _, _ => none
 | k + 1, x13, x15, x108, x109, x157000, x157001, x157005, x157007 => if x109 < x108 then (if x15.length < 17592186044416 then (sum_Lay.l1 k x13 (x15 ++ [wrap64 ((wrap64 (8 * x157000)) + x109)]) x108 (wrap64 (x109 + 1)) x157000 x157001 x157005 x157007) else (none)) else (if x13.length < 140737488355328 then ((mask_Clear.f k (x13 ++ [255]) x15).bind fun t209 => (some (wrap64 (x157000 + 1), x157001, t209, ([] : List Int), ([] : List (S101)), x157005, x15, x157007, 0))) else (none))
end
def sum_Lay.f (k : Nat) (l0 : List (S31)) (l1 : List ByteArray) (l2 : List Bool) : Option (Int × Int × List Int × List Int × (List (S101)) × (List (S79)) × List Int × Bool × Int) := (AnyBadS.f l0).bind fun t155 => (if (l0.length : Int) = (l1.length : Int) then (if (l1.length : Int) = (l2.length : Int) then (sum_Lay.j0 k l0 l1 l2 t155) else (sum_Lay.j0 k l0 l1 l2 true)) else (sum_Lay.j0 k l0 l1 l2 true))
theorem sum_Lay.mono_l : ∀ k, (∀ y0 y1 y2 y3, LeO (sum_Lay.j0 k y0 y1 y2 y3) (sum_Lay.j0 (k + 1) y0 y1 y2 y3)) ∧ (∀ y0 y1 y2 y3 y4 y5 y6 y7 y8 y9, LeO (sum_Lay.l0 k y0 y1 y2 y3 y4 y5 y6 y7 y8 y9) (sum_Lay.l0 (k + 1) y0 y1 y2 y3 y4 y5 y6 y7 y8 y9)) ∧ (∀ y0 y1 y2 y3 y4 y5 y6 y7, LeO (sum_Lay.l1 k y0 y1 y2 y3 y4 y5 y6 y7) (sum_Lay.l1 (k + 1) y0 y1 y2 y3 y4 y5 y6 y7))
 | 0 => ⟨fun _ _ _ _ r h => by simp [sum_Lay.j0] at h, fun _ _ _ _ _ _ _ _ _ _ r h => by simp [sum_Lay.l0] at h, fun _ _ _ _ _ _ _ _ r h => by simp [sum_Lay.l1] at h⟩
 | k + 1 => by
  obtain ⟨ih0, ih1, ih2⟩ := sum_Lay.mono_l k
  refine ⟨?_, ?_, ?_⟩
  ·
   intro y0 y1 y2 y3
   unfold sum_Lay.j0
   repeat' first
   | (with_reducible exact ih0 _ _ _ _)
   | (with_reducible exact ih1 _ _ _ _ _ _ _ _ _ _)
   | (with_reducible exact ih2 _ _ _ _ _ _ _ _)
   | (with_reducible exact mask_Bits.mono _ _ _)
   | (with_reducible exact mask_Clear.mono _ _ _)
   | (with_reducible exact sum_TagSize.mono _ _)
   | (with_reducible exact sum_common.mono _ _ _)
   | (with_reducible exact LeO.refl _)
   | (with_reducible exact LeO.none _)
   | (with_reducible refine LeO.ite ?_ ?_)
   | (with_reducible refine LeO.bind ?_ (fun _ => ?_))
   | exact ih0 _ _ _ _
   | exact ih1 _ _ _ _ _ _ _ _ _ _
   | exact ih2 _ _ _ _ _ _ _ _
   | exact mask_Bits.mono _ _ _
   | exact mask_Clear.mono _ _ _
   | exact sum_TagSize.mono _ _
   | exact sum_common.mono _ _ _
   | exact LeO.none _
   | refine LeO.ite ?_ ?_
   | refine LeO.bind ?_ (fun _ => ?_)
  ·
   intro y0 y1 y2 y3 y4 y5 y6 y7 y8 y9
   unfold sum_Lay.l0
   repeat' first
   | (with_reducible exact ih0 _ _ _ _)
   | (with_reducible exact ih1 _ _ _ _ _ _ _ _ _ _)
   | (with_reducible exact ih2 _ _ _ _ _ _ _ _)
   | (with_reducible exact mask_Bits.mono _ _ _)
   | (with_reducible exact mask_Clear.mono _ _ _)
   | (with_reducible exact sum_TagSize.mono _ _)
   | (with_reducible exact sum_common.mono _ _ _)
   | (with_reducible exact LeO.refl _)
   | (with_reducible exact LeO.none _)
   | (with_reducible refine LeO.ite ?_ ?_)
   | (with_reducible refine LeO.bind ?_ (fun _ => ?_))
   | exact ih0 _ _ _ _
   | exact ih1 _ _ _ _ _ _ _ _ _ _
   | exact ih2 _ _ _ _ _ _ _ _
   | exact mask_Bits.mono _ _ _
   | exact mask_Clear.mono _ _ _
   | exact sum_TagSize.mono _ _
   | exact sum_common.mono _ _ _
   | exact LeO.none _
   | refine LeO.ite ?_ ?_
   | refine LeO.bind ?_ (fun _ => ?_)
  ·
   intro y0 y1 y2 y3 y4 y5 y6 y7
   unfold sum_Lay.l1
   repeat' first
   | (with_reducible exact ih0 _ _ _ _)
   | (with_reducible exact ih1 _ _ _ _ _ _ _ _ _ _)
   | (with_reducible exact ih2 _ _ _ _ _ _ _ _)
   | (with_reducible exact mask_Bits.mono _ _ _)
   | (with_reducible exact mask_Clear.mono _ _ _)
   | (with_reducible exact sum_TagSize.mono _ _)
   | (with_reducible exact sum_common.mono _ _ _)
   | (with_reducible exact LeO.refl _)
   | (with_reducible exact LeO.none _)
   | (with_reducible refine LeO.ite ?_ ?_)
   | (with_reducible refine LeO.bind ?_ (fun _ => ?_))
   | exact ih0 _ _ _ _
   | exact ih1 _ _ _ _ _ _ _ _ _ _
   | exact ih2 _ _ _ _ _ _ _ _
   | exact mask_Bits.mono _ _ _
   | exact mask_Clear.mono _ _ _
   | exact sum_TagSize.mono _ _
   | exact sum_common.mono _ _ _
   | exact LeO.none _
   | refine LeO.ite ?_ ?_
   | refine LeO.bind ?_ (fun _ => ?_)
theorem sum_Lay.mono : ∀ a0 a1 a2 k, LeO (sum_Lay.f k a0 a1 a2) (sum_Lay.f (k + 1) a0 a1 a2) := by
 intro a0 a1 a2 k
 obtain ⟨ih0, ih1, ih2⟩ := sum_Lay.mono_l k
 unfold sum_Lay.f
 repeat' first
   | (with_reducible exact ih0 _ _ _ _)
   | (with_reducible exact ih1 _ _ _ _ _ _ _ _ _ _)
   | (with_reducible exact ih2 _ _ _ _ _ _ _ _)
   | (with_reducible exact mask_Bits.mono _ _ _)
   | (with_reducible exact mask_Clear.mono _ _ _)
   | (with_reducible exact sum_TagSize.mono _ _)
   | (with_reducible exact sum_common.mono _ _ _)
   | (with_reducible exact LeO.refl _)
   | (with_reducible exact LeO.none _)
   | (with_reducible refine LeO.ite ?_ ?_)
   | (with_reducible refine LeO.bind ?_ (fun _ => ?_))
   | exact ih0 _ _ _ _
   | exact ih1 _ _ _ _ _ _ _ _ _ _
   | exact ih2 _ _ _ _ _ _ _ _
   | exact mask_Bits.mono _ _ _
   | exact mask_Clear.mono _ _ _
   | exact sum_TagSize.mono _ _
   | exact sum_common.mono _ _ _
   | exact LeO.none _
   | refine LeO.ite ?_ ?_
   | refine LeO.bind ?_ (fun _ => ?_)
def sum_Lay.T11 : Bool × List (List Nat × List Nat) := (true, [([], []), ([0], [0]), ([], []), ([], []), ([2, 3], [2, 3]), ([4], [4]), ([], []), ([], []), ([6, 7], [6, 7]), ([8], [8]), ([], []), ([10], [10]), ([11], [11]), ([], []), ([13], [13]), ([5, 9, 12, 14], [5, 9, 12, 14]), ([15], [15]), ([1, 16, 12], [1, 16]), ([0, 1, 2, 3, 4, 5, 6, 7, 8, 9, 10, 11, 12, 13, 14, 15, 16, 17], []), ([18, 17, 17, 0, 1, 2, 3, 4, 5, 6, 7, 8, 9, 10, 11, 12, 13, 14, 15, 16, 17], [17, 18])])
def sum_Lay.B11 : List Nat := [0, 1, 0, 0, 12, 28, 0, 0, 192, 448, 0, 1024, 3072, 0, 8192, 32764, 65532, 131071, 262143, 524287]
theorem sum_Lay.tab11 : rtab .any (opsOf Try.f36 11) = sum_Lay.T11 := by kernel_rfl
theorem sum_Lay.bits11 : waitsOk sum_Lay.T11.2 sum_Lay.B11 = true := by kernel_rfl
def sum_Lay.T15 : Bool × List (List Nat × List Nat) := (true, [([], []), ([0], [0]), ([], []), ([2], [2]), ([1, 3], [1, 3]), ([], []), ([5], [5]), ([], []), ([7], [7]), ([6, 8], [6, 8]), ([0, 1, 2, 3, 4, 5, 6], []), ([10, 4, 0, 1, 2, 3, 4, 5, 6], [4, 10]), ([0, 1, 2, 3, 4, 5, 6, 7, 8, 9, 10, 11], []), ([12, 9, 11, 0, 1, 2, 3, 4, 5, 6, 7, 8, 9, 10, 11], [9, 12])])
def sum_Lay.B15 : List Nat := [0, 1, 0, 4, 15, 0, 32, 0, 128, 480, 127, 1151, 4095, 8191]
theorem sum_Lay.tab15 : rtab .any (opsOf Try.f36 15) = sum_Lay.T15 := by kernel_rfl
theorem sum_Lay.bits15 : waitsOk sum_Lay.T15.2 sum_Lay.B15 = true := by kernel_rfl
set_option maxHeartbeats 8000000 in
set_option maxRecDepth 100000 in
theorem sum_Lay.calls (k : Nat) (P0_ : Nat → Prop) (A0 : Option Addr) (c0 : Nat) (l0 : List (S31)) (A1 : Option Addr) (c1 : Nat) (l1 : List ByteArray) (A2 : Option Addr) (c2 : Nat) (l2 : List Bool) (r1 : Int) (r2 : Int) (r3 : List Int) (r4 : List Int) (r5 : List (S101)) (r6 : List (S79)) (r7 : List Int) (r8 : Bool) (r9 : Int) (w : World) (hs0 : Kd.V k31 31 w w.heap.size (fun k_ => P0_ k_) (.slice A0 l0.length c0) l0) (hr1 : Kd.C Kd.string w A1 l1.length l1) (hc1 : l1.length ≤ c1) (hr2 : Kd.C Kd.bool w A2 l2.length l2) (hc2 : l2.length ≤ c2) (h : sum_Lay.f k l0 l1 l2 = some (r1, r2, r3, r4, r5, r6, r7, r8, r9)) :
  Calls Try.prog 36 #[.slice A0 l0.length c0, .slice A1 l1.length c1, .slice A2 l2.length c2] w fun e w' => ∃ v2_ v3_ v4_ v5_ v6_ : Value, e = .returned (.tuple #[.agg #[.int .i64 r1, .int .i64 r2, v2_, v3_, v4_, v5_, v6_, .bool r8], .int .i64 r9]) ∧ Kd.R (Kd.int .u8) 5 w' w.heap.size (fun k_ => (w.heap.size ≤ k_)) v2_ r3 ∧ Kd.R (Kd.int .i64) 3 w' w.heap.size (fun k_ => (w.heap.size ≤ k_) ∧ some k_ ≠ (v6_ : Value).ownBlock) v3_ r4 ∧ Kd.N k101 101 w' w.heap.size (fun k_ => (P0_ k_ ∨ w.heap.size ≤ k_) ∧ some k_ ≠ (v2_ : Value).ownBlock ∧ some k_ ≠ (v3_ : Value).ownBlock ∧ some k_ ≠ (v5_ : Value).ownBlock ∧ some k_ ≠ (v6_ : Value).ownBlock) v4_ r5 ∧ Kd.N k79 79 w' w.heap.size (fun k_ => (P0_ k_ ∨ w.heap.size ≤ k_) ∧ some k_ ≠ (v2_ : Value).ownBlock ∧ some k_ ≠ (v3_ : Value).ownBlock ∧ some k_ ≠ (v4_ : Value).ownBlock ∧ some k_ ≠ (v6_ : Value).ownBlock) v5_ r6 ∧ Kd.R (Kd.int .i64) 3 w' w.heap.size (fun k_ => (w.heap.size ≤ k_) ∧ some k_ ≠ (v3_ : Value).ownBlock) v6_ r7 ∧ Below w.heap.size w w' := by
 have hu31 := Try.underlying31
 have hu79 := Try.underlying79
 have HO0 := Aside0.mk (show Kd.V k31 31 w w.heap.size (fun k_ => (P0_ k_ ∨ w.heap.size ≤ k_)) (.slice A0 l0.length c0) l0 from Kd.V_mono hs0 (fun k_ hk => .inl hk))
 have HR1 := Aside0.mk hr1
 have HC1 := Aside0.mk hc1
 clear hr1 hc1
 have HR2 := Aside0.mk hr2
 have HC2 := Aside0.mk hc2
 clear hr2 hc2
 have HB := Aside0.mk (Below.refl w.heap.size w)
 have H : ((AnyBadS.f l0).bind fun t155 => (if (l0.length : Int) = (l1.length : Int) then (if (l1.length : Int) = (l2.length : Int) then (sum_Lay.j0 k l0 l1 l2 t155) else (sum_Lay.j0 k l0 l1 l2 true)) else (sum_Lay.j0 k l0 l1 l2 true))) = some (r1, r2, r3, r4, r5, r6, r7, r8, r9) := h
 clear h
 replace H := Option.bind_eq_some_iff.mp H
 obtain ⟨t155, A40, H⟩ := H
 try dsimp only at H
 have A4 := Aside0.mk A40
 clear A40
 have HC5 := Aside0.mk H
 clear H
 go_enter Try.func36, Try.ntmps36
 go_upto_region 2 with (first | ((with_reducible refine gate_dst (N := 6) rfl ?_); (try (refine gate_guard (by rfl) ?_; dsimp only)); refine box_event ?hg (N := 6) ?hd (cs := #[.int .i64 0, .int .i64 0, .slice none 0 0, .slice none 0 0, .slice none 0 0, .slice none 0 0, .slice none 0 0, .bool false]) (t := 31) ?hr ?_; (case hd => rfl); (case hg => rfl); (case hr => first | (go_simp; done) | (go_simp; rfl)); intro gb154 hg w6 hbox hb; have n0_ := Aside0.mk (Kd.V_below (Kd.V_elderB (kV_ HO0.out) gb154 (Nat.le_of_eq hg.symm)) hb); have n1_ := Aside0.mk (below_step (hb0_ HB.out) hb); have n2_ := Aside0.mk (hbox); have n3_ := Aside0.mk ((by rw [hg]; exact (below_size (hb0_ HB.out)) : w.heap.size ≤ gb154)); have n4_ := Aside0.mk ((by rw [hg]; exact (below_size (hb0_ HB.out)) : w.heap.size ≤ gb154)); clear HO0 HB; revert n0_ n1_ n2_ n3_ n4_; intro HO0 HB BK154 GW154 GE154; clear hb hbox hg) | ((with_reducible refine gate_callee (f := 72) rfl ?_); refine goesL_ (some 19) rfl rfl Try.func72 (by kernel_rfl) rfl #[.slice A0 l0.length c0, .func (.func 77) #[] #[]] rfl (by (try simp only [List.map_toArray, List.map_cons, List.map_nil]); first | done | rfl | (simp only [List.length_drop, List.length_take]; rfl)) ?_; (with_reducible refine (AnyBadS.calls _ _ l0 t155 _ ?side1 ?side2 A4.out).mono ?_); (case side1 => exact kD_ (Kd.V_reads' HO0.out).2.2); (case side2 => exact (Kd.V_reads' HO0.out).2.1); rintro e w7 ⟨rfl, hb⟩; refine ⟨_, rfl, ?_⟩; have n0_ := Aside0.mk (Kd.V_below (kV_ HO0.out) hb); have n1_ := Aside0.mk (blk_below (g := gb154) (o := .cells #[.int .i64 0, .int .i64 0, .slice none 0 0, .slice none 0 0, .slice none 0 0, .slice none 0 0, .slice none 0 0, .bool false] 31 (0, 0)) (bk_ BK154.out) hb); have n2_ := Aside0.mk (below_step (hb1_ HB.out GE154.out) hb); clear HO0 BK154 HB; revert n0_ n1_ n2_; intro HO0 BK154 HB; (try clear hb); (try clear hb2); (try clear hk); (try clear hi)))
 (try simp only [Act.put, setIfInBounds_toArray, set_cons_zero, set_cons_succ])
 go_cut [34] (fun v34 wc => ∃ (kq : Nat) (x34_4 : Bool), v34 = .bool x34_4 ∧ Aside0 (sum_Lay.j0 kq l0 l1 l2 x34_4 = some (r1, r2, r3, r4, r5, r6, r7, r8, r9)) ∧ Aside0 (kq ≤ k) ∧ Aside0 (Kd.V k31 31 wc w.heap.size (fun k_ => (P0_ k_ ∨ w.heap.size ≤ k_) ∧ k_ ≠ gb154) (.slice A0 l0.length c0) l0) ∧ Aside0 (wc.heap[gb154]? = some (.cells #[.int .i64 0, .int .i64 0, (.slice none 0 0), (.slice none 0 0), (.slice none 0 0), (.slice none 0 0), (.slice none 0 0), .bool false] 31 (0, 0))) ∧ Aside0 (Below w.heap.size w wc))
 case first =>
  have H := HC5.out
  clear HC5
  by_cases c8 : (l0.length : Int) = (l1.length : Int)
  ·
   rw [if_pos c8] at H
   have c8b0 : ((l0.length : Int) == (l1.length : Int)) = true := beq_iff_eq.mpr c8
   have c8b1 : ((l0.length : Int) != (l1.length : Int)) = false := bne_eq_false_iff_eq.mpr c8
   have c8b2 : (l0.length == l1.length) = true := by first | simpa using c8 | (simp at c8 ⊢; omega)
   clear c8
   (first | rw [c8b0] | (simp only [i64_w, i32_w]; rw [c8b0]) | skip)
   by_cases c9 : (l1.length : Int) = (l2.length : Int)
   ·
    rw [if_pos c9] at H
    have c9b0 : ((l1.length : Int) == (l2.length : Int)) = true := beq_iff_eq.mpr c9
    have c9b1 : ((l1.length : Int) != (l2.length : Int)) = false := bne_eq_false_iff_eq.mpr c9
    have c9b2 : (l1.length == l2.length) = true := by first | simpa using c9 | (simp at c9 ⊢; omega)
    clear c9
    have H' := Aside0.mk H
    clear H
    go_wp2
    go_meet
    case rel => exact ⟨_, (t155), (by first | rfl | (simp; done) | (simp [*]; done)), H', ⟨by first | omega | exact Nat.le_refl _⟩, ⟨by (with_reducible repeat (first | apply Kd.V_alloc | apply Kd.V_drewN | apply Kd.V_drew)); exact HO0.out⟩, ⟨by (with_reducible repeat (first | refine blk_drewN ?_ _ | refine blk_drew ?_ | refine blk_alloc ?_ _)); exact BK154.out⟩, ⟨(hb1_ HB.out GE154.out)⟩⟩
   ·
    rw [if_neg c9] at H
    have c9b0 : ((l1.length : Int) == (l2.length : Int)) = false := beq_eq_false_iff_ne.mpr c9
    have c9b1 : ((l1.length : Int) != (l2.length : Int)) = true := bne_iff_ne.mpr c9
    have c9b2 : (l1.length == l2.length) = false := by first | simpa using c9 | (simp at c9 ⊢; omega)
    have H' := Aside0.mk H
    clear H
    go_wp2
    go_meet
    case rel => exact ⟨_, (true), (by first | rfl | (simp; done) | (simp [*]; done)), H', ⟨by first | omega | exact Nat.le_refl _⟩, ⟨by (with_reducible repeat (first | apply Kd.V_alloc | apply Kd.V_drewN | apply Kd.V_drew)); exact HO0.out⟩, ⟨by (with_reducible repeat (first | refine blk_drewN ?_ _ | refine blk_drew ?_ | refine blk_alloc ?_ _)); exact BK154.out⟩, ⟨(hb1_ HB.out GE154.out)⟩⟩
  ·
   rw [if_neg c8] at H
   have c8b0 : ((l0.length : Int) == (l1.length : Int)) = false := beq_eq_false_iff_ne.mpr c8
   have c8b1 : ((l0.length : Int) != (l1.length : Int)) = true := bne_iff_ne.mpr c8
   have c8b2 : (l0.length == l1.length) = false := by first | simpa using c8 | (simp at c8 ⊢; omega)
   (first | rw [c8b0] | (simp only [i64_w, i32_w]; rw [c8b0]) | skip)
   have H' := Aside0.mk H
   clear H
   go_wp2
   go_meet
   case rel => exact ⟨_, (true), (by first | rfl | (simp; done) | (simp [*]; done)), H', ⟨by first | omega | exact Nat.le_refl _⟩, ⟨by (with_reducible repeat (first | apply Kd.V_alloc | apply Kd.V_drewN | apply Kd.V_drew)); exact HO0.out⟩, ⟨by (with_reducible repeat (first | refine blk_drewN ?_ _ | refine blk_drew ?_ | refine blk_alloc ?_ _)); exact BK154.out⟩, ⟨(hb1_ HB.out GE154.out)⟩⟩
 case rest =>
  clear HC5
  try clear c1
  try clear c2
  try clear p2
  try clear c3
  try clear c7
  try clear c8
  try clear c8b0
  try clear c8b1
  try clear c8b2
  try clear c9
  try clear c9b0
  try clear c9b1
  try clear c9b2
  obtain ⟨kq, x34_4, rfl, HA, HJ4, HO_0, BK154, HB⟩ := hcut
  cases kq with
  | zero => exact absurd HA.out (by simp [sum_Lay.j0])
  | succ kj4 =>
   have H := HA.out
   clear HA
   simp only [sum_Lay.j0] at H
   by_cases c10 : x34_4 = true
   ·
    subst c10
    have H1 : (some (0, 0, ([] : List Int), ([] : List Int), ([] : List (S101)), ([] : List (S79)), ([] : List Int), false, 19)) = some (r1, r2, r3, r4, r5, r6, r7, r8, r9) := by rw [if_pos rfl] at H; exact H
    clear H
    have H := H1
    clear H1
    simp only [Option.some.injEq, Prod.mk.injEq] at H
    obtain ⟨rfl, rfl, rfl, rfl, rfl, rfl, rfl, rfl, rfl⟩ := H
    obtain ⟨hcz11_0, hcz11_1, hcz11_2, hcz11_3, hcz11_4, hcz11_5, hcz11_6, hcz11_7, hfz11_0, hfz11_1, hfz11_2, hfz11_3, hfz11_4, hfz11_5, hfz11_6, hfz11_7⟩ := bx8_ BK154.out
    go_wp2
    refine bodyPost_ret (results_ct rfl _ _ gb154 31 #[.int .i64 0, .int .i64 0, .slice none 0 0, .slice none 0 0, .slice none 0 0, .slice none 0 0, .slice none 0 0, .bool false] (0, 0) _ rfl (by (with_reducible repeat (first | refine blk_drewN ?_ _ | refine blk_drew ?_ | refine blk_alloc ?_ _)); refine blk_put (cs := #[.int .i64 0, .int .i64 0, .slice none 0 0, .slice none 0 0, .slice none 0 0, .slice none 0 0, .slice none 0 0, .bool false]) ?_ 7 _ rfl; (with_reducible repeat (first | refine blk_drewN ?_ _ | refine blk_drew ?_ | refine blk_alloc ?_ _)); refine blk_put (cs := #[.int .i64 0, .int .i64 0, .slice none 0 0, .slice none 0 0, .slice none 0 0, .slice none 0 0, .slice none 0 0, .bool false]) ?_ 6 _ rfl; (with_reducible repeat (first | refine blk_drewN ?_ _ | refine blk_drew ?_ | refine blk_alloc ?_ _)); refine blk_put (cs := #[.int .i64 0, .int .i64 0, .slice none 0 0, .slice none 0 0, .slice none 0 0, .slice none 0 0, .slice none 0 0, .bool false]) ?_ 5 _ rfl; (with_reducible repeat (first | refine blk_drewN ?_ _ | refine blk_drew ?_ | refine blk_alloc ?_ _)); refine blk_put (cs := #[.int .i64 0, .int .i64 0, .slice none 0 0, .slice none 0 0, .slice none 0 0, .slice none 0 0, .slice none 0 0, .bool false]) ?_ 4 _ rfl; (with_reducible repeat (first | refine blk_drewN ?_ _ | refine blk_drew ?_ | refine blk_alloc ?_ _)); refine blk_put (cs := #[.int .i64 0, .int .i64 0, .slice none 0 0, .slice none 0 0, .slice none 0 0, .slice none 0 0, .slice none 0 0, .bool false]) ?_ 3 _ rfl; (with_reducible repeat (first | refine blk_drewN ?_ _ | refine blk_drew ?_ | refine blk_alloc ?_ _)); refine blk_put (cs := #[.int .i64 0, .int .i64 0, .slice none 0 0, .slice none 0 0, .slice none 0 0, .slice none 0 0, .slice none 0 0, .bool false]) ?_ 2 _ rfl; (with_reducible repeat (first | refine blk_drewN ?_ _ | refine blk_drew ?_ | refine blk_alloc ?_ _)); refine blk_put (cs := #[.int .i64 0, .int .i64 0, .slice none 0 0, .slice none 0 0, .slice none 0 0, .slice none 0 0, .slice none 0 0, .bool false]) ?_ 1 _ rfl; (with_reducible repeat (first | refine blk_drewN ?_ _ | refine blk_drew ?_ | refine blk_alloc ?_ _)); refine blk_put (cs := #[.int .i64 0, .int .i64 0, .slice none 0 0, .slice none 0 0, .slice none 0 0, .slice none 0 0, .slice none 0 0, .bool false]) ?_ 0 _ rfl; (with_reducible repeat (first | refine blk_drewN ?_ _ | refine blk_drew ?_ | refine blk_alloc ?_ _)); exact BK154.out) Try.underlying31 rfl (by kernel_rfl)) rfl ?_
    exact ⟨_, _, _, _, _, by first | rfl | (simp [errW_none, errW_some] <;> rfl) | (simp [*, errW_none, errW_some] <;> rfl), by first | exact Kd.R_nil _ _ _ _ _ | exact Kd.N_nil _ _ _ _ _ | exact Kd.V_nil _ _ _ _ _ | exact Kd.Q_nil _ _ _ _ _ | exact Kd.S_nil _ _ _ _ _, by first | exact Kd.R_nil _ _ _ _ _ | exact Kd.N_nil _ _ _ _ _ | exact Kd.V_nil _ _ _ _ _ | exact Kd.Q_nil _ _ _ _ _ | exact Kd.S_nil _ _ _ _ _, by first | exact Kd.R_nil _ _ _ _ _ | exact Kd.N_nil _ _ _ _ _ | exact Kd.V_nil _ _ _ _ _ | exact Kd.Q_nil _ _ _ _ _ | exact Kd.S_nil _ _ _ _ _, by first | exact Kd.R_nil _ _ _ _ _ | exact Kd.N_nil _ _ _ _ _ | exact Kd.V_nil _ _ _ _ _ | exact Kd.Q_nil _ _ _ _ _ | exact Kd.S_nil _ _ _ _ _, by first | exact Kd.R_nil _ _ _ _ _ | exact Kd.N_nil _ _ _ _ _ | exact Kd.V_nil _ _ _ _ _ | exact Kd.Q_nil _ _ _ _ _ | exact Kd.S_nil _ _ _ _ _, (hb1_ HB.out GE154.out)⟩
   ·
    replace c10 := Bool.eq_false_iff.mpr c10
    subst c10
    have H1 : (if (l1.length : Int) > 12 then (some (0, 0, ([] : List Int), ([] : List Int), ([] : List (S101)), ([] : List (S79)), ([] : List Int), false, 4)) else (sum_Lay.l0 kj4 l1 l2 ([] : List (S31)) l0 (l0.length : Int) 0 0 1 ([] : List (S79)) false)) = some (r1, r2, r3, r4, r5, r6, r7, r8, r9) := by rw [if_neg (show ¬ (false = true) by decide)] at H; exact H
    clear H
    have H := H1
    clear H1
    by_cases c12 : (l1.length : Int) > 12
    ·
     rw [if_pos c12] at H
     have c12b0 : decide (12 < (l1.length : Int)) = true := decide_eq_true c12
     have c12b1 : decide (12 < l1.length) = true := decide_eq_true (by omega)
     clear c12
     simp only [Option.some.injEq, Prod.mk.injEq] at H
     obtain ⟨rfl, rfl, rfl, rfl, rfl, rfl, rfl, rfl, rfl⟩ := H
     obtain ⟨hcz13_0, hcz13_1, hcz13_2, hcz13_3, hcz13_4, hcz13_5, hcz13_6, hcz13_7, hfz13_0, hfz13_1, hfz13_2, hfz13_3, hfz13_4, hfz13_5, hfz13_6, hfz13_7⟩ := bx8_ BK154.out
     go_wp2
     refine bodyPost_ret (results_ct rfl _ _ gb154 31 #[.int .i64 0, .int .i64 0, .slice none 0 0, .slice none 0 0, .slice none 0 0, .slice none 0 0, .slice none 0 0, .bool false] (0, 0) _ rfl (by (with_reducible repeat (first | refine blk_drewN ?_ _ | refine blk_drew ?_ | refine blk_alloc ?_ _)); refine blk_put (cs := #[.int .i64 0, .int .i64 0, .slice none 0 0, .slice none 0 0, .slice none 0 0, .slice none 0 0, .slice none 0 0, .bool false]) ?_ 7 _ rfl; (with_reducible repeat (first | refine blk_drewN ?_ _ | refine blk_drew ?_ | refine blk_alloc ?_ _)); refine blk_put (cs := #[.int .i64 0, .int .i64 0, .slice none 0 0, .slice none 0 0, .slice none 0 0, .slice none 0 0, .slice none 0 0, .bool false]) ?_ 6 _ rfl; (with_reducible repeat (first | refine blk_drewN ?_ _ | refine blk_drew ?_ | refine blk_alloc ?_ _)); refine blk_put (cs := #[.int .i64 0, .int .i64 0, .slice none 0 0, .slice none 0 0, .slice none 0 0, .slice none 0 0, .slice none 0 0, .bool false]) ?_ 5 _ rfl; (with_reducible repeat (first | refine blk_drewN ?_ _ | refine blk_drew ?_ | refine blk_alloc ?_ _)); refine blk_put (cs := #[.int .i64 0, .int .i64 0, .slice none 0 0, .slice none 0 0, .slice none 0 0, .slice none 0 0, .slice none 0 0, .bool false]) ?_ 4 _ rfl; (with_reducible repeat (first | refine blk_drewN ?_ _ | refine blk_drew ?_ | refine blk_alloc ?_ _)); refine blk_put (cs := #[.int .i64 0, .int .i64 0, .slice none 0 0, .slice none 0 0, .slice none 0 0, .slice none 0 0, .slice none 0 0, .bool false]) ?_ 3 _ rfl; (with_reducible repeat (first | refine blk_drewN ?_ _ | refine blk_drew ?_ | refine blk_alloc ?_ _)); refine blk_put (cs := #[.int .i64 0, .int .i64 0, .slice none 0 0, .slice none 0 0, .slice none 0 0, .slice none 0 0, .slice none 0 0, .bool false]) ?_ 2 _ rfl; (with_reducible repeat (first | refine blk_drewN ?_ _ | refine blk_drew ?_ | refine blk_alloc ?_ _)); refine blk_put (cs := #[.int .i64 0, .int .i64 0, .slice none 0 0, .slice none 0 0, .slice none 0 0, .slice none 0 0, .slice none 0 0, .bool false]) ?_ 1 _ rfl; (with_reducible repeat (first | refine blk_drewN ?_ _ | refine blk_drew ?_ | refine blk_alloc ?_ _)); refine blk_put (cs := #[.int .i64 0, .int .i64 0, .slice none 0 0, .slice none 0 0, .slice none 0 0, .slice none 0 0, .slice none 0 0, .bool false]) ?_ 0 _ rfl; (with_reducible repeat (first | refine blk_drewN ?_ _ | refine blk_drew ?_ | refine blk_alloc ?_ _)); exact BK154.out) Try.underlying31 rfl (by kernel_rfl)) rfl ?_
     exact ⟨_, _, _, _, _, by first | rfl | (simp [errW_none, errW_some] <;> rfl) | (simp [*, errW_none, errW_some] <;> rfl), by first | exact Kd.R_nil _ _ _ _ _ | exact Kd.N_nil _ _ _ _ _ | exact Kd.V_nil _ _ _ _ _ | exact Kd.Q_nil _ _ _ _ _ | exact Kd.S_nil _ _ _ _ _, by first | exact Kd.R_nil _ _ _ _ _ | exact Kd.N_nil _ _ _ _ _ | exact Kd.V_nil _ _ _ _ _ | exact Kd.Q_nil _ _ _ _ _ | exact Kd.S_nil _ _ _ _ _, by first | exact Kd.R_nil _ _ _ _ _ | exact Kd.N_nil _ _ _ _ _ | exact Kd.V_nil _ _ _ _ _ | exact Kd.Q_nil _ _ _ _ _ | exact Kd.S_nil _ _ _ _ _, by first | exact Kd.R_nil _ _ _ _ _ | exact Kd.N_nil _ _ _ _ _ | exact Kd.V_nil _ _ _ _ _ | exact Kd.Q_nil _ _ _ _ _ | exact Kd.S_nil _ _ _ _ _, by first | exact Kd.R_nil _ _ _ _ _ | exact Kd.N_nil _ _ _ _ _ | exact Kd.V_nil _ _ _ _ _ | exact Kd.Q_nil _ _ _ _ _ | exact Kd.S_nil _ _ _ _ _, (hb1_ HB.out GE154.out)⟩
    ·
     rw [if_neg c12] at H
     have c12b0 : decide (12 < (l1.length : Int)) = false := decide_eq_false c12
     have c12b1 : decide (12 < l1.length) = false := decide_eq_false (by omega)
     clear c12
     have H' := Aside0.mk H
     clear H
     go_wp2_with (first | ((with_reducible refine gate_dst (N := 9) rfl ?_); (try (refine gate_guard (by rfl) ?_; dsimp only)); refine box_event ?hg (N := 9) ?hd (cs := #[.int .i64 0, .int .i64 0, .slice none 0 0, .slice none 0 0, .slice none 0 0, .slice none 0 0, .slice none 0 0, .bool false]) (t := 31) ?hr ?_; (case hd => rfl); (case hg => rfl); (case hr => first | (go_simp; done) | (go_simp; rfl)); intro gb156 hg w14 hbox hb; have n0_ := Aside0.mk (Kd.V_below (Kd.V_elderB (kV_ HO_0.out) gb156 (Nat.le_of_eq hg.symm)) hb); have n1_ := Aside0.mk (blk_below (g := gb154) (o := .cells #[.int .i64 0, .int .i64 0, .slice none 0 0, .slice none 0 0, .slice none 0 0, .slice none 0 0, .slice none 0 0, .bool false] 31 (0, 0)) (bk_ BK154.out) hb); have n2_ := Aside0.mk (below_step (hb1_ HB.out GE154.out) hb); have n3_ := Aside0.mk (hbox); have n4_ := Aside0.mk ((by rw [hg]; exact (below_size (hb1_ HB.out GE154.out)) : w.heap.size ≤ gb156)); have n5_ := Aside0.mk ((by rw [hg]; exact (below_size (hb1_ HB.out GE154.out)) : w.heap.size ≤ gb156)); have n6_ := Aside0.mk ((by rw [hg]; exact Nat.ne_of_lt (blk_lt (g := gb154) (o := .cells #[.int .i64 0, .int .i64 0, .slice none 0 0, .slice none 0 0, .slice none 0 0, .slice none 0 0, .slice none 0 0, .bool false] 31 (0, 0)) (bk_ BK154.out)) : gb154 ≠ gb156)); have n7_ := Aside0.mk ((by rw [hg]; exact Nat.ne_of_gt (blk_lt (g := gb154) (o := .cells #[.int .i64 0, .int .i64 0, .slice none 0 0, .slice none 0 0, .slice none 0 0, .slice none 0 0, .slice none 0 0, .bool false] 31 (0, 0)) (bk_ BK154.out)) : gb156 ≠ gb154)); clear HO_0 BK154 HB; revert n0_ n1_ n2_ n3_ n4_ n5_ n6_ n7_; intro HO_0 BK154 HB BK156 GW156 GE156 NB154_156 NB156_154; clear hb hbox hg; have hnb15 := NB156_154.out; have hnc15 := NB154_156.out; obtain ⟨hcz16_0, hcz16_1, hcz16_2, hcz16_3, hcz16_4, hcz16_5, hcz16_6, hcz16_7, hfz16_0, hfz16_1, hfz16_2, hfz16_3, hfz16_4, hfz16_5, hfz16_6, hfz16_7⟩ := bx8_ BK156.out))
     go_loopg [10, 43] kj4 (fun kq v10 v43 w' => ∃ (x10_2 : List (S31)) (x43_2 : Int) (x157000_2 : Int) (x157001_2 : Int) (x157005_2 : List (S79)) (u157005 : Value), v43 = .int .i64 x43_2 ∧ Aside0 (sum_Lay.l0 kq l1 l2 x10_2 l0 (l0.length : Int) x43_2 x157000_2 x157001_2 x157005_2 false = some (r1, r2, r3, r4, r5, r6, r7, r8, r9)) ∧ Aside0 (kq ≤ kj4) ∧ Aside0 (Kd.N k31 31 w' w.heap.size (fun k_ => (P0_ k_ ∨ w.heap.size ≤ k_) ∧ some k_ ≠ (u157005 : Value).ownBlock ∧ k_ ≠ gb154 ∧ k_ ≠ gb156) v10 x10_2) ∧ Aside0 (Kd.V k31 31 w' w.heap.size (fun k_ => (P0_ k_ ∨ w.heap.size ≤ k_) ∧ some k_ ≠ (v10 : Value).ownBlock ∧ some k_ ≠ (u157005 : Value).ownBlock ∧ k_ ≠ gb154 ∧ k_ ≠ gb156) (.slice A0 l0.length c0) l0) ∧ Aside0 (Kd.N k79 79 w' w.heap.size (fun k_ => (P0_ k_ ∨ w.heap.size ≤ k_) ∧ some k_ ≠ (v10 : Value).ownBlock ∧ k_ ≠ gb154 ∧ k_ ≠ gb156) u157005 x157005_2) ∧ Aside0 (w'.heap[gb154]? = some (.cells #[.int .i64 0, .int .i64 0, (.slice none 0 0), (.slice none 0 0), (.slice none 0 0), (.slice none 0 0), (.slice none 0 0), .bool false] 31 (0, 0))) ∧ Aside0 (w'.heap[gb156]? = some (.cells #[.int .i64 x157000_2, .int .i64 x157001_2, (.slice none 0 0), (.slice none 0 0), (.slice none 0 0), u157005, (.slice none 0 0), .bool false] 31 (0, 0))) ∧ Aside0 (Below w.heap.size w w'))
     case atStart => exact ⟨(([] : List (S31))), (0), (0), (1), (([] : List (S79))), (.slice none 0 0), (by first | rfl | (simp; done) | (simp [*]; done)), H', ⟨Nat.le_refl _⟩, ⟨by first | exact Kd.R_nil _ _ _ _ _ | exact Kd.N_nil _ _ _ _ _ | exact Kd.V_nil _ _ _ _ _ | exact Kd.Q_nil _ _ _ _ _ | exact Kd.S_nil _ _ _ _ _⟩, ⟨by (with_reducible repeat (first | apply Kd.V_alloc | apply Kd.V_drewN | apply Kd.V_drew)); exact Kd.V_mono (Kd.V_far (p := ⟨gb156, 7, none⟩) (Kd.V_far (p := ⟨gb156, 6, none⟩) (Kd.V_far (p := ⟨gb156, 5, none⟩) (Kd.V_far (p := ⟨gb156, 4, none⟩) (Kd.V_far (p := ⟨gb156, 3, none⟩) (Kd.V_far (p := ⟨gb156, 2, none⟩) (Kd.V_far (p := ⟨gb156, 1, none⟩) (Kd.V_far (p := ⟨gb156, 0, none⟩) (Kd.V_mono HO_0.out (fun k_ hk => (⟨hk, hk.2⟩ : _ ∧ k_ ≠ gb156))) (fun _ hk => hk.2) (.int .i64 0)) (fun _ hk => hk.2) (.int .i64 1)) (fun _ hk => hk.2) (.slice none 0 0)) (fun _ hk => hk.2) (.slice none 0 0)) (fun _ hk => hk.2) (.slice none 0 0)) (fun _ hk => hk.2) (.slice none 0 0)) (fun _ hk => hk.2) (.slice none 0 0)) (fun _ hk => hk.2) (.bool false)) (fun _ hk => ⟨hk.1.1.1, ⟨(by simp [Value.ownBlock]), ⟨(by simp [Value.ownBlock]), ⟨hk.1.1.2, hk.1.2⟩⟩⟩⟩)⟩, ⟨by first | exact Kd.R_nil _ _ _ _ _ | exact Kd.N_nil _ _ _ _ _ | exact Kd.V_nil _ _ _ _ _ | exact Kd.Q_nil _ _ _ _ _ | exact Kd.S_nil _ _ _ _ _⟩, ⟨by (with_reducible repeat (first | refine blk_drewN ?_ _ | refine blk_drew ?_ | refine blk_alloc ?_ _)); refine blk_far ?_ NB154_156.out _; (with_reducible repeat (first | refine blk_drewN ?_ _ | refine blk_drew ?_ | refine blk_alloc ?_ _)); refine blk_far ?_ NB154_156.out _; (with_reducible repeat (first | refine blk_drewN ?_ _ | refine blk_drew ?_ | refine blk_alloc ?_ _)); refine blk_far ?_ NB154_156.out _; (with_reducible repeat (first | refine blk_drewN ?_ _ | refine blk_drew ?_ | refine blk_alloc ?_ _)); refine blk_far ?_ NB154_156.out _; (with_reducible repeat (first | refine blk_drewN ?_ _ | refine blk_drew ?_ | refine blk_alloc ?_ _)); refine blk_far ?_ NB154_156.out _; (with_reducible repeat (first | refine blk_drewN ?_ _ | refine blk_drew ?_ | refine blk_alloc ?_ _)); refine blk_far ?_ NB154_156.out _; (with_reducible repeat (first | refine blk_drewN ?_ _ | refine blk_drew ?_ | refine blk_alloc ?_ _)); refine blk_far ?_ NB154_156.out _; (with_reducible repeat (first | refine blk_drewN ?_ _ | refine blk_drew ?_ | refine blk_alloc ?_ _)); refine blk_far ?_ NB154_156.out _; (with_reducible repeat (first | refine blk_drewN ?_ _ | refine blk_drew ?_ | refine blk_alloc ?_ _)); exact BK154.out⟩, ⟨by (with_reducible repeat (first | refine blk_drewN ?_ _ | refine blk_drew ?_ | refine blk_alloc ?_ _)); refine blk_put (cs := #[.int .i64 0, .int .i64 1, .slice none 0 0, .slice none 0 0, .slice none 0 0, .slice none 0 0, .slice none 0 0, .bool false]) ?_ 7 _ rfl; (with_reducible repeat (first | refine blk_drewN ?_ _ | refine blk_drew ?_ | refine blk_alloc ?_ _)); refine blk_put (cs := #[.int .i64 0, .int .i64 1, .slice none 0 0, .slice none 0 0, .slice none 0 0, .slice none 0 0, .slice none 0 0, .bool false]) ?_ 6 _ rfl; (with_reducible repeat (first | refine blk_drewN ?_ _ | refine blk_drew ?_ | refine blk_alloc ?_ _)); refine blk_put (cs := #[.int .i64 0, .int .i64 1, .slice none 0 0, .slice none 0 0, .slice none 0 0, .slice none 0 0, .slice none 0 0, .bool false]) ?_ 5 _ rfl; (with_reducible repeat (first | refine blk_drewN ?_ _ | refine blk_drew ?_ | refine blk_alloc ?_ _)); refine blk_put (cs := #[.int .i64 0, .int .i64 1, .slice none 0 0, .slice none 0 0, .slice none 0 0, .slice none 0 0, .slice none 0 0, .bool false]) ?_ 4 _ rfl; (with_reducible repeat (first | refine blk_drewN ?_ _ | refine blk_drew ?_ | refine blk_alloc ?_ _)); refine blk_put (cs := #[.int .i64 0, .int .i64 1, .slice none 0 0, .slice none 0 0, .slice none 0 0, .slice none 0 0, .slice none 0 0, .bool false]) ?_ 3 _ rfl; (with_reducible repeat (first | refine blk_drewN ?_ _ | refine blk_drew ?_ | refine blk_alloc ?_ _)); refine blk_put (cs := #[.int .i64 0, .int .i64 1, .slice none 0 0, .slice none 0 0, .slice none 0 0, .slice none 0 0, .slice none 0 0, .bool false]) ?_ 2 _ rfl; (with_reducible repeat (first | refine blk_drewN ?_ _ | refine blk_drew ?_ | refine blk_alloc ?_ _)); refine blk_put (cs := #[.int .i64 0, .int .i64 0, .slice none 0 0, .slice none 0 0, .slice none 0 0, .slice none 0 0, .slice none 0 0, .bool false]) ?_ 1 _ rfl; (with_reducible repeat (first | refine blk_drewN ?_ _ | refine blk_drew ?_ | refine blk_alloc ?_ _)); refine blk_put (cs := #[.int .i64 0, .int .i64 0, .slice none 0 0, .slice none 0 0, .slice none 0 0, .slice none 0 0, .slice none 0 0, .bool false]) ?_ 0 _ rfl; (with_reducible repeat (first | refine blk_drewN ?_ _ | refine blk_drew ?_ | refine blk_alloc ?_ _)); exact BK156.out⟩, ⟨(hb2_ HB.out GE154.out GE156.out)⟩⟩
     case round =>
      clear H'
      try clear c1
      try clear c2
      try clear p2
      try clear c3
      try clear c7
      try clear c8
      try clear c8b0
      try clear c8b1
      try clear c8b2
      try clear c9
      try clear c9b0
      try clear c9b1
      try clear c9b2
      try clear c10
      try clear c12
      try clear c12b0
      try clear c12b1
      try clear c15
      try clear hcz11_0
      try clear hcz11_1
      try clear hcz11_2
      try clear hcz11_3
      try clear hcz11_4
      try clear hcz11_5
      try clear hcz11_6
      try clear hcz11_7
      try clear hcz13_0
      try clear hcz13_1
      try clear hcz13_2
      try clear hcz13_3
      try clear hcz13_4
      try clear hcz13_5
      try clear hcz13_6
      try clear hcz13_7
      try clear hcz16_0
      try clear hcz16_1
      try clear hcz16_2
      try clear hcz16_3
      try clear hcz16_4
      try clear hcz16_5
      try clear hcz16_6
      try clear hcz16_7
      try clear hfz11_0
      try clear hfz11_1
      try clear hfz11_2
      try clear hfz11_3
      try clear hfz11_4
      try clear hfz11_5
      try clear hfz11_6
      try clear hfz11_7
      try clear hfz13_0
      try clear hfz13_1
      try clear hfz13_2
      try clear hfz13_3
      try clear hfz13_4
      try clear hfz13_5
      try clear hfz13_6
      try clear hfz13_7
      try clear hfz16_0
      try clear hfz16_1
      try clear hfz16_2
      try clear hfz16_3
      try clear hfz16_4
      try clear hfz16_5
      try clear hfz16_6
      try clear hfz16_7
      try clear p2
      obtain ⟨x10_2, x43_2, x157000_2, x157001_2, x157005_2, u157005, rfl, HA, HK2, HO_10, HO_41, HO_157005, BK154, BK156, HB⟩ := hrel
      cases gk with
      | zero => exact absurd HA.out (by simp [sum_Lay.l0])
      | succ k2 =>
       have H := HA.out
       clear HA
       simp only [sum_Lay.l0] at H
       by_cases c17 : x43_2 < (l0.length : Int)
       ·
        rw [if_pos c17] at H
        have c17b0 : decide (x43_2 < (l0.length : Int)) = true := decide_eq_true c17
        clear c17
        by_cases c18 : 0 ≤ x43_2
        rotate_left
        ·
         rw [if_neg c18] at H
         exact absurd H (by simp)
        rw [if_pos c18] at H
        have c18b0 : decide (0 ≤ x43_2) = true := decide_eq_true c18
        clear c18
        by_cases c19 : x43_2 < (l0.length : Int)
        rotate_left
        ·
         rw [if_neg c19] at H
         exact absurd H (by simp)
        rw [if_pos c19] at H
        have c19b0 : decide (x43_2 < (l0.length : Int)) = true := decide_eq_true c19
        clear c19
        by_cases c20 : x43_2 < (l1.length : Int)
        rotate_left
        ·
         rw [if_neg c20] at H
         exact absurd H (by simp)
        rw [if_pos c20] at H
        have c20b0 : decide (x43_2 < (l1.length : Int)) = true := decide_eq_true c20
        clear c20
        by_cases c21 : x43_2 < (l2.length : Int)
        rotate_left
        ·
         rw [if_neg c21] at H
         exact absurd H (by simp)
        rw [if_pos c21] at H
        have c21b0 : decide (x43_2 < (l2.length : Int)) = true := decide_eq_true c21
        clear c21
        replace H := Option.bind_eq_some_iff.mp H
        obtain ⟨t161, A220, H⟩ := H
        try dsimp only at H
        have A22 := Aside0.mk A220
        clear A220
        by_cases c23 : x157005_2.length < 1759218604441
        rotate_left
        ·
         rw [if_neg c23] at H
         exact absurd H (by simp)
        rw [if_pos c23] at H
        have LMc23 := Aside0.mk c23
        clear c23
        obtain ⟨y164, hy164⟩ : ∃ y_ : List (S79), y_ = (x157005_2 ++ [(⟨rdOf ByteArray.empty l1 x43_2, rdOf false l2 x43_2, t161, ([] : List (S101)), (rd_T31 l0 x43_2).f0⟩ : S79)]) := ⟨_, rfl⟩
        replace H : (if rdOf false l2 x43_2 = true then ((sum_Pointer.f).bind fun bt168 => (if x10_2.length < 977343669134 then (sum_Lay.l0 k2 l1 l2 (x10_2 ++ [(⟨bt168.1, bt168.2.1, bt168.2.2.1, bt168.2.2.2.1, bt168.2.2.2.2.1, bt168.2.2.2.2.2.1, bt168.2.2.2.2.2.2.1, bt168.2.2.2.2.2.2.2⟩ : S31)]) l0 (l0.length : Int) (wrap64 (x43_2 + 1)) (mx x157000_2 bt168.1) (mx x157001_2 bt168.2.1) y164 false) else (none))) else (if x10_2.length < 977343669134 then (sum_Lay.l0 k2 l1 l2 (x10_2 ++ [(⟨(rd_T31 l0 x43_2).f0, (rd_T31 l0 x43_2).f1, (rd_T31 l0 x43_2).f2, (rd_T31 l0 x43_2).f3, (rd_T31 l0 x43_2).f4, (rd_T31 l0 x43_2).f5, (rd_T31 l0 x43_2).f6, (rd_T31 l0 x43_2).f7⟩ : S31)]) l0 (l0.length : Int) (wrap64 (x43_2 + 1)) (mx x157000_2 ((rd_T31 l0 x43_2).f0)) (mx x157001_2 ((rd_T31 l0 x43_2).f1)) y164 false) else (none))) = some (r1, r2, r3, r4, r5, r6, r7, r8, r9) := by first | (rw [hy164]; with_reducible exact H) | (have H2_ := (Option.bind_some _ _).symm.trans H; rw [hy164]; with_reducible exact H2_) | (have H2_ := (Option.bind_some _ _).symm.trans H; with_reducible exact H2_) | with_reducible exact H | (rw [hy164]; exact H) | exact H
        have Ny164 := Aside0.mk hy164
        clear hy164
        obtain ⟨bq24, hbq24⟩ : ∃ b_ : Bool, b_ = (rdOf false l2 x43_2) := ⟨_, rfl⟩
        replace H : (if bq24 = true then ((sum_Pointer.f).bind fun bt168 => (if x10_2.length < 977343669134 then (sum_Lay.l0 k2 l1 l2 (x10_2 ++ [(⟨bt168.1, bt168.2.1, bt168.2.2.1, bt168.2.2.2.1, bt168.2.2.2.2.1, bt168.2.2.2.2.2.1, bt168.2.2.2.2.2.2.1, bt168.2.2.2.2.2.2.2⟩ : S31)]) l0 (l0.length : Int) (wrap64 (x43_2 + 1)) (mx x157000_2 bt168.1) (mx x157001_2 bt168.2.1) y164 false) else (none))) else (if x10_2.length < 977343669134 then (sum_Lay.l0 k2 l1 l2 (x10_2 ++ [(⟨(rd_T31 l0 x43_2).f0, (rd_T31 l0 x43_2).f1, (rd_T31 l0 x43_2).f2, (rd_T31 l0 x43_2).f3, (rd_T31 l0 x43_2).f4, (rd_T31 l0 x43_2).f5, (rd_T31 l0 x43_2).f6, (rd_T31 l0 x43_2).f7⟩ : S31)]) l0 (l0.length : Int) (wrap64 (x43_2 + 1)) (mx x157000_2 ((rd_T31 l0 x43_2).f0)) (mx x157001_2 ((rd_T31 l0 x43_2).f1)) y164 false) else (none))) = some (r1, r2, r3, r4, r5, r6, r7, r8, r9) := by rw [← hbq24] at H; exact H
        have Nbq24 := Aside0.mk hbq24
        clear hbq24
        (try rw [← Nbq24.out] at Ny164)
        have p157 : 0 ≤ (x43_2 : Int) := od_
        have q157 : x43_2 < (l0.length : Int) := od_
        obtain ⟨ad157, A157_2, c157_2, A157_3, c157_3, A157_4, c157_4, A157_5, c157_5, A157_6, c157_6, e157, hx157_0, hx157_1, hx157_2, hx157_3, hx157_4, hx157_5, hx157_6, hx157_7, hl157_2, hi157_2, hl157_3, hi157_3, hl157_4, hi157_4, hl157_5, hi157_5, hl157_6, hi157_6⟩ := at_T31 (Kd.V_reads' HO_41.out).2.2 x43_2 p157 q157
        (try rw [← Nbq24.out] at hx157_7)
        cases e157
        obtain ⟨ce157, hce157, hMe157, hcc157⟩ := Kd.V_get HO_41.out z31 x43_2 p157 (by first | exact q157 | exact od_ | (have e_ := (Kd.V_reads' HO_41.out).1; omega))
        obtain ⟨ua157_2, uc157_2, ua157_3, uc157_3, ua157_4, uc157_4, ua157_5, uc157_5, ua157_6, uc157_6, rfl, ul157_2, ge157_2, ul157_3, ge157_3, ul157_4, ge157_4, ul157_5, ge157_5, ul157_6, ge157_6⟩ := k31_openF hMe157
        have hv157_2 := hcc157 2 _ rfl
        rw [add_field _ _ 2 (by omega)] at hv157_2
        replace hv157_2 := Option.some.inj (hv157_2.symm.trans hx157_2)
        injection hv157_2 with hva_ hvn_ hvc_
        rw [hva_] at ge157_2
        rw [hvc_] at ul157_2
        have HL157_2 := Aside0.mk (show Kd.V (Kd.int .u8) 5 _ w.heap.size _ _ ((rd_T31 l0 x43_2).f2) from Kd.V_mk ul157_2 ge157_2)
        clear hva_ hvn_ hvc_ ge157_2 ul157_2
        have hv157_3 := hcc157 3 _ rfl
        rw [add_field _ _ 3 (by omega)] at hv157_3
        replace hv157_3 := Option.some.inj (hv157_3.symm.trans hx157_3)
        injection hv157_3 with hva_ hvn_ hvc_
        rw [hva_] at ge157_3
        rw [hvc_] at ul157_3
        have HL157_3 := Aside0.mk (show Kd.V (Kd.int .i64) 3 _ w.heap.size _ _ ((rd_T31 l0 x43_2).f3) from Kd.V_mk ul157_3 ge157_3)
        clear hva_ hvn_ hvc_ ge157_3 ul157_3
        have hv157_4 := hcc157 4 _ rfl
        rw [add_field _ _ 4 (by omega)] at hv157_4
        replace hv157_4 := Option.some.inj (hv157_4.symm.trans hx157_4)
        injection hv157_4 with hva_ hvn_ hvc_
        rw [hva_] at ge157_4
        rw [hvc_] at ul157_4
        have HL157_4 := Aside0.mk (show Kd.V k101 101 _ w.heap.size _ _ ((rd_T31 l0 x43_2).f4) from Kd.V_mk ul157_4 ge157_4)
        clear hva_ hvn_ hvc_ ge157_4 ul157_4
        have hv157_5 := hcc157 5 _ rfl
        rw [add_field _ _ 5 (by omega)] at hv157_5
        replace hv157_5 := Option.some.inj (hv157_5.symm.trans hx157_5)
        injection hv157_5 with hva_ hvn_ hvc_
        rw [hva_] at ge157_5
        rw [hvc_] at ul157_5
        have HL157_5 := Aside0.mk (show Kd.V k79 79 _ w.heap.size _ _ ((rd_T31 l0 x43_2).f5) from Kd.V_mk ul157_5 ge157_5)
        clear hva_ hvn_ hvc_ ge157_5 ul157_5
        have hv157_6 := hcc157 6 _ rfl
        rw [add_field _ _ 6 (by omega)] at hv157_6
        replace hv157_6 := Option.some.inj (hv157_6.symm.trans hx157_6)
        injection hv157_6 with hva_ hvn_ hvc_
        rw [hva_] at ge157_6
        rw [hvc_] at ul157_6
        have HL157_6 := Aside0.mk (show Kd.V (Kd.int .i64) 3 _ w.heap.size _ _ ((rd_T31 l0 x43_2).f6) from Kd.V_mk ul157_6 ge157_6)
        clear hva_ hvn_ hvc_ ge157_6 ul157_6
        clear hcc157 hce157
        have HR157_2 := Aside0.mk hi157_2
        have HC157_2 := Aside0.mk hl157_2
        clear hi157_2 hl157_2
        have HR157_3 := Aside0.mk hi157_3
        have HC157_3 := Aside0.mk hl157_3
        clear hi157_3 hl157_3
        have HR157_4 := Aside0.mk hi157_4
        have HC157_4 := Aside0.mk hl157_4
        clear hi157_4 hl157_4
        have HR157_5 := Aside0.mk hi157_5
        have HC157_5 := Aside0.mk hl157_5
        clear hi157_5 hl157_5
        have HR157_6 := Aside0.mk hi157_6
        have HC157_6 := Aside0.mk hl157_6
        clear hi157_6 hl157_6
        replace p157 := eq_true p157
        replace q157 := eq_true q157
        try go_wp2_with (first | ((with_reducible refine gate_dst (N := 12) rfl ?_); (try (refine gate_guard (by rfl) ?_; dsimp only)); refine box_event ?hg (N := 12) ?hd (cs := #[.int .i64 0, .int .i64 0, .slice none 0 0, .slice none 0 0, .slice none 0 0, .slice none 0 0, .slice none 0 0, .bool false]) (t := 31) ?hr ?_; (case hd => rfl); (case hg => rfl); (case hr => first | (go_simp; done) | (go_simp; rfl)); intro gb158 hg w30 hbox hb; have n0_ := Aside0.mk (Kd.N_below (Kd.N_elderB (kN_ HO_10.out) gb158 (Nat.le_of_eq hg.symm)) hb); have n1_ := Aside0.mk (Kd.V_below (Kd.V_elderB (kV_ HO_41.out) gb158 (Nat.le_of_eq hg.symm)) hb); have n2_ := Aside0.mk (Kd.N_below (Kd.N_elderB (kN_ HO_157005.out) gb158 (Nat.le_of_eq hg.symm)) hb); have n3_ := Aside0.mk (Kd.V_below (Kd.V_elderB (kV_ HL157_2.out) gb158 (Nat.le_of_eq hg.symm)) hb); have n4_ := Aside0.mk (Kd.V_below (Kd.V_elderB (kV_ HL157_3.out) gb158 (Nat.le_of_eq hg.symm)) hb); have n5_ := Aside0.mk (Kd.V_below (Kd.V_elderB (kV_ HL157_4.out) gb158 (Nat.le_of_eq hg.symm)) hb); have n6_ := Aside0.mk (Kd.V_below (Kd.V_elderB (kV_ HL157_5.out) gb158 (Nat.le_of_eq hg.symm)) hb); have n7_ := Aside0.mk (Kd.V_below (Kd.V_elderB (kV_ HL157_6.out) gb158 (Nat.le_of_eq hg.symm)) hb); have n8_ := Aside0.mk (blk_below (g := gb154) (o := .cells #[.int .i64 0, .int .i64 0, .slice none 0 0, .slice none 0 0, .slice none 0 0, .slice none 0 0, .slice none 0 0, .bool false] 31 (0, 0)) (bk_ BK154.out) hb); have n9_ := Aside0.mk (blk_below (g := gb156) (o := .cells #[.int .i64 x157000_2, .int .i64 x157001_2, .slice none 0 0, .slice none 0 0, .slice none 0 0, u157005, .slice none 0 0, .bool false] 31 (0, 0)) (bk_ BK156.out) hb); have n10_ := Aside0.mk (Kd.C_below (kC_ HR157_2.out) hb); have n11_ := Aside0.mk (Kd.C_below (kC_ HR157_3.out) hb); have n12_ := Aside0.mk (Kd.C_below (kC_ HR157_4.out) hb); have n13_ := Aside0.mk (Kd.C_below (kC_ HR157_5.out) hb); have n14_ := Aside0.mk (Kd.C_below (kC_ HR157_6.out) hb); have n15_ := Aside0.mk (below_step (hb2_ HB.out GE154.out GE156.out) hb); have n16_ := Aside0.mk (hbox); have n17_ := Aside0.mk ((by rw [hg]; exact (below_size (hb2_ HB.out GE154.out GE156.out)) : w.heap.size ≤ gb158)); have n18_ := Aside0.mk ((by rw [hg]; exact (below_size (hb2_ HB.out GE154.out GE156.out)) : w.heap.size ≤ gb158)); have n19_ := Aside0.mk ((by rw [hg]; exact Nat.ne_of_lt (blk_lt (g := gb154) (o := .cells #[.int .i64 0, .int .i64 0, .slice none 0 0, .slice none 0 0, .slice none 0 0, .slice none 0 0, .slice none 0 0, .bool false] 31 (0, 0)) (bk_ BK154.out)) : gb154 ≠ gb158)); have n20_ := Aside0.mk ((by rw [hg]; exact Nat.ne_of_gt (blk_lt (g := gb154) (o := .cells #[.int .i64 0, .int .i64 0, .slice none 0 0, .slice none 0 0, .slice none 0 0, .slice none 0 0, .slice none 0 0, .bool false] 31 (0, 0)) (bk_ BK154.out)) : gb158 ≠ gb154)); have n21_ := Aside0.mk ((by rw [hg]; exact Nat.ne_of_lt (blk_lt (g := gb156) (o := .cells #[.int .i64 x157000_2, .int .i64 x157001_2, .slice none 0 0, .slice none 0 0, .slice none 0 0, u157005, .slice none 0 0, .bool false] 31 (0, 0)) (bk_ BK156.out)) : gb156 ≠ gb158)); have n22_ := Aside0.mk ((by rw [hg]; exact Nat.ne_of_gt (blk_lt (g := gb156) (o := .cells #[.int .i64 x157000_2, .int .i64 x157001_2, .slice none 0 0, .slice none 0 0, .slice none 0 0, u157005, .slice none 0 0, .bool false] 31 (0, 0)) (bk_ BK156.out)) : gb158 ≠ gb156)); clear HO_10 HO_41 HO_157005 HL157_2 HL157_3 HL157_4 HL157_5 HL157_6 BK154 BK156 HR157_2 HR157_3 HR157_4 HR157_5 HR157_6 HB; revert n0_ n1_ n2_ n3_ n4_ n5_ n6_ n7_ n8_ n9_ n10_ n11_ n12_ n13_ n14_ n15_ n16_ n17_ n18_ n19_ n20_ n21_ n22_; intro HO_10 HO_41 HO_157005 HL157_2 HL157_3 HL157_4 HL157_5 HL157_6 BK154 BK156 HR157_2 HR157_3 HR157_4 HR157_5 HR157_6 HB BK158 GW158 GE158 NB154_158 NB158_154 NB156_158 NB158_156; clear hb hbox hg; have hnb31 := NB158_154.out; have hnc31 := NB154_158.out; have hnb32 := NB158_156.out; have hnc32 := NB156_158.out; obtain ⟨hcz33_0, hcz33_1, hcz33_2, hcz33_3, hcz33_4, hcz33_5, hcz33_6, hcz33_7, hfz33_0, hfz33_1, hfz33_2, hfz33_3, hfz33_4, hfz33_5, hfz33_6, hfz33_7⟩ := bx8_ BK158.out))
        obtain ⟨w34, hW_⟩ : ∃ w_ : World, ((((((((w30.setCell ⟨gb158, 0, none⟩ (.int .i64 ((rd_T31 l0 x43_2).f0))).setCell ⟨gb158, 1, none⟩ (.int .i64 ((rd_T31 l0 x43_2).f1))).setCell ⟨gb158, 2, none⟩ (.slice A157_2 ((rd_T31 l0 x43_2).f2).length c157_2)).setCell ⟨gb158, 3, none⟩ (.slice A157_3 ((rd_T31 l0 x43_2).f3).length c157_3)).setCell ⟨gb158, 4, none⟩ (.slice A157_4 ((rd_T31 l0 x43_2).f4).length c157_4)).setCell ⟨gb158, 5, none⟩ (.slice A157_5 ((rd_T31 l0 x43_2).f5).length c157_5)).setCell ⟨gb158, 6, none⟩ (.slice A157_6 ((rd_T31 l0 x43_2).f6).length c157_6)).setCell ⟨gb158, 7, none⟩ (.bool ((rd_T31 l0 x43_2).f7))) = w_ := ⟨_, rfl⟩
        have n0_ : Aside0 (Kd.N k31 31 w34 w.heap.size (fun k_ => (P0_ k_ ∨ w.heap.size ≤ k_) ∧ some k_ ≠ (u157005 : Value).ownBlock ∧ k_ ≠ gb154 ∧ k_ ≠ gb156 ∧ k_ ≠ gb158) u10 x10_2) := ⟨by rw [← hW_]; exact by (with_reducible repeat (first | apply Kd.N_alloc | apply Kd.N_drewN | apply Kd.N_drew)); exact Kd.N_mono (Kd.N_far (p := ⟨gb158, 7, none⟩) (Kd.N_far (p := ⟨gb158, 6, none⟩) (Kd.N_far (p := ⟨gb158, 5, none⟩) (Kd.N_far (p := ⟨gb158, 4, none⟩) (Kd.N_far (p := ⟨gb158, 3, none⟩) (Kd.N_far (p := ⟨gb158, 2, none⟩) (Kd.N_far (p := ⟨gb158, 1, none⟩) (Kd.N_far (p := ⟨gb158, 0, none⟩) (Kd.N_mono HO_10.out (fun k_ hk => (⟨hk, hk.2⟩ : _ ∧ k_ ≠ gb158))) (fun _ hk => hk.2) (.int .i64 ((rd_T31 l0 x43_2).f0))) (fun _ hk => hk.2) (.int .i64 ((rd_T31 l0 x43_2).f1))) (fun _ hk => hk.2) (.slice A157_2 ((rd_T31 l0 x43_2).f2).length c157_2)) (fun _ hk => hk.2) (.slice A157_3 ((rd_T31 l0 x43_2).f3).length c157_3)) (fun _ hk => hk.2) (.slice A157_4 ((rd_T31 l0 x43_2).f4).length c157_4)) (fun _ hk => hk.2) (.slice A157_5 ((rd_T31 l0 x43_2).f5).length c157_5)) (fun _ hk => hk.2) (.slice A157_6 ((rd_T31 l0 x43_2).f6).length c157_6)) (fun _ hk => hk.2) (.bool ((rd_T31 l0 x43_2).f7))) (fun _ hk => ⟨hk.1.1.1, ⟨hk.1.1.2.1, ⟨hk.1.1.2.2.1, ⟨hk.1.1.2.2.2, hk.1.2⟩⟩⟩⟩)⟩
        have n1_ : Aside0 (Kd.V k31 31 w34 w.heap.size (fun k_ => (P0_ k_ ∨ w.heap.size ≤ k_) ∧ some k_ ≠ (u10 : Value).ownBlock ∧ some k_ ≠ (u157005 : Value).ownBlock ∧ k_ ≠ gb154 ∧ k_ ≠ gb156 ∧ k_ ≠ gb158) (.slice (some ad157) l0.length c0) l0) := ⟨by rw [← hW_]; exact by (with_reducible repeat (first | apply Kd.V_alloc | apply Kd.V_drewN | apply Kd.V_drew)); exact Kd.V_mono (Kd.V_far (p := ⟨gb158, 7, none⟩) (Kd.V_far (p := ⟨gb158, 6, none⟩) (Kd.V_far (p := ⟨gb158, 5, none⟩) (Kd.V_far (p := ⟨gb158, 4, none⟩) (Kd.V_far (p := ⟨gb158, 3, none⟩) (Kd.V_far (p := ⟨gb158, 2, none⟩) (Kd.V_far (p := ⟨gb158, 1, none⟩) (Kd.V_far (p := ⟨gb158, 0, none⟩) (Kd.V_mono HO_41.out (fun k_ hk => (⟨hk, hk.2⟩ : _ ∧ k_ ≠ gb158))) (fun _ hk => hk.2) (.int .i64 ((rd_T31 l0 x43_2).f0))) (fun _ hk => hk.2) (.int .i64 ((rd_T31 l0 x43_2).f1))) (fun _ hk => hk.2) (.slice A157_2 ((rd_T31 l0 x43_2).f2).length c157_2)) (fun _ hk => hk.2) (.slice A157_3 ((rd_T31 l0 x43_2).f3).length c157_3)) (fun _ hk => hk.2) (.slice A157_4 ((rd_T31 l0 x43_2).f4).length c157_4)) (fun _ hk => hk.2) (.slice A157_5 ((rd_T31 l0 x43_2).f5).length c157_5)) (fun _ hk => hk.2) (.slice A157_6 ((rd_T31 l0 x43_2).f6).length c157_6)) (fun _ hk => hk.2) (.bool ((rd_T31 l0 x43_2).f7))) (fun _ hk => ⟨hk.1.1.1, ⟨hk.1.1.2.1, ⟨hk.1.1.2.2.1, ⟨hk.1.1.2.2.2.1, ⟨hk.1.1.2.2.2.2, hk.1.2⟩⟩⟩⟩⟩)⟩
        have n2_ : Aside0 (Kd.N k79 79 w34 w.heap.size (fun k_ => (P0_ k_ ∨ w.heap.size ≤ k_) ∧ some k_ ≠ (u10 : Value).ownBlock ∧ k_ ≠ gb154 ∧ k_ ≠ gb156 ∧ k_ ≠ gb158) u157005 x157005_2) := ⟨by rw [← hW_]; exact by (with_reducible repeat (first | apply Kd.N_alloc | apply Kd.N_drewN | apply Kd.N_drew)); exact Kd.N_mono (Kd.N_far (p := ⟨gb158, 7, none⟩) (Kd.N_far (p := ⟨gb158, 6, none⟩) (Kd.N_far (p := ⟨gb158, 5, none⟩) (Kd.N_far (p := ⟨gb158, 4, none⟩) (Kd.N_far (p := ⟨gb158, 3, none⟩) (Kd.N_far (p := ⟨gb158, 2, none⟩) (Kd.N_far (p := ⟨gb158, 1, none⟩) (Kd.N_far (p := ⟨gb158, 0, none⟩) (Kd.N_mono HO_157005.out (fun k_ hk => (⟨hk, hk.2⟩ : _ ∧ k_ ≠ gb158))) (fun _ hk => hk.2) (.int .i64 ((rd_T31 l0 x43_2).f0))) (fun _ hk => hk.2) (.int .i64 ((rd_T31 l0 x43_2).f1))) (fun _ hk => hk.2) (.slice A157_2 ((rd_T31 l0 x43_2).f2).length c157_2)) (fun _ hk => hk.2) (.slice A157_3 ((rd_T31 l0 x43_2).f3).length c157_3)) (fun _ hk => hk.2) (.slice A157_4 ((rd_T31 l0 x43_2).f4).length c157_4)) (fun _ hk => hk.2) (.slice A157_5 ((rd_T31 l0 x43_2).f5).length c157_5)) (fun _ hk => hk.2) (.slice A157_6 ((rd_T31 l0 x43_2).f6).length c157_6)) (fun _ hk => hk.2) (.bool ((rd_T31 l0 x43_2).f7))) (fun _ hk => ⟨hk.1.1.1, ⟨hk.1.1.2.1, ⟨hk.1.1.2.2.1, ⟨hk.1.1.2.2.2, hk.1.2⟩⟩⟩⟩)⟩
        have n3_ : Aside0 (Kd.V (Kd.int .u8) 5 w34 w.heap.size (fun k_ => (P0_ k_ ∨ w.heap.size ≤ k_) ∧ some k_ ≠ (u10 : Value).ownBlock ∧ some k_ ≠ (u157005 : Value).ownBlock ∧ k_ ≠ gb154 ∧ k_ ≠ gb156 ∧ k_ ≠ gb158) (.slice A157_2 ((rd_T31 l0 x43_2).f2).length c157_2) ((rd_T31 l0 x43_2).f2)) := ⟨by rw [← hW_]; exact by (with_reducible repeat (first | apply Kd.V_alloc | apply Kd.V_drewN | apply Kd.V_drew)); exact Kd.V_mono (Kd.V_far (p := ⟨gb158, 7, none⟩) (Kd.V_far (p := ⟨gb158, 6, none⟩) (Kd.V_far (p := ⟨gb158, 5, none⟩) (Kd.V_far (p := ⟨gb158, 4, none⟩) (Kd.V_far (p := ⟨gb158, 3, none⟩) (Kd.V_far (p := ⟨gb158, 2, none⟩) (Kd.V_far (p := ⟨gb158, 1, none⟩) (Kd.V_far (p := ⟨gb158, 0, none⟩) (Kd.V_mono HL157_2.out (fun k_ hk => (⟨hk, hk.2⟩ : _ ∧ k_ ≠ gb158))) (fun _ hk => hk.2) (.int .i64 ((rd_T31 l0 x43_2).f0))) (fun _ hk => hk.2) (.int .i64 ((rd_T31 l0 x43_2).f1))) (fun _ hk => hk.2) (.slice A157_2 ((rd_T31 l0 x43_2).f2).length c157_2)) (fun _ hk => hk.2) (.slice A157_3 ((rd_T31 l0 x43_2).f3).length c157_3)) (fun _ hk => hk.2) (.slice A157_4 ((rd_T31 l0 x43_2).f4).length c157_4)) (fun _ hk => hk.2) (.slice A157_5 ((rd_T31 l0 x43_2).f5).length c157_5)) (fun _ hk => hk.2) (.slice A157_6 ((rd_T31 l0 x43_2).f6).length c157_6)) (fun _ hk => hk.2) (.bool ((rd_T31 l0 x43_2).f7))) (fun _ hk => ⟨hk.1.1.1, ⟨hk.1.1.2.1, ⟨hk.1.1.2.2.1, ⟨hk.1.1.2.2.2.1, ⟨hk.1.1.2.2.2.2, hk.1.2⟩⟩⟩⟩⟩)⟩
        have n4_ : Aside0 (Kd.V (Kd.int .i64) 3 w34 w.heap.size (fun k_ => (P0_ k_ ∨ w.heap.size ≤ k_) ∧ some k_ ≠ (u10 : Value).ownBlock ∧ some k_ ≠ (u157005 : Value).ownBlock ∧ k_ ≠ gb154 ∧ k_ ≠ gb156 ∧ k_ ≠ gb158) (.slice A157_3 ((rd_T31 l0 x43_2).f3).length c157_3) ((rd_T31 l0 x43_2).f3)) := ⟨by rw [← hW_]; exact by (with_reducible repeat (first | apply Kd.V_alloc | apply Kd.V_drewN | apply Kd.V_drew)); exact Kd.V_mono (Kd.V_far (p := ⟨gb158, 7, none⟩) (Kd.V_far (p := ⟨gb158, 6, none⟩) (Kd.V_far (p := ⟨gb158, 5, none⟩) (Kd.V_far (p := ⟨gb158, 4, none⟩) (Kd.V_far (p := ⟨gb158, 3, none⟩) (Kd.V_far (p := ⟨gb158, 2, none⟩) (Kd.V_far (p := ⟨gb158, 1, none⟩) (Kd.V_far (p := ⟨gb158, 0, none⟩) (Kd.V_mono HL157_3.out (fun k_ hk => (⟨hk, hk.2⟩ : _ ∧ k_ ≠ gb158))) (fun _ hk => hk.2) (.int .i64 ((rd_T31 l0 x43_2).f0))) (fun _ hk => hk.2) (.int .i64 ((rd_T31 l0 x43_2).f1))) (fun _ hk => hk.2) (.slice A157_2 ((rd_T31 l0 x43_2).f2).length c157_2)) (fun _ hk => hk.2) (.slice A157_3 ((rd_T31 l0 x43_2).f3).length c157_3)) (fun _ hk => hk.2) (.slice A157_4 ((rd_T31 l0 x43_2).f4).length c157_4)) (fun _ hk => hk.2) (.slice A157_5 ((rd_T31 l0 x43_2).f5).length c157_5)) (fun _ hk => hk.2) (.slice A157_6 ((rd_T31 l0 x43_2).f6).length c157_6)) (fun _ hk => hk.2) (.bool ((rd_T31 l0 x43_2).f7))) (fun _ hk => ⟨hk.1.1.1, ⟨hk.1.1.2.1, ⟨hk.1.1.2.2.1, ⟨hk.1.1.2.2.2.1, ⟨hk.1.1.2.2.2.2, hk.1.2⟩⟩⟩⟩⟩)⟩
        have n5_ : Aside0 (Kd.V k101 101 w34 w.heap.size (fun k_ => (P0_ k_ ∨ w.heap.size ≤ k_) ∧ some k_ ≠ (u10 : Value).ownBlock ∧ some k_ ≠ (u157005 : Value).ownBlock ∧ k_ ≠ gb154 ∧ k_ ≠ gb156 ∧ k_ ≠ gb158) (.slice A157_4 ((rd_T31 l0 x43_2).f4).length c157_4) ((rd_T31 l0 x43_2).f4)) := ⟨by rw [← hW_]; exact by (with_reducible repeat (first | apply Kd.V_alloc | apply Kd.V_drewN | apply Kd.V_drew)); exact Kd.V_mono (Kd.V_far (p := ⟨gb158, 7, none⟩) (Kd.V_far (p := ⟨gb158, 6, none⟩) (Kd.V_far (p := ⟨gb158, 5, none⟩) (Kd.V_far (p := ⟨gb158, 4, none⟩) (Kd.V_far (p := ⟨gb158, 3, none⟩) (Kd.V_far (p := ⟨gb158, 2, none⟩) (Kd.V_far (p := ⟨gb158, 1, none⟩) (Kd.V_far (p := ⟨gb158, 0, none⟩) (Kd.V_mono HL157_4.out (fun k_ hk => (⟨hk, hk.2⟩ : _ ∧ k_ ≠ gb158))) (fun _ hk => hk.2) (.int .i64 ((rd_T31 l0 x43_2).f0))) (fun _ hk => hk.2) (.int .i64 ((rd_T31 l0 x43_2).f1))) (fun _ hk => hk.2) (.slice A157_2 ((rd_T31 l0 x43_2).f2).length c157_2)) (fun _ hk => hk.2) (.slice A157_3 ((rd_T31 l0 x43_2).f3).length c157_3)) (fun _ hk => hk.2) (.slice A157_4 ((rd_T31 l0 x43_2).f4).length c157_4)) (fun _ hk => hk.2) (.slice A157_5 ((rd_T31 l0 x43_2).f5).length c157_5)) (fun _ hk => hk.2) (.slice A157_6 ((rd_T31 l0 x43_2).f6).length c157_6)) (fun _ hk => hk.2) (.bool ((rd_T31 l0 x43_2).f7))) (fun _ hk => ⟨hk.1.1.1, ⟨hk.1.1.2.1, ⟨hk.1.1.2.2.1, ⟨hk.1.1.2.2.2.1, ⟨hk.1.1.2.2.2.2, hk.1.2⟩⟩⟩⟩⟩)⟩
        have n6_ : Aside0 (Kd.V k79 79 w34 w.heap.size (fun k_ => (P0_ k_ ∨ w.heap.size ≤ k_) ∧ some k_ ≠ (u10 : Value).ownBlock ∧ some k_ ≠ (u157005 : Value).ownBlock ∧ k_ ≠ gb154 ∧ k_ ≠ gb156 ∧ k_ ≠ gb158) (.slice A157_5 ((rd_T31 l0 x43_2).f5).length c157_5) ((rd_T31 l0 x43_2).f5)) := ⟨by rw [← hW_]; exact by (with_reducible repeat (first | apply Kd.V_alloc | apply Kd.V_drewN | apply Kd.V_drew)); exact Kd.V_mono (Kd.V_far (p := ⟨gb158, 7, none⟩) (Kd.V_far (p := ⟨gb158, 6, none⟩) (Kd.V_far (p := ⟨gb158, 5, none⟩) (Kd.V_far (p := ⟨gb158, 4, none⟩) (Kd.V_far (p := ⟨gb158, 3, none⟩) (Kd.V_far (p := ⟨gb158, 2, none⟩) (Kd.V_far (p := ⟨gb158, 1, none⟩) (Kd.V_far (p := ⟨gb158, 0, none⟩) (Kd.V_mono HL157_5.out (fun k_ hk => (⟨hk, hk.2⟩ : _ ∧ k_ ≠ gb158))) (fun _ hk => hk.2) (.int .i64 ((rd_T31 l0 x43_2).f0))) (fun _ hk => hk.2) (.int .i64 ((rd_T31 l0 x43_2).f1))) (fun _ hk => hk.2) (.slice A157_2 ((rd_T31 l0 x43_2).f2).length c157_2)) (fun _ hk => hk.2) (.slice A157_3 ((rd_T31 l0 x43_2).f3).length c157_3)) (fun _ hk => hk.2) (.slice A157_4 ((rd_T31 l0 x43_2).f4).length c157_4)) (fun _ hk => hk.2) (.slice A157_5 ((rd_T31 l0 x43_2).f5).length c157_5)) (fun _ hk => hk.2) (.slice A157_6 ((rd_T31 l0 x43_2).f6).length c157_6)) (fun _ hk => hk.2) (.bool ((rd_T31 l0 x43_2).f7))) (fun _ hk => ⟨hk.1.1.1, ⟨hk.1.1.2.1, ⟨hk.1.1.2.2.1, ⟨hk.1.1.2.2.2.1, ⟨hk.1.1.2.2.2.2, hk.1.2⟩⟩⟩⟩⟩)⟩
        have n7_ : Aside0 (Kd.V (Kd.int .i64) 3 w34 w.heap.size (fun k_ => (P0_ k_ ∨ w.heap.size ≤ k_) ∧ some k_ ≠ (u10 : Value).ownBlock ∧ some k_ ≠ (u157005 : Value).ownBlock ∧ k_ ≠ gb154 ∧ k_ ≠ gb156 ∧ k_ ≠ gb158) (.slice A157_6 ((rd_T31 l0 x43_2).f6).length c157_6) ((rd_T31 l0 x43_2).f6)) := ⟨by rw [← hW_]; exact by (with_reducible repeat (first | apply Kd.V_alloc | apply Kd.V_drewN | apply Kd.V_drew)); exact Kd.V_mono (Kd.V_far (p := ⟨gb158, 7, none⟩) (Kd.V_far (p := ⟨gb158, 6, none⟩) (Kd.V_far (p := ⟨gb158, 5, none⟩) (Kd.V_far (p := ⟨gb158, 4, none⟩) (Kd.V_far (p := ⟨gb158, 3, none⟩) (Kd.V_far (p := ⟨gb158, 2, none⟩) (Kd.V_far (p := ⟨gb158, 1, none⟩) (Kd.V_far (p := ⟨gb158, 0, none⟩) (Kd.V_mono HL157_6.out (fun k_ hk => (⟨hk, hk.2⟩ : _ ∧ k_ ≠ gb158))) (fun _ hk => hk.2) (.int .i64 ((rd_T31 l0 x43_2).f0))) (fun _ hk => hk.2) (.int .i64 ((rd_T31 l0 x43_2).f1))) (fun _ hk => hk.2) (.slice A157_2 ((rd_T31 l0 x43_2).f2).length c157_2)) (fun _ hk => hk.2) (.slice A157_3 ((rd_T31 l0 x43_2).f3).length c157_3)) (fun _ hk => hk.2) (.slice A157_4 ((rd_T31 l0 x43_2).f4).length c157_4)) (fun _ hk => hk.2) (.slice A157_5 ((rd_T31 l0 x43_2).f5).length c157_5)) (fun _ hk => hk.2) (.slice A157_6 ((rd_T31 l0 x43_2).f6).length c157_6)) (fun _ hk => hk.2) (.bool ((rd_T31 l0 x43_2).f7))) (fun _ hk => ⟨hk.1.1.1, ⟨hk.1.1.2.1, ⟨hk.1.1.2.2.1, ⟨hk.1.1.2.2.2.1, ⟨hk.1.1.2.2.2.2, hk.1.2⟩⟩⟩⟩⟩)⟩
        have n8_ : Aside0 (w34.heap[gb154]? = some (.cells #[.int .i64 0, .int .i64 0, .slice none 0 0, .slice none 0 0, .slice none 0 0, .slice none 0 0, .slice none 0 0, .bool false] 31 (0, 0))) := ⟨by rw [← hW_]; exact by (with_reducible repeat (first | refine blk_drewN ?_ _ | refine blk_drew ?_ | refine blk_alloc ?_ _)); refine blk_far ?_ NB154_158.out _; (with_reducible repeat (first | refine blk_drewN ?_ _ | refine blk_drew ?_ | refine blk_alloc ?_ _)); refine blk_far ?_ NB154_158.out _; (with_reducible repeat (first | refine blk_drewN ?_ _ | refine blk_drew ?_ | refine blk_alloc ?_ _)); refine blk_far ?_ NB154_158.out _; (with_reducible repeat (first | refine blk_drewN ?_ _ | refine blk_drew ?_ | refine blk_alloc ?_ _)); refine blk_far ?_ NB154_158.out _; (with_reducible repeat (first | refine blk_drewN ?_ _ | refine blk_drew ?_ | refine blk_alloc ?_ _)); refine blk_far ?_ NB154_158.out _; (with_reducible repeat (first | refine blk_drewN ?_ _ | refine blk_drew ?_ | refine blk_alloc ?_ _)); refine blk_far ?_ NB154_158.out _; (with_reducible repeat (first | refine blk_drewN ?_ _ | refine blk_drew ?_ | refine blk_alloc ?_ _)); refine blk_far ?_ NB154_158.out _; (with_reducible repeat (first | refine blk_drewN ?_ _ | refine blk_drew ?_ | refine blk_alloc ?_ _)); refine blk_far ?_ NB154_158.out _; (with_reducible repeat (first | refine blk_drewN ?_ _ | refine blk_drew ?_ | refine blk_alloc ?_ _)); exact BK154.out⟩
        have n9_ : Aside0 (w34.heap[gb156]? = some (.cells #[.int .i64 x157000_2, .int .i64 x157001_2, .slice none 0 0, .slice none 0 0, .slice none 0 0, u157005, .slice none 0 0, .bool false] 31 (0, 0))) := ⟨by rw [← hW_]; exact by (with_reducible repeat (first | refine blk_drewN ?_ _ | refine blk_drew ?_ | refine blk_alloc ?_ _)); refine blk_far ?_ NB156_158.out _; (with_reducible repeat (first | refine blk_drewN ?_ _ | refine blk_drew ?_ | refine blk_alloc ?_ _)); refine blk_far ?_ NB156_158.out _; (with_reducible repeat (first | refine blk_drewN ?_ _ | refine blk_drew ?_ | refine blk_alloc ?_ _)); refine blk_far ?_ NB156_158.out _; (with_reducible repeat (first | refine blk_drewN ?_ _ | refine blk_drew ?_ | refine blk_alloc ?_ _)); refine blk_far ?_ NB156_158.out _; (with_reducible repeat (first | refine blk_drewN ?_ _ | refine blk_drew ?_ | refine blk_alloc ?_ _)); refine blk_far ?_ NB156_158.out _; (with_reducible repeat (first | refine blk_drewN ?_ _ | refine blk_drew ?_ | refine blk_alloc ?_ _)); refine blk_far ?_ NB156_158.out _; (with_reducible repeat (first | refine blk_drewN ?_ _ | refine blk_drew ?_ | refine blk_alloc ?_ _)); refine blk_far ?_ NB156_158.out _; (with_reducible repeat (first | refine blk_drewN ?_ _ | refine blk_drew ?_ | refine blk_alloc ?_ _)); refine blk_far ?_ NB156_158.out _; (with_reducible repeat (first | refine blk_drewN ?_ _ | refine blk_drew ?_ | refine blk_alloc ?_ _)); exact BK156.out⟩
        have n10_ : Aside0 (w34.heap[gb158]? = some (.cells #[.int .i64 ((rd_T31 l0 x43_2).f0), .int .i64 ((rd_T31 l0 x43_2).f1), .slice A157_2 ((rd_T31 l0 x43_2).f2).length c157_2, .slice A157_3 ((rd_T31 l0 x43_2).f3).length c157_3, .slice A157_4 ((rd_T31 l0 x43_2).f4).length c157_4, .slice A157_5 ((rd_T31 l0 x43_2).f5).length c157_5, .slice A157_6 ((rd_T31 l0 x43_2).f6).length c157_6, .bool ((rd_T31 l0 x43_2).f7)] 31 (0, 0))) := ⟨by rw [← hW_]; exact by (with_reducible repeat (first | refine blk_drewN ?_ _ | refine blk_drew ?_ | refine blk_alloc ?_ _)); refine blk_put (cs := #[.int .i64 ((rd_T31 l0 x43_2).f0), .int .i64 ((rd_T31 l0 x43_2).f1), .slice A157_2 ((rd_T31 l0 x43_2).f2).length c157_2, .slice A157_3 ((rd_T31 l0 x43_2).f3).length c157_3, .slice A157_4 ((rd_T31 l0 x43_2).f4).length c157_4, .slice A157_5 ((rd_T31 l0 x43_2).f5).length c157_5, .slice A157_6 ((rd_T31 l0 x43_2).f6).length c157_6, .bool false]) ?_ 7 _ rfl; (with_reducible repeat (first | refine blk_drewN ?_ _ | refine blk_drew ?_ | refine blk_alloc ?_ _)); refine blk_put (cs := #[.int .i64 ((rd_T31 l0 x43_2).f0), .int .i64 ((rd_T31 l0 x43_2).f1), .slice A157_2 ((rd_T31 l0 x43_2).f2).length c157_2, .slice A157_3 ((rd_T31 l0 x43_2).f3).length c157_3, .slice A157_4 ((rd_T31 l0 x43_2).f4).length c157_4, .slice A157_5 ((rd_T31 l0 x43_2).f5).length c157_5, .slice none 0 0, .bool false]) ?_ 6 _ rfl; (with_reducible repeat (first | refine blk_drewN ?_ _ | refine blk_drew ?_ | refine blk_alloc ?_ _)); refine blk_put (cs := #[.int .i64 ((rd_T31 l0 x43_2).f0), .int .i64 ((rd_T31 l0 x43_2).f1), .slice A157_2 ((rd_T31 l0 x43_2).f2).length c157_2, .slice A157_3 ((rd_T31 l0 x43_2).f3).length c157_3, .slice A157_4 ((rd_T31 l0 x43_2).f4).length c157_4, .slice none 0 0, .slice none 0 0, .bool false]) ?_ 5 _ rfl; (with_reducible repeat (first | refine blk_drewN ?_ _ | refine blk_drew ?_ | refine blk_alloc ?_ _)); refine blk_put (cs := #[.int .i64 ((rd_T31 l0 x43_2).f0), .int .i64 ((rd_T31 l0 x43_2).f1), .slice A157_2 ((rd_T31 l0 x43_2).f2).length c157_2, .slice A157_3 ((rd_T31 l0 x43_2).f3).length c157_3, .slice none 0 0, .slice none 0 0, .slice none 0 0, .bool false]) ?_ 4 _ rfl; (with_reducible repeat (first | refine blk_drewN ?_ _ | refine blk_drew ?_ | refine blk_alloc ?_ _)); refine blk_put (cs := #[.int .i64 ((rd_T31 l0 x43_2).f0), .int .i64 ((rd_T31 l0 x43_2).f1), .slice A157_2 ((rd_T31 l0 x43_2).f2).length c157_2, .slice none 0 0, .slice none 0 0, .slice none 0 0, .slice none 0 0, .bool false]) ?_ 3 _ rfl; (with_reducible repeat (first | refine blk_drewN ?_ _ | refine blk_drew ?_ | refine blk_alloc ?_ _)); refine blk_put (cs := #[.int .i64 ((rd_T31 l0 x43_2).f0), .int .i64 ((rd_T31 l0 x43_2).f1), .slice none 0 0, .slice none 0 0, .slice none 0 0, .slice none 0 0, .slice none 0 0, .bool false]) ?_ 2 _ rfl; (with_reducible repeat (first | refine blk_drewN ?_ _ | refine blk_drew ?_ | refine blk_alloc ?_ _)); refine blk_put (cs := #[.int .i64 ((rd_T31 l0 x43_2).f0), .int .i64 0, .slice none 0 0, .slice none 0 0, .slice none 0 0, .slice none 0 0, .slice none 0 0, .bool false]) ?_ 1 _ rfl; (with_reducible repeat (first | refine blk_drewN ?_ _ | refine blk_drew ?_ | refine blk_alloc ?_ _)); refine blk_put (cs := #[.int .i64 0, .int .i64 0, .slice none 0 0, .slice none 0 0, .slice none 0 0, .slice none 0 0, .slice none 0 0, .bool false]) ?_ 0 _ rfl; (with_reducible repeat (first | refine blk_drewN ?_ _ | refine blk_drew ?_ | refine blk_alloc ?_ _)); exact BK158.out⟩
        have n11_ : Aside0 (Below w.heap.size w w34) := ⟨by rw [← hW_]; exact (hb3_ HB.out GE154.out GE156.out GE158.out)⟩
        (try clear HO_10)
        (try clear HO_41)
        (try clear HO_157005)
        (try clear HL157_2)
        (try clear HL157_3)
        (try clear HL157_4)
        (try clear HL157_5)
        (try clear HL157_6)
        (try clear BK154)
        (try clear BK156)
        (try clear BK158)
        (try clear HB)
        rw [hW_]
        clear hW_
        revert n0_ n1_ n2_ n3_ n4_ n5_ n6_ n7_ n8_ n9_ n10_ n11_
        intro HO_10 HO_41 HO_157005 HL157_2 HL157_3 HL157_4 HL157_5 HL157_6 BK154 BK156 BK158 HB
        have n0_ := Aside0.mk (Kd.N_drew HO_10.out)
        have n1_ := Aside0.mk (Kd.V_drew HO_41.out)
        have n2_ := Aside0.mk (Kd.N_drew HO_157005.out)
        have n3_ := Aside0.mk (Kd.V_drew HL157_2.out)
        have n4_ := Aside0.mk (Kd.V_drew HL157_3.out)
        have n5_ := Aside0.mk (Kd.V_drew HL157_4.out)
        have n6_ := Aside0.mk (Kd.V_drew HL157_5.out)
        have n7_ := Aside0.mk (Kd.V_drew HL157_6.out)
        have n8_ := Aside0.mk (blk_drew BK154.out)
        have n9_ := Aside0.mk (blk_drew BK156.out)
        have n10_ := Aside0.mk (blk_drew BK158.out)
        have n11_ := Aside0.mk (below_drew1 HB.out)
        clear HO_10
        clear HO_41
        clear HO_157005
        clear HL157_2
        clear HL157_3
        clear HL157_4
        clear HL157_5
        clear HL157_6
        clear BK154
        clear BK156
        clear BK158
        clear HB
        revert n0_ n1_ n2_ n3_ n4_ n5_ n6_ n7_ n8_ n9_ n10_ n11_
        intro HO_10 HO_41 HO_157005 HL157_2 HL157_3 HL157_4 HL157_5 HL157_6 BK154 BK156 BK158 HB
        have p159 : 0 ≤ (x43_2 : Int) := od_
        have q159 : x43_2 < (l1.length : Int) := od_
        obtain ⟨ad159, e159, hx159_0⟩ := Kd.at_string HR1.out x43_2 p159 q159
        have hw159_0 := hx159_0
        (try rw [← Nbq24.out] at hw159_0)
        cases e159
        replace hx159_0 := (HB.out.cell (World.block_lt_of_cell? w _ hx159_0)).trans hx159_0
        replace p159 := eq_true p159
        replace q159 := eq_true q159
        have p160 : 0 ≤ (x43_2 : Int) := od_
        have q160 : x43_2 < (l2.length : Int) := od_
        obtain ⟨ad160, e160, hx160_0⟩ := Kd.at_bool HR2.out x43_2 p160 q160
        have hw160_0 := hx160_0
        (try rw [← Nbq24.out] at hw160_0)
        (try rw [← Nbq24.out] at hx160_0)
        cases e160
        replace hx160_0 := (HB.out.cell (World.block_lt_of_cell? w _ hx160_0)).trans hx160_0
        replace p160 := eq_true p160
        replace q160 := eq_true q160
        refine start_ (n := 20) (S := fun w' => w'.cell? ⟨gb156, 0, none⟩ = some (.int .i64 x157000_2) ∧ w'.cell? ⟨gb156, 1, none⟩ = some (.int .i64 x157001_2) ∧ w'.cell? ⟨gb156, 2, none⟩ = some (.slice none 0 0) ∧ w'.cell? ⟨gb156, 3, none⟩ = some (.slice none 0 0) ∧ w'.cell? ⟨gb156, 4, none⟩ = some (.slice none 0 0) ∧ w'.cell? ⟨gb156, 5, none⟩ = some (u157005) ∧ w'.cell? ⟨gb156, 6, none⟩ = some (.slice none 0 0) ∧ w'.cell? ⟨gb156, 7, none⟩ = some (.bool false) ∧ w'.cell? ⟨gb158, 0, none⟩ = some (.int .i64 ((rd_T31 l0 x43_2).f0)) ∧ w'.cell? ⟨gb158, 1, none⟩ = some (.int .i64 ((rd_T31 l0 x43_2).f1)) ∧ w'.cell? ⟨gb158, 2, none⟩ = some (.slice A157_2 ((rd_T31 l0 x43_2).f2).length c157_2) ∧ w'.cell? ⟨gb158, 3, none⟩ = some (.slice A157_3 ((rd_T31 l0 x43_2).f3).length c157_3) ∧ w'.cell? ⟨gb158, 4, none⟩ = some (.slice A157_4 ((rd_T31 l0 x43_2).f4).length c157_4) ∧ w'.cell? ⟨gb158, 5, none⟩ = some (.slice A157_5 ((rd_T31 l0 x43_2).f5).length c157_5) ∧ w'.cell? ⟨gb158, 6, none⟩ = some (.slice A157_6 ((rd_T31 l0 x43_2).f6).length c157_6) ∧ w'.cell? ⟨gb158, 7, none⟩ = some (.bool ((rd_T31 l0 x43_2).f7)) ∧ w'.cell? (ad159.add (x43_2).toNat) = some (.string (rdOf ByteArray.empty l1 x43_2)) ∧ w'.cell? (ad160.add (x43_2).toNat) = some (.bool bq24)) (ds := [19]) #[false,false,false,false,false,false,false,false,false,false,false,false,false,false,false,false,false,false,false,false] (by kernel_rfl) rfl rfl ⟨(blk_cell BK156.out 0).trans rfl, (blk_cell BK156.out 1).trans rfl, (blk_cell BK156.out 2).trans rfl, (blk_cell BK156.out 3).trans rfl, (blk_cell BK156.out 4).trans rfl, (blk_cell BK156.out 5).trans rfl, (blk_cell BK156.out 6).trans rfl, (blk_cell BK156.out 7).trans rfl, (blk_cell BK158.out 0).trans rfl, (blk_cell BK158.out 1).trans rfl, (blk_cell BK158.out 2).trans rfl, (blk_cell BK158.out 3).trans rfl, (blk_cell BK158.out 4).trans rfl, (blk_cell BK158.out 5).trans rfl, (blk_cell BK158.out 6).trans rfl, (blk_cell BK158.out 7).trans rfl, ((HB.out.cell (World.block_lt_of_cell? w _ hw159_0)).trans hw159_0), ((HB.out.cell (World.block_lt_of_cell? w _ hw160_0)).trans hw160_0)⟩ (fun hHeld => ?_); refine with_tabW sum_Lay.tab11 sum_Lay.bits11 (fun HT_ HW_ => ?_)
        generalize w34.drew = w35 at HO_10 HO_41 HO_157005 HL157_2 HL157_3 HL157_4 HL157_5 HL157_6 BK154 BK156 BK158 HB hx159_0 hx160_0 hHeld ⊢
        refine pure_ (i := 0) (N := some 48) (v := ?_) (a' := ?_) #[true,false,false,false,false,false,false,false,false,false,false,false,false,false,false,false,false,false,false,false] rfl rfl (any_of HT_.out (by kernel_rfl)) (fun _ _ _ h => h) (Or.inl ⟨by rfl, ?_⟩) ?_ ?_
        rotate_left
        ·
         intro w'
         go_simp
         with_reducible rfl
        rotate_left
        ·
         simp only [Act.put, setIfInBounds_toArray, set_cons_zero, set_cons_succ, i64_w, i32_w]
         rfl
        refine pure_ (i := 2) (N := some 50) (v := ?_) (a' := ?_) #[true,false,true,false,false,false,false,false,false,false,false,false,false,false,false,false,false,false,false,false] rfl rfl (any_of HT_.out (by kernel_rfl)) (fun _ _ _ h => h) (Or.inl ⟨by rfl, ?_⟩) ?_ ?_
        rotate_left
        ·
         intro w'
         go_simp
         with_reducible rfl
        rotate_left
        ·
         simp only [Act.put, setIfInBounds_toArray, set_cons_zero, set_cons_succ, i64_w, i32_w]
         rfl
        refine pure_ (i := 3) (N := some 51) (v := ?_) (a' := ?_) #[true,false,true,true,false,false,false,false,false,false,false,false,false,false,false,false,false,false,false,false] rfl rfl (any_of HT_.out (by kernel_rfl)) (fun _ _ _ h => h) (Or.inl ⟨by rfl, ?_⟩) ?_ ?_
        rotate_left
        ·
         intro w'
         go_simp
         with_reducible rfl
        rotate_left
        ·
         simp only [Act.put, setIfInBounds_toArray, set_cons_zero, set_cons_succ, i64_w, i32_w]
         rfl
        refine pure_ (i := 4) (N := some 52) (v := ?_) (a' := ?_) #[true,false,true,true,true,false,false,false,false,false,false,false,false,false,false,false,false,false,false,false] rfl rfl (any_of HT_.out (by kernel_rfl)) (fun _ _ _ h => h) (Or.inl ⟨by rfl, ?_⟩) ?_ ?_
        rotate_left
        ·
         intro w'
         go_simp
         with_reducible rfl
        rotate_left
        ·
         simp only [Act.put, setIfInBounds_toArray, set_cons_zero, set_cons_succ, i64_w, i32_w]
         rfl
        refine pure_ (i := 6) (N := some 54) (v := ?_) (a' := ?_) #[true,false,true,true,true,false,true,false,false,false,false,false,false,false,false,false,false,false,false,false] rfl rfl (any_of HT_.out (by kernel_rfl)) (fun _ _ _ h => h) (Or.inl ⟨by rfl, ?_⟩) ?_ ?_
        rotate_left
        ·
         intro w'
         go_simp
         with_reducible rfl
        rotate_left
        ·
         simp only [Act.put, setIfInBounds_toArray, set_cons_zero, set_cons_succ, i64_w, i32_w]
         rfl
        refine pure_ (i := 7) (N := some 55) (v := ?_) (a' := ?_) #[true,false,true,true,true,false,true,true,false,false,false,false,false,false,false,false,false,false,false,false] rfl rfl (any_of HT_.out (by kernel_rfl)) (fun _ _ _ h => h) (Or.inl ⟨by rfl, ?_⟩) ?_ ?_
        rotate_left
        ·
         intro w'
         go_simp
         with_reducible rfl
        rotate_left
        ·
         simp only [Act.put, setIfInBounds_toArray, set_cons_zero, set_cons_succ, i64_w, i32_w]
         rfl
        refine pure_ (i := 8) (N := some 56) (v := ?_) (a' := ?_) #[true,false,true,true,true,false,true,true,true,false,false,false,false,false,false,false,false,false,false,false] rfl rfl (any_of HT_.out (by kernel_rfl)) (fun _ _ _ h => h) (Or.inl ⟨by rfl, ?_⟩) ?_ ?_
        rotate_left
        ·
         intro w'
         go_simp
         with_reducible rfl
        rotate_left
        ·
         simp only [Act.put, setIfInBounds_toArray, set_cons_zero, set_cons_succ, i64_w, i32_w]
         rfl
        refine pure_ (i := 10) (N := some 58) (v := ?_) (a' := ?_) #[true,false,true,true,true,false,true,true,true,false,true,false,false,false,false,false,false,false,false,false] rfl rfl (any_of HT_.out (by kernel_rfl)) (fun _ _ _ h => h) (Or.inl ⟨by rfl, ?_⟩) ?_ ?_
        rotate_left
        ·
         intro w'
         go_simp
         with_reducible rfl
        rotate_left
        ·
         simp only [Act.put, setIfInBounds_toArray, set_cons_zero, set_cons_succ, i64_w, i32_w]
         rfl
        refine pure_ (i := 13) (N := some 61) (v := ?_) (a' := ?_) #[true,false,true,true,true,false,true,true,true,false,true,false,false,true,false,false,false,false,false,false] rfl rfl (any_of HT_.out (by kernel_rfl)) (fun _ _ _ h => h) (Or.inl ⟨by rfl, ?_⟩) ?_ ?_
        rotate_left
        ·
         intro w'
         go_simp
         with_reducible rfl
        rotate_left
        ·
         simp only [Act.put, setIfInBounds_toArray, set_cons_zero, set_cons_succ, i64_w, i32_w]
         rfl
        refine take_ (i := 1) (N := some 49) (v := ?_) (a' := ?_) #[true,true,true,true,true,false,true,true,true,false,true,false,false,true,false,false,false,false,false,false] rfl rfl (take_ofW HT_.out HW_.out (by kernel_rfl)) (fun _ _ _ h => h) (Or.inl ⟨by rfl, ?_⟩) hHeld ?_ ?_
        rotate_left
        ·
         rintro w' ⟨s0, s1, s2, s3, s4, s5, s6, s7, s8, s9, s10, s11, s12, s13, s14, s15, s16, s17⟩
         go_simp
         with_reducible rfl
        rotate_left
        ·
         simp only [Act.put, setIfInBounds_toArray, set_cons_zero, set_cons_succ, i64_w, i32_w]
         rfl
        refine take_ (i := 5) (N := some 53) (v := ?_) (a' := ?_) #[true,true,true,true,true,true,true,true,true,false,true,false,false,true,false,false,false,false,false,false] rfl rfl (take_ofW HT_.out HW_.out (by kernel_rfl)) (fun _ _ _ h => h) (Or.inl ⟨by rfl, ?_⟩) hHeld ?_ ?_
        rotate_left
        ·
         rintro w' ⟨s0, s1, s2, s3, s4, s5, s6, s7, s8, s9, s10, s11, s12, s13, s14, s15, s16, s17⟩
         go_simp
         with_reducible rfl
        rotate_left
        ·
         simp only [Act.put, setIfInBounds_toArray, set_cons_zero, set_cons_succ, i64_w, i32_w]
         rfl
        refine take_ (i := 9) (N := some 57) (v := ?_) (a' := ?_) #[true,true,true,true,true,true,true,true,true,true,true,false,false,true,false,false,false,false,false,false] rfl rfl (take_ofW HT_.out HW_.out (by kernel_rfl)) (fun _ _ _ h => h) (Or.inl ⟨by rfl, ?_⟩) hHeld ?_ ?_
        rotate_left
        ·
         rintro w' ⟨s0, s1, s2, s3, s4, s5, s6, s7, s8, s9, s10, s11, s12, s13, s14, s15, s16, s17⟩
         go_simp
         with_reducible rfl
        rotate_left
        ·
         simp only [Act.put, setIfInBounds_toArray, set_cons_zero, set_cons_succ, i64_w, i32_w]
         rfl
        refine take_ (i := 11) (N := some 59) (v := ?_) (a' := ?_) #[true,true,true,true,true,true,true,true,true,true,true,true,false,true,false,false,false,false,false,false] rfl rfl (take_ofW HT_.out HW_.out (by kernel_rfl)) (fun _ _ _ h => h) (Or.inl ⟨by rfl, ?_⟩) hHeld ?_ ?_
        rotate_left
        ·
         rintro w' ⟨s0, s1, s2, s3, s4, s5, s6, s7, s8, s9, s10, s11, s12, s13, s14, s15, s16, s17⟩
         go_simp
         with_reducible rfl
        rotate_left
        ·
         simp only [Act.put, setIfInBounds_toArray, set_cons_zero, set_cons_succ, i64_w, i32_w]
         rfl
        refine take_ (i := 14) (N := some 62) (v := ?_) (a' := ?_) #[true,true,true,true,true,true,true,true,true,true,true,true,false,true,true,false,false,false,false,false] rfl rfl (take_ofW HT_.out HW_.out (by kernel_rfl)) (fun _ _ _ h => h) (Or.inl ⟨by rfl, ?_⟩) hHeld ?_ ?_
        rotate_left
        ·
         rintro w' ⟨s0, s1, s2, s3, s4, s5, s6, s7, s8, s9, s10, s11, s12, s13, s14, s15, s16, s17⟩
         go_simp
         with_reducible rfl
        rotate_left
        ·
         simp only [Act.put, setIfInBounds_toArray, set_cons_zero, set_cons_succ, i64_w, i32_w]
         rfl
        refine one_ (i := 12) (N := some 60) #[true,true,true,true,true,true,true,true,true,true,true,true,true,true,true,false,false,false,false,false] rfl rfl (one_of HT_.out (by kernel_rfl)) (by decide) (fun K hK => ?_)
        refine goes_ Try.func78 (by kernel_rfl) rfl #[.slice A157_3 ((rd_T31 l0 x43_2).f3).length c157_3] (by rfl) rfl rfl (by (try simp only [List.map_toArray, List.map_cons, List.map_nil]); first | done | rfl | (simp only [List.length_drop, List.length_take]; rfl)) ?_
        with_reducible refine (CloneI.calls _ _ ((rd_T31 l0 x43_2).f3) t161 _ ?side1 ?side2 A22.out).mono ?_
        (case side1 => exact kD_ ((Kd.V_reads' (kV_ HL157_3.out)).2.2))
        (case side2 => exact HC157_3.out)
        rintro e w36 ⟨v162, rfl, ho0, hb⟩
        refine ⟨_, rfl, ?_⟩
        have n0_ := Aside0.mk (Kd.N_elder' (kN_ HO_10.out) (Kd.R_base ho0) hb)
        have n1_ := Aside0.mk (Kd.V_elder' (kV_ HO_41.out) (Kd.R_base ho0) hb)
        have n2_ := Aside0.mk (Kd.N_elder' (kN_ HO_157005.out) (Kd.R_base ho0) hb)
        have n3_ := Aside0.mk (Kd.V_elder' (kV_ HL157_2.out) (Kd.R_base ho0) hb)
        have n4_ := Aside0.mk (Kd.V_elder' (kV_ HL157_3.out) (Kd.R_base ho0) hb)
        have n5_ := Aside0.mk (Kd.V_elder' (kV_ HL157_4.out) (Kd.R_base ho0) hb)
        have n6_ := Aside0.mk (Kd.V_elder' (kV_ HL157_5.out) (Kd.R_base ho0) hb)
        have n7_ := Aside0.mk (Kd.V_elder' (kV_ HL157_6.out) (Kd.R_base ho0) hb)
        have n8_ := Aside0.mk (Kd.R_lower (Kd.R_newM (M := fun k_ => (w.heap.size ≤ k_)) ho0 (below_size (hb3_ HB.out GE154.out GE156.out GE158.out)) (fun k_ h_ => h_)) (below_size (hb3_ HB.out GE154.out GE156.out GE158.out)))
        have n9_ := Aside0.mk (blk_below (g := gb154) (o := .cells #[.int .i64 0, .int .i64 0, .slice none 0 0, .slice none 0 0, .slice none 0 0, .slice none 0 0, .slice none 0 0, .bool false] 31 (0, 0)) (bk_ BK154.out) hb)
        have n10_ := Aside0.mk (blk_below (g := gb156) (o := .cells #[.int .i64 x157000_2, .int .i64 x157001_2, .slice none 0 0, .slice none 0 0, .slice none 0 0, u157005, .slice none 0 0, .bool false] 31 (0, 0)) (bk_ BK156.out) hb)
        have n11_ := Aside0.mk (blk_below (g := gb158) (o := .cells #[.int .i64 ((rd_T31 l0 x43_2).f0), .int .i64 ((rd_T31 l0 x43_2).f1), .slice A157_2 ((rd_T31 l0 x43_2).f2).length c157_2, .slice A157_3 ((rd_T31 l0 x43_2).f3).length c157_3, .slice A157_4 ((rd_T31 l0 x43_2).f4).length c157_4, .slice A157_5 ((rd_T31 l0 x43_2).f5).length c157_5, .slice A157_6 ((rd_T31 l0 x43_2).f6).length c157_6, .bool ((rd_T31 l0 x43_2).f7)] 31 (0, 0)) (bk_ BK158.out) hb)
        have n12_ := Aside0.mk (below_step (hb3_ HB.out GE154.out GE156.out GE158.out) hb)
        clear HO_10
        clear HO_41
        clear HO_157005
        clear HL157_2
        clear HL157_3
        clear HL157_4
        clear HL157_5
        clear HL157_6
        clear BK154
        clear BK156
        clear BK158
        clear HB
        revert n0_ n1_ n2_ n3_ n4_ n5_ n6_ n7_ n8_ n9_ n10_ n11_ n12_
        intro HO_10 HO_41 HO_157005 HL157_2 HL157_3 HL157_4 HL157_5 HL157_6 HO163 BK154 BK156 BK158 HB
        (try clear hb)
        (try clear hb2)
        (try clear hk)
        (try clear hi)
        (try clear ho0)
        obtain ⟨Ao37, co37, eo37⟩ := Kd.R_slice HO163.out
        (first | subst eo37 | (injection eo37 with f1_ f2_ f3_; have f4_ := f1_.symm; have f5_ := f3_.symm; clear f1_ f2_ f3_; subst f4_; subst f5_))
        refine hK.out _ _ ⟨(blk_cell BK156.out 0).trans rfl, (blk_cell BK156.out 1).trans rfl, (blk_cell BK156.out 2).trans rfl, (blk_cell BK156.out 3).trans rfl, (blk_cell BK156.out 4).trans rfl, (blk_cell BK156.out 5).trans rfl, (blk_cell BK156.out 6).trans rfl, (blk_cell BK156.out 7).trans rfl, (blk_cell BK158.out 0).trans rfl, (blk_cell BK158.out 1).trans rfl, (blk_cell BK158.out 2).trans rfl, (blk_cell BK158.out 3).trans rfl, (blk_cell BK158.out 4).trans rfl, (blk_cell BK158.out 5).trans rfl, (blk_cell BK158.out 6).trans rfl, (blk_cell BK158.out 7).trans rfl, ((HB.out.cell (World.block_lt_of_cell? w _ hw159_0)).trans hw159_0), ((HB.out.cell (World.block_lt_of_cell? w _ hw160_0)).trans hw160_0)⟩ (fun hHeld => ?_)
        clear hK K
        refine norm_ (a' := ?_) ?_ ?_
        rotate_left
        ·
         show Act.put _ (some 60) _ = _
         simp only [Act.put, setIfInBounds_toArray, set_cons_zero, set_cons_succ, i64_w, i32_w]
         rfl
        refine pure_ (i := 15) (N := some 63) (v := ?_) (a' := ?_) #[true,true,true,true,true,true,true,true,true,true,true,true,true,true,true,true,false,false,false,false] rfl rfl (any_of HT_.out (by kernel_rfl)) (fun _ _ _ h => h) (Or.inl ⟨by rfl, ?_⟩) ?_ ?_
        rotate_left
        ·
         intro w'
         go_simp
         with_reducible rfl
        rotate_left
        ·
         simp only [Act.put, setIfInBounds_toArray, set_cons_zero, set_cons_succ, i64_w, i32_w]
         rfl
        refine one_ (i := 16) (N := some 64) #[true,true,true,true,true,true,true,true,true,true,true,true,true,true,true,true,true,false,false,false] rfl rfl (one_of HT_.out (by kernel_rfl)) (by decide) (fun K hK => ?_)
        refine value_ (w1 := ?_) (v := ?_) (by rfl) rfl ?_ ?_
        rotate_left 2
        ·
         go_simp
         constructor
         ·
          rfl
         ·
          rfl
        refine hK.out _ _ ⟨(blk_cell (blk_alloc BK156.out _) 0).trans rfl, (blk_cell (blk_alloc BK156.out _) 1).trans rfl, (blk_cell (blk_alloc BK156.out _) 2).trans rfl, (blk_cell (blk_alloc BK156.out _) 3).trans rfl, (blk_cell (blk_alloc BK156.out _) 4).trans rfl, (blk_cell (blk_alloc BK156.out _) 5).trans rfl, (blk_cell (blk_alloc BK156.out _) 6).trans rfl, (blk_cell (blk_alloc BK156.out _) 7).trans rfl, (blk_cell (blk_alloc BK158.out _) 0).trans rfl, (blk_cell (blk_alloc BK158.out _) 1).trans rfl, (blk_cell (blk_alloc BK158.out _) 2).trans rfl, (blk_cell (blk_alloc BK158.out _) 3).trans rfl, (blk_cell (blk_alloc BK158.out _) 4).trans rfl, (blk_cell (blk_alloc BK158.out _) 5).trans rfl, (blk_cell (blk_alloc BK158.out _) 6).trans rfl, (blk_cell (blk_alloc BK158.out _) 7).trans rfl, (World.cell?_alloc_lt _ _ _ (World.block_lt_of_cell? _ _ (((HB.out.cell (World.block_lt_of_cell? w _ hw159_0)).trans hw159_0)))).trans (((HB.out.cell (World.block_lt_of_cell? w _ hw159_0)).trans hw159_0)), (World.cell?_alloc_lt _ _ _ (World.block_lt_of_cell? _ _ (((HB.out.cell (World.block_lt_of_cell? w _ hw160_0)).trans hw160_0)))).trans (((HB.out.cell (World.block_lt_of_cell? w _ hw160_0)).trans hw160_0))⟩ (fun hHeld => ?_)
        clear hK K
        refine norm_ (a' := ?_) ?_ ?_
        rotate_left
        ·
         show Act.put _ (some 64) _ = _
         simp only [Act.put, setIfInBounds_toArray, set_cons_zero, set_cons_succ, i64_w, i32_w]
         rfl
        refine one_ (i := 17) (N := some 65) #[true,true,true,true,true,true,true,true,true,true,true,true,true,true,true,true,true,true,false,false] rfl rfl (one_of HT_.out (by kernel_rfl)) (by decide) (fun K hK => ?_)
        refine Kd.N_append_step k79 (w0 := w) w.heap.size (by rfl) (.tmp 49) (.tmp 64) 29 79 (.agg #[(.string ⟨#[]⟩), (.bool false), (.slice none 0 0), (.slice none 0 0), (.int .i64 0)]) 80 rfl Try.underlying29 info79 rfl (by decide) (by omega) u157005 x157005_2 (⟨rdOf ByteArray.empty l1 x43_2, bq24, t161, ([] : List (S101)), (rd_T31 l0 x43_2).f0⟩ : S79) [.string (rdOf ByteArray.empty l1 x43_2), .bool bq24, .slice Ao37 t161.length co37, .slice none 0 0, .int .i64 ((rd_T31 l0 x43_2).f0)] (fun k_ => (P0_ k_ ∨ w.heap.size ≤ k_) ∧ some k_ ≠ (u10 : Value).ownBlock ∧ k_ ≠ gb154 ∧ k_ ≠ gb156 ∧ k_ ≠ gb158) (fun k_ => ((fun k_ => (P0_ k_ ∨ w.heap.size ≤ k_) ∧ some k_ ≠ (u10 : Value).ownBlock ∧ k_ ≠ gb154 ∧ k_ ≠ gb156 ∧ k_ ≠ gb158)) k_ ∧ some k_ ≠ (u157005 : Value).ownBlock) rfl rfl ?aP (fun _ hk => hk) ?aF ?aO ?aB ?aS ?aL ?_
        (case aP => exact (k79_mkF _ _ (⟨rdOf ByteArray.empty l1 x43_2, bq24, t161, ([] : List (S101)), (rd_T31 l0 x43_2).f0⟩ : S79) (Kd.R_reads' (Kd.R_mono (ok' := (fun k_ => ((fun k_ => (P0_ k_ ∨ w.heap.size ≤ k_) ∧ some k_ ≠ (u10 : Value).ownBlock ∧ k_ ≠ gb154 ∧ k_ ≠ gb156 ∧ k_ ≠ gb158)) k_ ∧ some k_ ≠ (u157005 : Value).ownBlock)) (Kd.R_types (Kd.R_types (Kd.R_types (Kd.R_apart' (Kd.R_apart' (HO163.out) (Kd.N_typed HO_10.out) (by decide)) (Kd.N_typed HO_157005.out) (by decide)) BK154.out (by decide)) BK156.out (by decide)) BK158.out (by decide)) (fun k_ hk => ⟨⟨(.inr (hk.1.1.1.1.1.1)), ⟨hk.1.1.1.1.2, ⟨hk.1.1.2, ⟨hk.1.2, hk.2⟩⟩⟩⟩, hk.1.1.1.2⟩))).2.1 (Kd.R_F (Kd.R_mono (ok' := (fun k_ => ((fun k_ => (P0_ k_ ∨ w.heap.size ≤ k_) ∧ some k_ ≠ (u10 : Value).ownBlock ∧ k_ ≠ gb154 ∧ k_ ≠ gb156 ∧ k_ ≠ gb158)) k_ ∧ some k_ ≠ (u157005 : Value).ownBlock)) (Kd.R_types (Kd.R_types (Kd.R_types (Kd.R_apart' (Kd.R_apart' (HO163.out) (Kd.N_typed HO_10.out) (by decide)) (Kd.N_typed HO_157005.out) (by decide)) BK154.out (by decide)) BK156.out (by decide)) BK158.out (by decide)) (fun k_ hk => ⟨⟨(.inr (hk.1.1.1.1.1.1)), ⟨hk.1.1.1.1.2, ⟨hk.1.1.2, ⟨hk.1.2, hk.2⟩⟩⟩⟩, hk.1.1.1.2⟩))) (Nat.le_refl _) (Kd.F_nil _ _ _)))
        (case aB => exact (hb3_ HB.out GE154.out GE156.out GE158.out))
        (case aF => exact (fun k_ hk => ⟨(.inr (Nat.le_trans (below_size (hb3_ HB.out GE154.out GE156.out GE158.out)) hk)), Kd.fresh' (Kd.N_lt (kN_ HO_10.out)) k_ hk, Kd.freshB (g := gb154) (o := .cells #[.int .i64 0, .int .i64 0, .slice none 0 0, .slice none 0 0, .slice none 0 0, .slice none 0 0, .slice none 0 0, .bool false] 31 (0, 0)) (bk_ BK154.out) k_ hk, Kd.freshB (g := gb156) (o := .cells #[.int .i64 x157000_2, .int .i64 x157001_2, .slice none 0 0, .slice none 0 0, .slice none 0 0, u157005, .slice none 0 0, .bool false] 31 (0, 0)) (bk_ BK156.out) k_ hk, Kd.freshB (g := gb158) (o := .cells #[.int .i64 ((rd_T31 l0 x43_2).f0), .int .i64 ((rd_T31 l0 x43_2).f1), .slice A157_2 ((rd_T31 l0 x43_2).f2).length c157_2, .slice A157_3 ((rd_T31 l0 x43_2).f3).length c157_3, .slice A157_4 ((rd_T31 l0 x43_2).f4).length c157_4, .slice A157_5 ((rd_T31 l0 x43_2).f5).length c157_5, .slice A157_6 ((rd_T31 l0 x43_2).f6).length c157_6, .bool ((rd_T31 l0 x43_2).f7)] 31 (0, 0)) (bk_ BK158.out) k_ hk⟩))
        (case aO => exact (by (with_reducible repeat (first | apply Kd.N_alloc | apply Kd.N_drewN | apply Kd.N_drew)); exact Kd.N_mono HO_157005.out (fun _ hk => ⟨hk.1.1, ⟨hk.1.2.1, ⟨hk.1.2.2.1, ⟨hk.1.2.2.2.1, hk.1.2.2.2.2⟩⟩⟩⟩)))
        (case aS => exact (below_size (hb3_ HB.out GE154.out GE156.out GE158.out)))
        (case aL => have := LMc23.out; omega)
        intro v165 w38 ho hb hg hat
        rw [← Ny164.out] at ho
        have n0_ := Aside0.mk (Kd.N_afterv (ok := (fun k_ => (P0_ k_ ∨ w.heap.size ≤ k_) ∧ some k_ ≠ (.slice Ao37 t161.length co37 : Value).ownBlock ∧ k_ ≠ gb154 ∧ k_ ≠ gb156 ∧ k_ ≠ gb158)) (by (with_reducible repeat (first | apply Kd.N_alloc | apply Kd.N_drewN | apply Kd.N_drew)); exact Kd.N_mono HO_10.out (fun _ hk => ⟨⟨hk.1.1, ⟨hk.2, ⟨hk.1.2.2.1, ⟨hk.1.2.2.2.1, hk.1.2.2.2.2⟩⟩⟩⟩, hk.1.2.1⟩)) hg hat)
        have n1_ := Aside0.mk (Kd.V_afterv (ok := (fun k_ => (P0_ k_ ∨ w.heap.size ≤ k_) ∧ some k_ ≠ (u10 : Value).ownBlock ∧ some k_ ≠ (.slice Ao37 t161.length co37 : Value).ownBlock ∧ k_ ≠ gb154 ∧ k_ ≠ gb156 ∧ k_ ≠ gb158)) (by (with_reducible repeat (first | apply Kd.V_alloc | apply Kd.V_drewN | apply Kd.V_drew)); exact Kd.V_mono HO_41.out (fun _ hk => ⟨⟨hk.1.1, ⟨hk.1.2.1, ⟨hk.2, ⟨hk.1.2.2.2.1, ⟨hk.1.2.2.2.2.1, hk.1.2.2.2.2.2⟩⟩⟩⟩⟩, hk.1.2.2.1⟩)) hg hat)
        have n2_ := Aside0.mk (blk_grown (g := gb154) (o := .cells #[.int .i64 0, .int .i64 0, .slice none 0 0, .slice none 0 0, .slice none 0 0, .slice none 0 0, .slice none 0 0, .bool false] 31 (0, 0)) (bk_ BK154.out) hg (Kd.N_ne HO_157005.out BK154.out (by decide)))
        have n3_ := Aside0.mk (blk_grown (g := gb156) (o := .cells #[.int .i64 x157000_2, .int .i64 x157001_2, .slice none 0 0, .slice none 0 0, .slice none 0 0, u157005, .slice none 0 0, .bool false] 31 (0, 0)) (bk_ BK156.out) hg (Kd.N_ne HO_157005.out BK156.out (by decide)))
        have n4_ := Aside0.mk (Kd.V_afterv (ok := (fun k_ => (P0_ k_ ∨ w.heap.size ≤ k_) ∧ some k_ ≠ (u10 : Value).ownBlock ∧ some k_ ≠ (.slice Ao37 t161.length co37 : Value).ownBlock ∧ k_ ≠ gb154 ∧ k_ ≠ gb156 ∧ k_ ≠ gb158)) (by (with_reducible repeat (first | apply Kd.V_alloc | apply Kd.V_drewN | apply Kd.V_drew)); exact Kd.V_mono HL157_2.out (fun _ hk => ⟨⟨hk.1.1, ⟨hk.1.2.1, ⟨hk.2, ⟨hk.1.2.2.2.1, ⟨hk.1.2.2.2.2.1, hk.1.2.2.2.2.2⟩⟩⟩⟩⟩, hk.1.2.2.1⟩)) hg hat)
        have n5_ := Aside0.mk (Kd.V_afterv (ok := (fun k_ => (P0_ k_ ∨ w.heap.size ≤ k_) ∧ some k_ ≠ (u10 : Value).ownBlock ∧ some k_ ≠ (.slice Ao37 t161.length co37 : Value).ownBlock ∧ k_ ≠ gb154 ∧ k_ ≠ gb156 ∧ k_ ≠ gb158)) (by (with_reducible repeat (first | apply Kd.V_alloc | apply Kd.V_drewN | apply Kd.V_drew)); exact Kd.V_mono HL157_3.out (fun _ hk => ⟨⟨hk.1.1, ⟨hk.1.2.1, ⟨hk.2, ⟨hk.1.2.2.2.1, ⟨hk.1.2.2.2.2.1, hk.1.2.2.2.2.2⟩⟩⟩⟩⟩, hk.1.2.2.1⟩)) hg hat)
        have n6_ := Aside0.mk (Kd.V_afterv (ok := (fun k_ => (P0_ k_ ∨ w.heap.size ≤ k_) ∧ some k_ ≠ (u10 : Value).ownBlock ∧ some k_ ≠ (.slice Ao37 t161.length co37 : Value).ownBlock ∧ k_ ≠ gb154 ∧ k_ ≠ gb156 ∧ k_ ≠ gb158)) (by (with_reducible repeat (first | apply Kd.V_alloc | apply Kd.V_drewN | apply Kd.V_drew)); exact Kd.V_mono HL157_4.out (fun _ hk => ⟨⟨hk.1.1, ⟨hk.1.2.1, ⟨hk.2, ⟨hk.1.2.2.2.1, ⟨hk.1.2.2.2.2.1, hk.1.2.2.2.2.2⟩⟩⟩⟩⟩, hk.1.2.2.1⟩)) hg hat)
        have n7_ := Aside0.mk (Kd.V_afterv (ok := (fun k_ => (P0_ k_ ∨ w.heap.size ≤ k_) ∧ some k_ ≠ (u10 : Value).ownBlock ∧ some k_ ≠ (.slice Ao37 t161.length co37 : Value).ownBlock ∧ k_ ≠ gb154 ∧ k_ ≠ gb156 ∧ k_ ≠ gb158)) (by (with_reducible repeat (first | apply Kd.V_alloc | apply Kd.V_drewN | apply Kd.V_drew)); exact Kd.V_mono HL157_5.out (fun _ hk => ⟨⟨hk.1.1, ⟨hk.1.2.1, ⟨hk.2, ⟨hk.1.2.2.2.1, ⟨hk.1.2.2.2.2.1, hk.1.2.2.2.2.2⟩⟩⟩⟩⟩, hk.1.2.2.1⟩)) hg hat)
        have n8_ := Aside0.mk (Kd.V_afterv (ok := (fun k_ => (P0_ k_ ∨ w.heap.size ≤ k_) ∧ some k_ ≠ (u10 : Value).ownBlock ∧ some k_ ≠ (.slice Ao37 t161.length co37 : Value).ownBlock ∧ k_ ≠ gb154 ∧ k_ ≠ gb156 ∧ k_ ≠ gb158)) (by (with_reducible repeat (first | apply Kd.V_alloc | apply Kd.V_drewN | apply Kd.V_drew)); exact Kd.V_mono HL157_6.out (fun _ hk => ⟨⟨hk.1.1, ⟨hk.1.2.1, ⟨hk.2, ⟨hk.1.2.2.2.1, ⟨hk.1.2.2.2.2.1, hk.1.2.2.2.2.2⟩⟩⟩⟩⟩, hk.1.2.2.1⟩)) hg hat)
        have n9_ := Aside0.mk (blk_grown (g := gb158) (o := .cells #[.int .i64 ((rd_T31 l0 x43_2).f0), .int .i64 ((rd_T31 l0 x43_2).f1), .slice A157_2 ((rd_T31 l0 x43_2).f2).length c157_2, .slice A157_3 ((rd_T31 l0 x43_2).f3).length c157_3, .slice A157_4 ((rd_T31 l0 x43_2).f4).length c157_4, .slice A157_5 ((rd_T31 l0 x43_2).f5).length c157_5, .slice A157_6 ((rd_T31 l0 x43_2).f6).length c157_6, .bool ((rd_T31 l0 x43_2).f7)] 31 (0, 0)) (bk_ BK158.out) hg (Kd.N_ne HO_157005.out BK158.out (by decide)))
        have n10_ := Aside0.mk (hb)
        have n11_ := Aside0.mk (ho)
        clear HO_10
        clear HO_41
        clear BK154
        clear BK156
        clear HL157_2
        clear HL157_3
        clear HL157_4
        clear HL157_5
        clear HL157_6
        clear BK158
        clear HB
        clear HO_157005
        clear HO163
        revert n0_ n1_ n2_ n3_ n4_ n5_ n6_ n7_ n8_ n9_ n10_ n11_
        intro HO_10 HO_41 BK154 BK156 HL157_2 HL157_3 HL157_4 HL157_5 HL157_6 BK158 HB HO166
        clear ho hb hg hat
        obtain ⟨Ao39, co39, eo39⟩ := Kd.N_slice HO166.out
        (first | subst eo39 | (injection eo39 with f1_ f2_ f3_; have f4_ := f1_.symm; have f5_ := f3_.symm; clear f1_ f2_ f3_; subst f4_; subst f5_))
        refine hK.out _ _ ⟨(blk_cell BK156.out 0).trans rfl, (blk_cell BK156.out 1).trans rfl, (blk_cell BK156.out 2).trans rfl, (blk_cell BK156.out 3).trans rfl, (blk_cell BK156.out 4).trans rfl, (blk_cell BK156.out 5).trans rfl, (blk_cell BK156.out 6).trans rfl, (blk_cell BK156.out 7).trans rfl, (blk_cell BK158.out 0).trans rfl, (blk_cell BK158.out 1).trans rfl, (blk_cell BK158.out 2).trans rfl, (blk_cell BK158.out 3).trans rfl, (blk_cell BK158.out 4).trans rfl, (blk_cell BK158.out 5).trans rfl, (blk_cell BK158.out 6).trans rfl, (blk_cell BK158.out 7).trans rfl, ((HB.out.cell (World.block_lt_of_cell? w _ hw159_0)).trans hw159_0), ((HB.out.cell (World.block_lt_of_cell? w _ hw160_0)).trans hw160_0)⟩ (fun hHeld => ?_)
        clear hK K
        refine norm_ (a' := ?_) ?_ ?_
        rotate_left
        ·
         show Act.put _ (some 65) _ = _
         simp only [Act.put, setIfInBounds_toArray, set_cons_zero, set_cons_succ, i64_w, i32_w]
         rfl
        refine pure_ (i := 18) (N := some 66) (v := ?_) (a' := ?_) #[true,true,true,true,true,true,true,true,true,true,true,true,true,true,true,true,true,true,true,false] rfl rfl (any_of HT_.out (by kernel_rfl)) (fun _ _ _ h => h) (Or.inl ⟨by rfl, ?_⟩) ?_ ?_
        rotate_left
        ·
         intro w'
         go_simp
         with_reducible rfl
        rotate_left
        ·
         simp only [Act.put, setIfInBounds_toArray, set_cons_zero, set_cons_succ, i64_w, i32_w]
         rfl
        refine last_ (i := 19) (N := none) #[true,true,true,true,true,true,true,true,true,true,true,true,true,true,true,true,true,true,true,true] rfl rfl (one_of HT_.out (by kernel_rfl)) (by decide) (fun K hK => ?_)
        have hs40 : w38.cell? ⟨gb156, 5, none⟩ = some (u157005) := (blk_cell BK156.out 5).trans rfl
        have hfs40 := blk_frozen BK156.out 5
        have hns40_0 := NB154_156.out
        have hns40_2 := NB158_156.out
        have hms40_0 := NB156_154.out
        have hms40_2 := NB156_158.out
        refine skip_ (w1 := ?_) (by rfl) rfl ?_ ?_
        rotate_left
        ·
         go_simp
         rfl
        refine hK.out _ _ ?_
        clear hK K
        refine done_ (done_of HT_.out (by kernel_rfl)) ?_
        by_cases c25 : bq24 = true
        ·
         subst c25
         have H1 : ((sum_Pointer.f).bind fun bt168 => (if x10_2.length < 977343669134 then (sum_Lay.l0 k2 l1 l2 (x10_2 ++ [(⟨bt168.1, bt168.2.1, bt168.2.2.1, bt168.2.2.2.1, bt168.2.2.2.2.1, bt168.2.2.2.2.2.1, bt168.2.2.2.2.2.2.1, bt168.2.2.2.2.2.2.2⟩ : S31)]) l0 (l0.length : Int) (wrap64 (x43_2 + 1)) (mx x157000_2 bt168.1) (mx x157001_2 bt168.2.1) y164 false) else (none))) = some (r1, r2, r3, r4, r5, r6, r7, r8, r9) := by rw [if_pos rfl] at H; exact H
         clear H
         have H := H1
         clear H1
         replace H := Option.bind_eq_some_iff.mp H
         obtain ⟨⟨t168, t169, t170, t173, t176, t179, t182, t185⟩, A260, H⟩ := H
         try dsimp only at H
         have A26 := Aside0.mk A260
         clear A260
         by_cases c27 : x10_2.length < 977343669134
         rotate_left
         ·
          rw [if_neg c27] at H
          exact absurd H (by simp)
         rw [if_pos c27] at H
         have LMc27 := Aside0.mk c27
         clear c27
         obtain ⟨y186, hy186⟩ : ∃ y_ : List (S31), y_ = (x10_2 ++ [(⟨t168, t169, t170, t173, t176, t179, t182, t185⟩ : S31)]) := ⟨_, rfl⟩
         replace H : (sum_Lay.l0 k2 l1 l2 y186 l0 (l0.length : Int) (wrap64 (x43_2 + 1)) (mx x157000_2 t168) (mx x157001_2 t169) y164 false) = some (r1, r2, r3, r4, r5, r6, r7, r8, r9) := by first | (rw [hy186]; with_reducible exact H) | (have H2_ := (Option.bind_some _ _).symm.trans H; rw [hy186]; with_reducible exact H2_) | (have H2_ := (Option.bind_some _ _).symm.trans H; with_reducible exact H2_) | with_reducible exact H | (rw [hy186]; exact H) | exact H
         have Ny186 := Aside0.mk hy186
         clear hy186
         obtain ⟨ji28, hji28⟩ : ∃ j_ : Int, (mx x157000_2 t168) = j_ := ⟨_, rfl⟩
         replace H : (sum_Lay.l0 k2 l1 l2 y186 l0 (l0.length : Int) (wrap64 (x43_2 + 1)) ji28 (mx x157001_2 t169) y164 false) = some (r1, r2, r3, r4, r5, r6, r7, r8, r9) := by first | (rw [hji28] at H; exact H) | (simp only [hji28] at H ⊢; exact H)
         (try rw [hji28] at A22)
         (try rw [hji28] at A26)
         have hji28_ : (if x157000_2 < t168 then t168 else x157000_2) = ji28 := hji28
         obtain ⟨ji29, hji29⟩ : ∃ j_ : Int, (mx x157001_2 t169) = j_ := ⟨_, rfl⟩
         replace H : (sum_Lay.l0 k2 l1 l2 y186 l0 (l0.length : Int) (wrap64 (x43_2 + 1)) ji28 ji29 y164 false) = some (r1, r2, r3, r4, r5, r6, r7, r8, r9) := by first | (rw [hji29] at H; exact H) | (simp only [hji29] at H ⊢; exact H)
         (try rw [hji29] at A22)
         (try rw [hji29] at A26)
         have hji29_ : (if x157001_2 < t169 then t169 else x157001_2) = ji29 := hji29
         have H' := Aside0.mk H
         clear H
         have p167 : 0 ≤ (x43_2 : Int) := od_
         have q167 : x43_2 < (l2.length : Int) := od_
         obtain ⟨ad167, e167, hx167_0⟩ := Kd.at_bool HR2.out x43_2 p167 q167
         (try rw [← Nbq24.out] at hx167_0)
         obtain rfl : ad160 = ad167 := (by injection e167)
         have hn167_0 : ad160.block ≠ gb156 := Nat.ne_of_lt (Nat.lt_of_lt_of_le (by have := World.block_lt_of_cell? _ _ hx167_0; first | rwa [add_block] at this | exact this) GW156.out)
         replace hx167_0 := (HB.out.cell (World.block_lt_of_cell? w _ hx167_0)).trans hx167_0
         replace hx167_0 := (cell_far (p := ⟨gb156, 5, none⟩) (by first | (rw [add_block]; exact hn167_0) | (show (Addr.add _ _).block ≠ _; rw [add_block]; exact hn167_0) | exact hn167_0) (.slice Ao39 y164.length co39)).trans hx167_0
         clear hn167_0
         replace p167 := eq_true p167
         replace q167 := eq_true q167
         try go_wp2_with (first | ((with_reducible refine gate_callee (f := 37) rfl ?_); refine goesL_ (some 71) rfl rfl Try.func37 (by kernel_rfl) rfl #[] rfl (by (try simp only [List.map_toArray, List.map_cons, List.map_nil]); first | done | rfl | (simp only [List.length_drop, List.length_take]; rfl)) ?_; (with_reducible refine (sum_Pointer.calls  t168 t169 t170 t173 t176 t179 t182 t185 _ A26.out).mono ?_); rintro e w41 ⟨v171, v174, v177, v180, v183, rfl, ho0, ho1, ho2, ho3, ho4, hb⟩; refine ⟨_, rfl, ?_⟩; have n0_ := Aside0.mk (Kd.N_mono (Kd.N_told (Kd.N_told (Kd.N_told (Kd.N_told (Kd.N_told (Kd.N_old (by (with_reducible repeat (first | apply Kd.N_alloc | apply Kd.N_drewN | apply Kd.N_drew)); exact (Kd.N_mono (Kd.N_far (p := ⟨gb156, 5, none⟩) (Kd.N_mono HO_10.out (fun k_ hk => (⟨hk, hk.1.2.2.2.1⟩ : _ ∧ k_ ≠ gb156))) (fun _ hk => hk.2) (.slice Ao39 y164.length co39)) (fun _ h_ => h_.1))) hb) (Kd.R_base ho0)) (Kd.R_base ho1)) (by first | exact Kd.N_base ho2 | exact Kd.R_base ho2)) (by first | exact Kd.N_base ho3 | exact Kd.R_base ho3)) (Kd.R_base ho4)) (fun _ h_ => h_.1)); have n1_ := Aside0.mk (Kd.V_mono (Kd.V_told (Kd.V_told (Kd.V_told (Kd.V_told (Kd.V_told (Kd.V_old (by (with_reducible repeat (first | apply Kd.V_alloc | apply Kd.V_drewN | apply Kd.V_drew)); exact (Kd.V_mono (Kd.V_far (p := ⟨gb156, 5, none⟩) (Kd.V_mono HO_41.out (fun k_ hk => (⟨hk, hk.1.2.2.2.2.1⟩ : _ ∧ k_ ≠ gb156))) (fun _ hk => hk.2) (.slice Ao39 y164.length co39)) (fun _ h_ => h_.1))) hb) (Kd.R_base ho0)) (Kd.R_base ho1)) (by first | exact Kd.N_base ho2 | exact Kd.R_base ho2)) (by first | exact Kd.N_base ho3 | exact Kd.R_base ho3)) (Kd.R_base ho4)) (fun _ h_ => h_.1)); have n2_ := Aside0.mk (Kd.V_mono (Kd.V_told (Kd.V_told (Kd.V_told (Kd.V_told (Kd.V_told (Kd.V_old (by (with_reducible repeat (first | apply Kd.V_alloc | apply Kd.V_drewN | apply Kd.V_drew)); exact (Kd.V_mono (Kd.V_far (p := ⟨gb156, 5, none⟩) (Kd.V_mono HL157_2.out (fun k_ hk => (⟨hk, hk.1.2.2.2.2.1⟩ : _ ∧ k_ ≠ gb156))) (fun _ hk => hk.2) (.slice Ao39 y164.length co39)) (fun _ h_ => h_.1))) hb) (Kd.R_base ho0)) (Kd.R_base ho1)) (by first | exact Kd.N_base ho2 | exact Kd.R_base ho2)) (by first | exact Kd.N_base ho3 | exact Kd.R_base ho3)) (Kd.R_base ho4)) (fun _ h_ => h_.1)); have n3_ := Aside0.mk (Kd.V_mono (Kd.V_told (Kd.V_told (Kd.V_told (Kd.V_told (Kd.V_told (Kd.V_old (by (with_reducible repeat (first | apply Kd.V_alloc | apply Kd.V_drewN | apply Kd.V_drew)); exact (Kd.V_mono (Kd.V_far (p := ⟨gb156, 5, none⟩) (Kd.V_mono HL157_3.out (fun k_ hk => (⟨hk, hk.1.2.2.2.2.1⟩ : _ ∧ k_ ≠ gb156))) (fun _ hk => hk.2) (.slice Ao39 y164.length co39)) (fun _ h_ => h_.1))) hb) (Kd.R_base ho0)) (Kd.R_base ho1)) (by first | exact Kd.N_base ho2 | exact Kd.R_base ho2)) (by first | exact Kd.N_base ho3 | exact Kd.R_base ho3)) (Kd.R_base ho4)) (fun _ h_ => h_.1)); have n4_ := Aside0.mk (Kd.V_mono (Kd.V_told (Kd.V_told (Kd.V_told (Kd.V_told (Kd.V_told (Kd.V_old (by (with_reducible repeat (first | apply Kd.V_alloc | apply Kd.V_drewN | apply Kd.V_drew)); exact (Kd.V_mono (Kd.V_far (p := ⟨gb156, 5, none⟩) (Kd.V_mono HL157_4.out (fun k_ hk => (⟨hk, hk.1.2.2.2.2.1⟩ : _ ∧ k_ ≠ gb156))) (fun _ hk => hk.2) (.slice Ao39 y164.length co39)) (fun _ h_ => h_.1))) hb) (Kd.R_base ho0)) (Kd.R_base ho1)) (by first | exact Kd.N_base ho2 | exact Kd.R_base ho2)) (by first | exact Kd.N_base ho3 | exact Kd.R_base ho3)) (Kd.R_base ho4)) (fun _ h_ => h_.1)); have n5_ := Aside0.mk (Kd.V_mono (Kd.V_told (Kd.V_told (Kd.V_told (Kd.V_told (Kd.V_told (Kd.V_old (by (with_reducible repeat (first | apply Kd.V_alloc | apply Kd.V_drewN | apply Kd.V_drew)); exact (Kd.V_mono (Kd.V_far (p := ⟨gb156, 5, none⟩) (Kd.V_mono HL157_5.out (fun k_ hk => (⟨hk, hk.1.2.2.2.2.1⟩ : _ ∧ k_ ≠ gb156))) (fun _ hk => hk.2) (.slice Ao39 y164.length co39)) (fun _ h_ => h_.1))) hb) (Kd.R_base ho0)) (Kd.R_base ho1)) (by first | exact Kd.N_base ho2 | exact Kd.R_base ho2)) (by first | exact Kd.N_base ho3 | exact Kd.R_base ho3)) (Kd.R_base ho4)) (fun _ h_ => h_.1)); have n6_ := Aside0.mk (Kd.V_mono (Kd.V_told (Kd.V_told (Kd.V_told (Kd.V_told (Kd.V_told (Kd.V_old (by (with_reducible repeat (first | apply Kd.V_alloc | apply Kd.V_drewN | apply Kd.V_drew)); exact (Kd.V_mono (Kd.V_far (p := ⟨gb156, 5, none⟩) (Kd.V_mono HL157_6.out (fun k_ hk => (⟨hk, hk.1.2.2.2.2.1⟩ : _ ∧ k_ ≠ gb156))) (fun _ hk => hk.2) (.slice Ao39 y164.length co39)) (fun _ h_ => h_.1))) hb) (Kd.R_base ho0)) (Kd.R_base ho1)) (by first | exact Kd.N_base ho2 | exact Kd.R_base ho2)) (by first | exact Kd.N_base ho3 | exact Kd.R_base ho3)) (Kd.R_base ho4)) (fun _ h_ => h_.1)); have n7_ := Aside0.mk (Kd.N_mono (Kd.N_told (Kd.N_told (Kd.N_told (Kd.N_told (Kd.N_told (Kd.N_old (by (with_reducible repeat (first | apply Kd.N_alloc | apply Kd.N_drewN | apply Kd.N_drew)); exact (Kd.N_mono (Kd.N_far (p := ⟨gb156, 5, none⟩) (Kd.N_mono HO166.out (fun k_ hk => (⟨hk, hk.2.2.2.1⟩ : _ ∧ k_ ≠ gb156))) (fun _ hk => hk.2) (.slice Ao39 y164.length co39)) (fun _ h_ => h_.1))) hb) (Kd.R_base ho0)) (Kd.R_base ho1)) (by first | exact Kd.N_base ho2 | exact Kd.R_base ho2)) (by first | exact Kd.N_base ho3 | exact Kd.R_base ho3)) (Kd.R_base ho4)) (fun _ h_ => h_.1)); have n8_ := Aside0.mk (Kd.R_lower (Kd.R_newM (M := fun k_ => (w.heap.size ≤ k_)) ho0 (below_size (hb3_ HB.out GE154.out GE156.out GE158.out)) (fun k_ h_ => h_)) (below_size (hb3_ HB.out GE154.out GE156.out GE158.out))); have n9_ := Aside0.mk (Kd.R_lower (Kd.R_newM (M := fun k_ => (w.heap.size ≤ k_)) ho1 (below_size (hb3_ HB.out GE154.out GE156.out GE158.out)) (fun k_ h_ => h_)) (below_size (hb3_ HB.out GE154.out GE156.out GE158.out))); have n10_ := Aside0.mk (Kd.N_lower (Kd.N_mono (ok' := fun k_ => (P0_ k_ ∨ w.heap.size ≤ k_) ∧ some k_ ≠ (v171 : Value).ownBlock ∧ some k_ ≠ (v174 : Value).ownBlock ∧ some k_ ≠ (v180 : Value).ownBlock ∧ some k_ ≠ (v183 : Value).ownBlock ∧ some k_ ≠ (u10 : Value).ownBlock ∧ some k_ ≠ (.slice Ao39 y164.length co39 : Value).ownBlock ∧ k_ ≠ gb154 ∧ k_ ≠ gb156 ∧ k_ ≠ gb158) (Kd.R_N (Kd.R_bound (Kd.R_apart' (Kd.R_apart' (Kd.R_apart' (Kd.R_apart' ho2 (Kd.R_typed ho0) (by decide)) (Kd.R_typed ho1) (by decide)) (Kd.R_typed ho3) (by decide)) (Kd.R_typed ho4) (by decide)))) (fun k_ hk_ => ⟨(.inr (Nat.le_trans (below_size (hb3_ HB.out GE154.out GE156.out GE158.out)) hk_.2.1)), hk_.1.1.1.1.2, hk_.1.1.1.2, hk_.1.1.2, hk_.1.2, (Kd.fresh' (Kd.N_lt (by (with_reducible repeat (first | apply Kd.N_alloc | apply Kd.N_drewN | apply Kd.N_drew)); exact (Kd.N_mono (Kd.N_far (p := ⟨gb156, 5, none⟩) (Kd.N_mono HO_10.out (fun k_ hk => (⟨hk, hk.1.2.2.2.1⟩ : _ ∧ k_ ≠ gb156))) (fun _ hk => hk.2) (.slice Ao39 y164.length co39)) (fun _ h_ => h_.1)))) k_ hk_.2.1), (Kd.fresh' (Kd.N_lt (by (with_reducible repeat (first | apply Kd.N_alloc | apply Kd.N_drewN | apply Kd.N_drew)); exact (Kd.N_mono (Kd.N_far (p := ⟨gb156, 5, none⟩) (Kd.N_mono HO166.out (fun k_ hk => (⟨hk, hk.2.2.2.1⟩ : _ ∧ k_ ≠ gb156))) (fun _ hk => hk.2) (.slice Ao39 y164.length co39)) (fun _ h_ => h_.1)))) k_ hk_.2.1), (Kd.freshB (g := gb154) (o := .cells #[.int .i64 0, .int .i64 0, .slice none 0 0, .slice none 0 0, .slice none 0 0, .slice none 0 0, .slice none 0 0, .bool false] 31 (0, 0)) (bf1_ BK154.out NB154_156.out) k_ hk_.2.1), (Kd.freshB (g := gb156) (o := .cells #[.int .i64 x157000_2, .int .i64 x157001_2, .slice none 0 0, .slice none 0 0, .slice none 0 0, .slice Ao39 y164.length co39, .slice none 0 0, .bool false] 31 (0, 0)) (by (with_reducible repeat (first | refine blk_drewN ?_ _ | refine blk_drew ?_ | refine blk_alloc ?_ _)); refine blk_put (cs := #[.int .i64 x157000_2, .int .i64 x157001_2, .slice none 0 0, .slice none 0 0, .slice none 0 0, u157005, .slice none 0 0, .bool false]) ?_ 5 _ rfl; (with_reducible repeat (first | refine blk_drewN ?_ _ | refine blk_drew ?_ | refine blk_alloc ?_ _)); exact BK156.out) k_ hk_.2.1), (Kd.freshB (g := gb158) (o := .cells #[.int .i64 ((rd_T31 l0 x43_2).f0), .int .i64 ((rd_T31 l0 x43_2).f1), .slice A157_2 ((rd_T31 l0 x43_2).f2).length c157_2, .slice A157_3 ((rd_T31 l0 x43_2).f3).length c157_3, .slice A157_4 ((rd_T31 l0 x43_2).f4).length c157_4, .slice A157_5 ((rd_T31 l0 x43_2).f5).length c157_5, .slice A157_6 ((rd_T31 l0 x43_2).f6).length c157_6, .bool ((rd_T31 l0 x43_2).f7)] 31 (0, 0)) (bf1_ BK158.out NB158_156.out) k_ hk_.2.1)⟩)) (below_size (hb3_ HB.out GE154.out GE156.out GE158.out))); have n11_ := Aside0.mk (Kd.N_lower (Kd.N_mono (ok' := fun k_ => (P0_ k_ ∨ w.heap.size ≤ k_) ∧ some k_ ≠ (v171 : Value).ownBlock ∧ some k_ ≠ (v174 : Value).ownBlock ∧ some k_ ≠ (v177 : Value).ownBlock ∧ some k_ ≠ (v183 : Value).ownBlock ∧ some k_ ≠ (u10 : Value).ownBlock ∧ some k_ ≠ (.slice Ao39 y164.length co39 : Value).ownBlock ∧ k_ ≠ gb154 ∧ k_ ≠ gb156 ∧ k_ ≠ gb158) (Kd.R_N (Kd.R_bound (Kd.R_apart' ho3 (Kd.R_typed ho0) (by decide)))) (fun k_ hk_ => ⟨(.inr (Nat.le_trans (below_size (hb3_ HB.out GE154.out GE156.out GE158.out)) hk_.2.1)), hk_.1.2, hk_.1.1.1, hk_.1.1.2.1, hk_.1.1.2.2, (Kd.fresh' (Kd.N_lt (by (with_reducible repeat (first | apply Kd.N_alloc | apply Kd.N_drewN | apply Kd.N_drew)); exact (Kd.N_mono (Kd.N_far (p := ⟨gb156, 5, none⟩) (Kd.N_mono HO_10.out (fun k_ hk => (⟨hk, hk.1.2.2.2.1⟩ : _ ∧ k_ ≠ gb156))) (fun _ hk => hk.2) (.slice Ao39 y164.length co39)) (fun _ h_ => h_.1)))) k_ hk_.2.1), (Kd.fresh' (Kd.N_lt (by (with_reducible repeat (first | apply Kd.N_alloc | apply Kd.N_drewN | apply Kd.N_drew)); exact (Kd.N_mono (Kd.N_far (p := ⟨gb156, 5, none⟩) (Kd.N_mono HO166.out (fun k_ hk => (⟨hk, hk.2.2.2.1⟩ : _ ∧ k_ ≠ gb156))) (fun _ hk => hk.2) (.slice Ao39 y164.length co39)) (fun _ h_ => h_.1)))) k_ hk_.2.1), (Kd.freshB (g := gb154) (o := .cells #[.int .i64 0, .int .i64 0, .slice none 0 0, .slice none 0 0, .slice none 0 0, .slice none 0 0, .slice none 0 0, .bool false] 31 (0, 0)) (bf1_ BK154.out NB154_156.out) k_ hk_.2.1), (Kd.freshB (g := gb156) (o := .cells #[.int .i64 x157000_2, .int .i64 x157001_2, .slice none 0 0, .slice none 0 0, .slice none 0 0, .slice Ao39 y164.length co39, .slice none 0 0, .bool false] 31 (0, 0)) (by (with_reducible repeat (first | refine blk_drewN ?_ _ | refine blk_drew ?_ | refine blk_alloc ?_ _)); refine blk_put (cs := #[.int .i64 x157000_2, .int .i64 x157001_2, .slice none 0 0, .slice none 0 0, .slice none 0 0, u157005, .slice none 0 0, .bool false]) ?_ 5 _ rfl; (with_reducible repeat (first | refine blk_drewN ?_ _ | refine blk_drew ?_ | refine blk_alloc ?_ _)); exact BK156.out) k_ hk_.2.1), (Kd.freshB (g := gb158) (o := .cells #[.int .i64 ((rd_T31 l0 x43_2).f0), .int .i64 ((rd_T31 l0 x43_2).f1), .slice A157_2 ((rd_T31 l0 x43_2).f2).length c157_2, .slice A157_3 ((rd_T31 l0 x43_2).f3).length c157_3, .slice A157_4 ((rd_T31 l0 x43_2).f4).length c157_4, .slice A157_5 ((rd_T31 l0 x43_2).f5).length c157_5, .slice A157_6 ((rd_T31 l0 x43_2).f6).length c157_6, .bool ((rd_T31 l0 x43_2).f7)] 31 (0, 0)) (bf1_ BK158.out NB158_156.out) k_ hk_.2.1)⟩)) (below_size (hb3_ HB.out GE154.out GE156.out GE158.out))); have n12_ := Aside0.mk (Kd.R_lower (Kd.R_newM (M := fun k_ => (w.heap.size ≤ k_)) ho4 (below_size (hb3_ HB.out GE154.out GE156.out GE158.out)) (fun k_ h_ => h_)) (below_size (hb3_ HB.out GE154.out GE156.out GE158.out))); have n13_ := Aside0.mk (blk_below (g := gb154) (o := .cells #[.int .i64 0, .int .i64 0, .slice none 0 0, .slice none 0 0, .slice none 0 0, .slice none 0 0, .slice none 0 0, .bool false] 31 (0, 0)) (bf1_ BK154.out NB154_156.out) hb); have n14_ := Aside0.mk (blk_below (g := gb156) (o := .cells #[.int .i64 x157000_2, .int .i64 x157001_2, .slice none 0 0, .slice none 0 0, .slice none 0 0, .slice Ao39 y164.length co39, .slice none 0 0, .bool false] 31 (0, 0)) (by (with_reducible repeat (first | refine blk_drewN ?_ _ | refine blk_drew ?_ | refine blk_alloc ?_ _)); refine blk_put (cs := #[.int .i64 x157000_2, .int .i64 x157001_2, .slice none 0 0, .slice none 0 0, .slice none 0 0, u157005, .slice none 0 0, .bool false]) ?_ 5 _ rfl; (with_reducible repeat (first | refine blk_drewN ?_ _ | refine blk_drew ?_ | refine blk_alloc ?_ _)); exact BK156.out) hb); have n15_ := Aside0.mk (blk_below (g := gb158) (o := .cells #[.int .i64 ((rd_T31 l0 x43_2).f0), .int .i64 ((rd_T31 l0 x43_2).f1), .slice A157_2 ((rd_T31 l0 x43_2).f2).length c157_2, .slice A157_3 ((rd_T31 l0 x43_2).f3).length c157_3, .slice A157_4 ((rd_T31 l0 x43_2).f4).length c157_4, .slice A157_5 ((rd_T31 l0 x43_2).f5).length c157_5, .slice A157_6 ((rd_T31 l0 x43_2).f6).length c157_6, .bool ((rd_T31 l0 x43_2).f7)] 31 (0, 0)) (bf1_ BK158.out NB158_156.out) hb); have n16_ := Aside0.mk (below_step (hb3_ HB.out GE154.out GE156.out GE158.out) hb); clear HO_10 HO_41 HL157_2 HL157_3 HL157_4 HL157_5 HL157_6 HO166 BK154 BK156 BK158 HB; revert n0_ n1_ n2_ n3_ n4_ n5_ n6_ n7_ n8_ n9_ n10_ n11_ n12_ n13_ n14_ n15_ n16_; intro HO_10 HO_41 HL157_2 HL157_3 HL157_4 HL157_5 HL157_6 HO166 HO172 HO175 HO178 HO181 HO184 BK154 BK156 BK158 HB; (try clear hb); (try clear hb2); (try clear hk); (try clear hi); (try clear ho0); (try clear ho1); (try clear ho2); (try clear ho3); (try clear ho4); obtain ⟨hcz42_0, hcz42_1, hcz42_2, hcz42_3, hcz42_4, hcz42_5, hcz42_6, hcz42_7, hfz42_0, hfz42_1, hfz42_2, hfz42_3, hfz42_4, hfz42_5, hfz42_6, hfz42_7⟩ := bx8_ BK158.out; obtain ⟨Ao43, co43, eo43⟩ := Kd.R_slice HO172.out; subst eo43; obtain ⟨Ao44, co44, eo44⟩ := Kd.R_slice HO175.out; subst eo44; obtain ⟨Ao45, co45, eo45⟩ := Kd.N_slice HO178.out; subst eo45; obtain ⟨Ao46, co46, eo46⟩ := Kd.N_slice HO181.out; subst eo46; obtain ⟨Ao47, co47, eo47⟩ := Kd.R_slice HO184.out; subst eo47) | ((with_reducible refine gate_store (t := 31) (p := 12) rfl ?_); refine store_event (t := 31) (p := 12) (v := ?vo_w48) (w1 := ((((((((w41.setCell ⟨gb158, 0, none⟩ (.int .i64 t168)).setCell ⟨gb158, 1, none⟩ (.int .i64 t169)).setCell ⟨gb158, 2, none⟩ (.slice Ao43 t170.length co43)).setCell ⟨gb158, 3, none⟩ (.slice Ao44 t173.length co44)).setCell ⟨gb158, 4, none⟩ (.slice Ao45 t176.length co45)).setCell ⟨gb158, 5, none⟩ (.slice Ao46 t179.length co46)).setCell ⟨gb158, 6, none⟩ (.slice Ao47 t182.length co47)).setCell ⟨gb158, 7, none⟩ (.bool t185))) ?hg ?ho ?hn ?hr ?_; (case ho => rfl); (case hg => rfl); (case hn => rfl); (case hr => first | (go_simp; done) | (go_simp; rfl)); intro w48 hw; have n0_ : Aside0 (Kd.N k31 31 w48 w.heap.size (fun k_ => (P0_ k_ ∨ w.heap.size ≤ k_) ∧ some k_ ≠ (.slice Ao39 y164.length co39 : Value).ownBlock ∧ some k_ ≠ (.slice Ao43 t170.length co43 : Value).ownBlock ∧ some k_ ≠ (.slice Ao44 t173.length co44 : Value).ownBlock ∧ some k_ ≠ (.slice Ao45 t176.length co45 : Value).ownBlock ∧ some k_ ≠ (.slice Ao46 t179.length co46 : Value).ownBlock ∧ some k_ ≠ (.slice Ao47 t182.length co47 : Value).ownBlock ∧ k_ ≠ gb154 ∧ k_ ≠ gb156 ∧ k_ ≠ gb158) u10 x10_2) := ⟨(by rw [hw]; exact (by (with_reducible repeat (first | apply Kd.N_alloc | apply Kd.N_drewN | apply Kd.N_drew)); exact Kd.N_mono (Kd.N_far (p := ⟨gb158, 7, none⟩) (Kd.N_far (p := ⟨gb158, 6, none⟩) (Kd.N_far (p := ⟨gb158, 5, none⟩) (Kd.N_far (p := ⟨gb158, 4, none⟩) (Kd.N_far (p := ⟨gb158, 3, none⟩) (Kd.N_far (p := ⟨gb158, 2, none⟩) (Kd.N_far (p := ⟨gb158, 1, none⟩) (Kd.N_far (p := ⟨gb158, 0, none⟩) (Kd.N_mono HO_10.out (fun k_ hk => (⟨hk, hk.1.1.1.1.1.1.2.2.2.2⟩ : _ ∧ k_ ≠ gb158))) (fun _ hk => hk.2) (.int .i64 t168)) (fun _ hk => hk.2) (.int .i64 t169)) (fun _ hk => hk.2) (.slice Ao43 t170.length co43)) (fun _ hk => hk.2) (.slice Ao44 t173.length co44)) (fun _ hk => hk.2) (.slice Ao45 t176.length co45)) (fun _ hk => hk.2) (.slice Ao46 t179.length co46)) (fun _ hk => hk.2) (.slice Ao47 t182.length co47)) (fun _ hk => hk.2) (.bool t185)) (fun _ hk => ⟨hk.1.1.1.1.1.1.1.1, ⟨hk.1.1.1.1.1.1.2, ⟨hk.1.1.1.1.1.2, ⟨hk.1.1.1.1.2, ⟨hk.1.1.1.2, ⟨hk.1.1.2, ⟨hk.1.2, ⟨hk.1.1.1.1.1.1.1.2.2.1, ⟨hk.1.1.1.1.1.1.1.2.2.2.1, hk.1.1.1.1.1.1.1.2.2.2.2⟩⟩⟩⟩⟩⟩⟩⟩⟩)))⟩; have n1_ : Aside0 (Kd.V k31 31 w48 w.heap.size (fun k_ => (P0_ k_ ∨ w.heap.size ≤ k_) ∧ some k_ ≠ (u10 : Value).ownBlock ∧ some k_ ≠ (.slice Ao39 y164.length co39 : Value).ownBlock ∧ some k_ ≠ (.slice Ao43 t170.length co43 : Value).ownBlock ∧ some k_ ≠ (.slice Ao44 t173.length co44 : Value).ownBlock ∧ some k_ ≠ (.slice Ao45 t176.length co45 : Value).ownBlock ∧ some k_ ≠ (.slice Ao46 t179.length co46 : Value).ownBlock ∧ some k_ ≠ (.slice Ao47 t182.length co47 : Value).ownBlock ∧ k_ ≠ gb154 ∧ k_ ≠ gb156 ∧ k_ ≠ gb158) (.slice (some ad157) l0.length c0) l0) := ⟨(by rw [hw]; exact (by (with_reducible repeat (first | apply Kd.V_alloc | apply Kd.V_drewN | apply Kd.V_drew)); exact Kd.V_mono (Kd.V_far (p := ⟨gb158, 7, none⟩) (Kd.V_far (p := ⟨gb158, 6, none⟩) (Kd.V_far (p := ⟨gb158, 5, none⟩) (Kd.V_far (p := ⟨gb158, 4, none⟩) (Kd.V_far (p := ⟨gb158, 3, none⟩) (Kd.V_far (p := ⟨gb158, 2, none⟩) (Kd.V_far (p := ⟨gb158, 1, none⟩) (Kd.V_far (p := ⟨gb158, 0, none⟩) (Kd.V_mono HO_41.out (fun k_ hk => (⟨hk, hk.1.1.1.1.1.1.2.2.2.2.2⟩ : _ ∧ k_ ≠ gb158))) (fun _ hk => hk.2) (.int .i64 t168)) (fun _ hk => hk.2) (.int .i64 t169)) (fun _ hk => hk.2) (.slice Ao43 t170.length co43)) (fun _ hk => hk.2) (.slice Ao44 t173.length co44)) (fun _ hk => hk.2) (.slice Ao45 t176.length co45)) (fun _ hk => hk.2) (.slice Ao46 t179.length co46)) (fun _ hk => hk.2) (.slice Ao47 t182.length co47)) (fun _ hk => hk.2) (.bool t185)) (fun _ hk => ⟨hk.1.1.1.1.1.1.1.1, ⟨hk.1.1.1.1.1.1.1.2.1, ⟨hk.1.1.1.1.1.1.2, ⟨hk.1.1.1.1.1.2, ⟨hk.1.1.1.1.2, ⟨hk.1.1.1.2, ⟨hk.1.1.2, ⟨hk.1.2, ⟨hk.1.1.1.1.1.1.1.2.2.2.1, ⟨hk.1.1.1.1.1.1.1.2.2.2.2.1, hk.1.1.1.1.1.1.1.2.2.2.2.2⟩⟩⟩⟩⟩⟩⟩⟩⟩⟩)))⟩; have n2_ : Aside0 (Kd.V (Kd.int .u8) 5 w48 w.heap.size (fun k_ => (P0_ k_ ∨ w.heap.size ≤ k_) ∧ some k_ ≠ (u10 : Value).ownBlock ∧ some k_ ≠ (.slice Ao39 y164.length co39 : Value).ownBlock ∧ some k_ ≠ (.slice Ao43 t170.length co43 : Value).ownBlock ∧ some k_ ≠ (.slice Ao44 t173.length co44 : Value).ownBlock ∧ some k_ ≠ (.slice Ao45 t176.length co45 : Value).ownBlock ∧ some k_ ≠ (.slice Ao46 t179.length co46 : Value).ownBlock ∧ some k_ ≠ (.slice Ao47 t182.length co47 : Value).ownBlock ∧ k_ ≠ gb154 ∧ k_ ≠ gb156 ∧ k_ ≠ gb158) (.slice A157_2 ((rd_T31 l0 x43_2).f2).length c157_2) ((rd_T31 l0 x43_2).f2)) := ⟨(by rw [hw]; exact (by (with_reducible repeat (first | apply Kd.V_alloc | apply Kd.V_drewN | apply Kd.V_drew)); exact Kd.V_mono (Kd.V_far (p := ⟨gb158, 7, none⟩) (Kd.V_far (p := ⟨gb158, 6, none⟩) (Kd.V_far (p := ⟨gb158, 5, none⟩) (Kd.V_far (p := ⟨gb158, 4, none⟩) (Kd.V_far (p := ⟨gb158, 3, none⟩) (Kd.V_far (p := ⟨gb158, 2, none⟩) (Kd.V_far (p := ⟨gb158, 1, none⟩) (Kd.V_far (p := ⟨gb158, 0, none⟩) (Kd.V_mono HL157_2.out (fun k_ hk => (⟨hk, hk.1.1.1.1.1.1.2.2.2.2.2⟩ : _ ∧ k_ ≠ gb158))) (fun _ hk => hk.2) (.int .i64 t168)) (fun _ hk => hk.2) (.int .i64 t169)) (fun _ hk => hk.2) (.slice Ao43 t170.length co43)) (fun _ hk => hk.2) (.slice Ao44 t173.length co44)) (fun _ hk => hk.2) (.slice Ao45 t176.length co45)) (fun _ hk => hk.2) (.slice Ao46 t179.length co46)) (fun _ hk => hk.2) (.slice Ao47 t182.length co47)) (fun _ hk => hk.2) (.bool t185)) (fun _ hk => ⟨hk.1.1.1.1.1.1.1.1, ⟨hk.1.1.1.1.1.1.1.2.1, ⟨hk.1.1.1.1.1.1.2, ⟨hk.1.1.1.1.1.2, ⟨hk.1.1.1.1.2, ⟨hk.1.1.1.2, ⟨hk.1.1.2, ⟨hk.1.2, ⟨hk.1.1.1.1.1.1.1.2.2.2.1, ⟨hk.1.1.1.1.1.1.1.2.2.2.2.1, hk.1.1.1.1.1.1.1.2.2.2.2.2⟩⟩⟩⟩⟩⟩⟩⟩⟩⟩)))⟩; have n3_ : Aside0 (Kd.V (Kd.int .i64) 3 w48 w.heap.size (fun k_ => (P0_ k_ ∨ w.heap.size ≤ k_) ∧ some k_ ≠ (u10 : Value).ownBlock ∧ some k_ ≠ (.slice Ao39 y164.length co39 : Value).ownBlock ∧ some k_ ≠ (.slice Ao43 t170.length co43 : Value).ownBlock ∧ some k_ ≠ (.slice Ao44 t173.length co44 : Value).ownBlock ∧ some k_ ≠ (.slice Ao45 t176.length co45 : Value).ownBlock ∧ some k_ ≠ (.slice Ao46 t179.length co46 : Value).ownBlock ∧ some k_ ≠ (.slice Ao47 t182.length co47 : Value).ownBlock ∧ k_ ≠ gb154 ∧ k_ ≠ gb156 ∧ k_ ≠ gb158) (.slice A157_3 ((rd_T31 l0 x43_2).f3).length c157_3) ((rd_T31 l0 x43_2).f3)) := ⟨(by rw [hw]; exact (by (with_reducible repeat (first | apply Kd.V_alloc | apply Kd.V_drewN | apply Kd.V_drew)); exact Kd.V_mono (Kd.V_far (p := ⟨gb158, 7, none⟩) (Kd.V_far (p := ⟨gb158, 6, none⟩) (Kd.V_far (p := ⟨gb158, 5, none⟩) (Kd.V_far (p := ⟨gb158, 4, none⟩) (Kd.V_far (p := ⟨gb158, 3, none⟩) (Kd.V_far (p := ⟨gb158, 2, none⟩) (Kd.V_far (p := ⟨gb158, 1, none⟩) (Kd.V_far (p := ⟨gb158, 0, none⟩) (Kd.V_mono HL157_3.out (fun k_ hk => (⟨hk, hk.1.1.1.1.1.1.2.2.2.2.2⟩ : _ ∧ k_ ≠ gb158))) (fun _ hk => hk.2) (.int .i64 t168)) (fun _ hk => hk.2) (.int .i64 t169)) (fun _ hk => hk.2) (.slice Ao43 t170.length co43)) (fun _ hk => hk.2) (.slice Ao44 t173.length co44)) (fun _ hk => hk.2) (.slice Ao45 t176.length co45)) (fun _ hk => hk.2) (.slice Ao46 t179.length co46)) (fun _ hk => hk.2) (.slice Ao47 t182.length co47)) (fun _ hk => hk.2) (.bool t185)) (fun _ hk => ⟨hk.1.1.1.1.1.1.1.1, ⟨hk.1.1.1.1.1.1.1.2.1, ⟨hk.1.1.1.1.1.1.2, ⟨hk.1.1.1.1.1.2, ⟨hk.1.1.1.1.2, ⟨hk.1.1.1.2, ⟨hk.1.1.2, ⟨hk.1.2, ⟨hk.1.1.1.1.1.1.1.2.2.2.1, ⟨hk.1.1.1.1.1.1.1.2.2.2.2.1, hk.1.1.1.1.1.1.1.2.2.2.2.2⟩⟩⟩⟩⟩⟩⟩⟩⟩⟩)))⟩; have n4_ : Aside0 (Kd.V k101 101 w48 w.heap.size (fun k_ => (P0_ k_ ∨ w.heap.size ≤ k_) ∧ some k_ ≠ (u10 : Value).ownBlock ∧ some k_ ≠ (.slice Ao39 y164.length co39 : Value).ownBlock ∧ some k_ ≠ (.slice Ao43 t170.length co43 : Value).ownBlock ∧ some k_ ≠ (.slice Ao44 t173.length co44 : Value).ownBlock ∧ some k_ ≠ (.slice Ao45 t176.length co45 : Value).ownBlock ∧ some k_ ≠ (.slice Ao46 t179.length co46 : Value).ownBlock ∧ some k_ ≠ (.slice Ao47 t182.length co47 : Value).ownBlock ∧ k_ ≠ gb154 ∧ k_ ≠ gb156 ∧ k_ ≠ gb158) (.slice A157_4 ((rd_T31 l0 x43_2).f4).length c157_4) ((rd_T31 l0 x43_2).f4)) := ⟨(by rw [hw]; exact (by (with_reducible repeat (first | apply Kd.V_alloc | apply Kd.V_drewN | apply Kd.V_drew)); exact Kd.V_mono (Kd.V_far (p := ⟨gb158, 7, none⟩) (Kd.V_far (p := ⟨gb158, 6, none⟩) (Kd.V_far (p := ⟨gb158, 5, none⟩) (Kd.V_far (p := ⟨gb158, 4, none⟩) (Kd.V_far (p := ⟨gb158, 3, none⟩) (Kd.V_far (p := ⟨gb158, 2, none⟩) (Kd.V_far (p := ⟨gb158, 1, none⟩) (Kd.V_far (p := ⟨gb158, 0, none⟩) (Kd.V_mono HL157_4.out (fun k_ hk => (⟨hk, hk.1.1.1.1.1.1.2.2.2.2.2⟩ : _ ∧ k_ ≠ gb158))) (fun _ hk => hk.2) (.int .i64 t168)) (fun _ hk => hk.2) (.int .i64 t169)) (fun _ hk => hk.2) (.slice Ao43 t170.length co43)) (fun _ hk => hk.2) (.slice Ao44 t173.length co44)) (fun _ hk => hk.2) (.slice Ao45 t176.length co45)) (fun _ hk => hk.2) (.slice Ao46 t179.length co46)) (fun _ hk => hk.2) (.slice Ao47 t182.length co47)) (fun _ hk => hk.2) (.bool t185)) (fun _ hk => ⟨hk.1.1.1.1.1.1.1.1, ⟨hk.1.1.1.1.1.1.1.2.1, ⟨hk.1.1.1.1.1.1.2, ⟨hk.1.1.1.1.1.2, ⟨hk.1.1.1.1.2, ⟨hk.1.1.1.2, ⟨hk.1.1.2, ⟨hk.1.2, ⟨hk.1.1.1.1.1.1.1.2.2.2.1, ⟨hk.1.1.1.1.1.1.1.2.2.2.2.1, hk.1.1.1.1.1.1.1.2.2.2.2.2⟩⟩⟩⟩⟩⟩⟩⟩⟩⟩)))⟩; have n5_ : Aside0 (Kd.V k79 79 w48 w.heap.size (fun k_ => (P0_ k_ ∨ w.heap.size ≤ k_) ∧ some k_ ≠ (u10 : Value).ownBlock ∧ some k_ ≠ (.slice Ao39 y164.length co39 : Value).ownBlock ∧ some k_ ≠ (.slice Ao43 t170.length co43 : Value).ownBlock ∧ some k_ ≠ (.slice Ao44 t173.length co44 : Value).ownBlock ∧ some k_ ≠ (.slice Ao45 t176.length co45 : Value).ownBlock ∧ some k_ ≠ (.slice Ao46 t179.length co46 : Value).ownBlock ∧ some k_ ≠ (.slice Ao47 t182.length co47 : Value).ownBlock ∧ k_ ≠ gb154 ∧ k_ ≠ gb156 ∧ k_ ≠ gb158) (.slice A157_5 ((rd_T31 l0 x43_2).f5).length c157_5) ((rd_T31 l0 x43_2).f5)) := ⟨(by rw [hw]; exact (by (with_reducible repeat (first | apply Kd.V_alloc | apply Kd.V_drewN | apply Kd.V_drew)); exact Kd.V_mono (Kd.V_far (p := ⟨gb158, 7, none⟩) (Kd.V_far (p := ⟨gb158, 6, none⟩) (Kd.V_far (p := ⟨gb158, 5, none⟩) (Kd.V_far (p := ⟨gb158, 4, none⟩) (Kd.V_far (p := ⟨gb158, 3, none⟩) (Kd.V_far (p := ⟨gb158, 2, none⟩) (Kd.V_far (p := ⟨gb158, 1, none⟩) (Kd.V_far (p := ⟨gb158, 0, none⟩) (Kd.V_mono HL157_5.out (fun k_ hk => (⟨hk, hk.1.1.1.1.1.1.2.2.2.2.2⟩ : _ ∧ k_ ≠ gb158))) (fun _ hk => hk.2) (.int .i64 t168)) (fun _ hk => hk.2) (.int .i64 t169)) (fun _ hk => hk.2) (.slice Ao43 t170.length co43)) (fun _ hk => hk.2) (.slice Ao44 t173.length co44)) (fun _ hk => hk.2) (.slice Ao45 t176.length co45)) (fun _ hk => hk.2) (.slice Ao46 t179.length co46)) (fun _ hk => hk.2) (.slice Ao47 t182.length co47)) (fun _ hk => hk.2) (.bool t185)) (fun _ hk => ⟨hk.1.1.1.1.1.1.1.1, ⟨hk.1.1.1.1.1.1.1.2.1, ⟨hk.1.1.1.1.1.1.2, ⟨hk.1.1.1.1.1.2, ⟨hk.1.1.1.1.2, ⟨hk.1.1.1.2, ⟨hk.1.1.2, ⟨hk.1.2, ⟨hk.1.1.1.1.1.1.1.2.2.2.1, ⟨hk.1.1.1.1.1.1.1.2.2.2.2.1, hk.1.1.1.1.1.1.1.2.2.2.2.2⟩⟩⟩⟩⟩⟩⟩⟩⟩⟩)))⟩; have n6_ : Aside0 (Kd.V (Kd.int .i64) 3 w48 w.heap.size (fun k_ => (P0_ k_ ∨ w.heap.size ≤ k_) ∧ some k_ ≠ (u10 : Value).ownBlock ∧ some k_ ≠ (.slice Ao39 y164.length co39 : Value).ownBlock ∧ some k_ ≠ (.slice Ao43 t170.length co43 : Value).ownBlock ∧ some k_ ≠ (.slice Ao44 t173.length co44 : Value).ownBlock ∧ some k_ ≠ (.slice Ao45 t176.length co45 : Value).ownBlock ∧ some k_ ≠ (.slice Ao46 t179.length co46 : Value).ownBlock ∧ some k_ ≠ (.slice Ao47 t182.length co47 : Value).ownBlock ∧ k_ ≠ gb154 ∧ k_ ≠ gb156 ∧ k_ ≠ gb158) (.slice A157_6 ((rd_T31 l0 x43_2).f6).length c157_6) ((rd_T31 l0 x43_2).f6)) := ⟨(by rw [hw]; exact (by (with_reducible repeat (first | apply Kd.V_alloc | apply Kd.V_drewN | apply Kd.V_drew)); exact Kd.V_mono (Kd.V_far (p := ⟨gb158, 7, none⟩) (Kd.V_far (p := ⟨gb158, 6, none⟩) (Kd.V_far (p := ⟨gb158, 5, none⟩) (Kd.V_far (p := ⟨gb158, 4, none⟩) (Kd.V_far (p := ⟨gb158, 3, none⟩) (Kd.V_far (p := ⟨gb158, 2, none⟩) (Kd.V_far (p := ⟨gb158, 1, none⟩) (Kd.V_far (p := ⟨gb158, 0, none⟩) (Kd.V_mono HL157_6.out (fun k_ hk => (⟨hk, hk.1.1.1.1.1.1.2.2.2.2.2⟩ : _ ∧ k_ ≠ gb158))) (fun _ hk => hk.2) (.int .i64 t168)) (fun _ hk => hk.2) (.int .i64 t169)) (fun _ hk => hk.2) (.slice Ao43 t170.length co43)) (fun _ hk => hk.2) (.slice Ao44 t173.length co44)) (fun _ hk => hk.2) (.slice Ao45 t176.length co45)) (fun _ hk => hk.2) (.slice Ao46 t179.length co46)) (fun _ hk => hk.2) (.slice Ao47 t182.length co47)) (fun _ hk => hk.2) (.bool t185)) (fun _ hk => ⟨hk.1.1.1.1.1.1.1.1, ⟨hk.1.1.1.1.1.1.1.2.1, ⟨hk.1.1.1.1.1.1.2, ⟨hk.1.1.1.1.1.2, ⟨hk.1.1.1.1.2, ⟨hk.1.1.1.2, ⟨hk.1.1.2, ⟨hk.1.2, ⟨hk.1.1.1.1.1.1.1.2.2.2.1, ⟨hk.1.1.1.1.1.1.1.2.2.2.2.1, hk.1.1.1.1.1.1.1.2.2.2.2.2⟩⟩⟩⟩⟩⟩⟩⟩⟩⟩)))⟩; have n7_ : Aside0 (Kd.N k79 79 w48 w.heap.size (fun k_ => (P0_ k_ ∨ w.heap.size ≤ k_) ∧ some k_ ≠ (u10 : Value).ownBlock ∧ some k_ ≠ (.slice Ao43 t170.length co43 : Value).ownBlock ∧ some k_ ≠ (.slice Ao44 t173.length co44 : Value).ownBlock ∧ some k_ ≠ (.slice Ao45 t176.length co45 : Value).ownBlock ∧ some k_ ≠ (.slice Ao46 t179.length co46 : Value).ownBlock ∧ some k_ ≠ (.slice Ao47 t182.length co47 : Value).ownBlock ∧ k_ ≠ gb154 ∧ k_ ≠ gb156 ∧ k_ ≠ gb158) (.slice Ao39 y164.length co39) y164) := ⟨(by rw [hw]; exact (by (with_reducible repeat (first | apply Kd.N_alloc | apply Kd.N_drewN | apply Kd.N_drew)); exact Kd.N_mono (Kd.N_far (p := ⟨gb158, 7, none⟩) (Kd.N_far (p := ⟨gb158, 6, none⟩) (Kd.N_far (p := ⟨gb158, 5, none⟩) (Kd.N_far (p := ⟨gb158, 4, none⟩) (Kd.N_far (p := ⟨gb158, 3, none⟩) (Kd.N_far (p := ⟨gb158, 2, none⟩) (Kd.N_far (p := ⟨gb158, 1, none⟩) (Kd.N_far (p := ⟨gb158, 0, none⟩) (Kd.N_mono HO166.out (fun k_ hk => (⟨hk, hk.1.1.1.1.1.2.2.2.2⟩ : _ ∧ k_ ≠ gb158))) (fun _ hk => hk.2) (.int .i64 t168)) (fun _ hk => hk.2) (.int .i64 t169)) (fun _ hk => hk.2) (.slice Ao43 t170.length co43)) (fun _ hk => hk.2) (.slice Ao44 t173.length co44)) (fun _ hk => hk.2) (.slice Ao45 t176.length co45)) (fun _ hk => hk.2) (.slice Ao46 t179.length co46)) (fun _ hk => hk.2) (.slice Ao47 t182.length co47)) (fun _ hk => hk.2) (.bool t185)) (fun _ hk => ⟨hk.1.1.1.1.1.1.1, ⟨hk.1.1.1.1.1.1.2.1, ⟨hk.1.1.1.1.1.2, ⟨hk.1.1.1.1.2, ⟨hk.1.1.1.2, ⟨hk.1.1.2, ⟨hk.1.2, ⟨hk.1.1.1.1.1.1.2.2.1, ⟨hk.1.1.1.1.1.1.2.2.2.1, hk.1.1.1.1.1.1.2.2.2.2⟩⟩⟩⟩⟩⟩⟩⟩⟩)))⟩; have n8_ : Aside0 (Kd.R (Kd.int .u8) 5 w48 w.heap.size (fun k_ => (w.heap.size ≤ k_)) (.slice Ao43 t170.length co43) t170) := ⟨(by rw [hw]; exact (by (with_reducible repeat (first | apply Kd.R_alloc | apply Kd.R_drewN | apply Kd.R_drew)); exact Kd.R_mono (Kd.R_far (p := ⟨gb158, 7, none⟩) (Kd.R_far (p := ⟨gb158, 6, none⟩) (Kd.R_far (p := ⟨gb158, 5, none⟩) (Kd.R_far (p := ⟨gb158, 4, none⟩) (Kd.R_far (p := ⟨gb158, 3, none⟩) (Kd.R_far (p := ⟨gb158, 2, none⟩) (Kd.R_far (p := ⟨gb158, 1, none⟩) (Kd.R_far (p := ⟨gb158, 0, none⟩) (Kd.R_types HO172.out BK158.out (by decide)) (fun _ hk => hk.2) (.int .i64 t168)) (fun _ hk => hk.2) (.int .i64 t169)) (fun _ hk => hk.2) (.slice Ao43 t170.length co43)) (fun _ hk => hk.2) (.slice Ao44 t173.length co44)) (fun _ hk => hk.2) (.slice Ao45 t176.length co45)) (fun _ hk => hk.2) (.slice Ao46 t179.length co46)) (fun _ hk => hk.2) (.slice Ao47 t182.length co47)) (fun _ hk => hk.2) (.bool t185)) (fun _ hk => hk.1.1)))⟩; have n9_ : Aside0 (Kd.R (Kd.int .i64) 3 w48 w.heap.size (fun k_ => (w.heap.size ≤ k_) ∧ some k_ ≠ (.slice Ao47 t182.length co47 : Value).ownBlock) (.slice Ao44 t173.length co44) t173) := ⟨(by rw [hw]; exact (by (with_reducible repeat (first | apply Kd.R_alloc | apply Kd.R_drewN | apply Kd.R_drew)); exact Kd.R_mono (Kd.R_far (p := ⟨gb158, 7, none⟩) (Kd.R_far (p := ⟨gb158, 6, none⟩) (Kd.R_far (p := ⟨gb158, 5, none⟩) (Kd.R_far (p := ⟨gb158, 4, none⟩) (Kd.R_far (p := ⟨gb158, 3, none⟩) (Kd.R_far (p := ⟨gb158, 2, none⟩) (Kd.R_far (p := ⟨gb158, 1, none⟩) (Kd.R_far (p := ⟨gb158, 0, none⟩) (Kd.R_types HO175.out BK158.out (by decide)) (fun _ hk => hk.2) (.int .i64 t168)) (fun _ hk => hk.2) (.int .i64 t169)) (fun _ hk => hk.2) (.slice Ao43 t170.length co43)) (fun _ hk => hk.2) (.slice Ao44 t173.length co44)) (fun _ hk => hk.2) (.slice Ao45 t176.length co45)) (fun _ hk => hk.2) (.slice Ao46 t179.length co46)) (fun _ hk => hk.2) (.slice Ao47 t182.length co47)) (fun _ hk => hk.2) (.bool t185)) (fun _ hk => ⟨hk.1.1, hk.1.2⟩)))⟩; have n10_ : Aside0 (Kd.N k101 101 w48 w.heap.size (fun k_ => (P0_ k_ ∨ w.heap.size ≤ k_) ∧ some k_ ≠ (u10 : Value).ownBlock ∧ some k_ ≠ (.slice Ao39 y164.length co39 : Value).ownBlock ∧ some k_ ≠ (.slice Ao43 t170.length co43 : Value).ownBlock ∧ some k_ ≠ (.slice Ao44 t173.length co44 : Value).ownBlock ∧ some k_ ≠ (.slice Ao46 t179.length co46 : Value).ownBlock ∧ some k_ ≠ (.slice Ao47 t182.length co47 : Value).ownBlock ∧ k_ ≠ gb154 ∧ k_ ≠ gb156 ∧ k_ ≠ gb158) (.slice Ao45 t176.length co45) t176) := ⟨(by rw [hw]; exact (by (with_reducible repeat (first | apply Kd.N_alloc | apply Kd.N_drewN | apply Kd.N_drew)); exact Kd.N_mono (Kd.N_far (p := ⟨gb158, 7, none⟩) (Kd.N_far (p := ⟨gb158, 6, none⟩) (Kd.N_far (p := ⟨gb158, 5, none⟩) (Kd.N_far (p := ⟨gb158, 4, none⟩) (Kd.N_far (p := ⟨gb158, 3, none⟩) (Kd.N_far (p := ⟨gb158, 2, none⟩) (Kd.N_far (p := ⟨gb158, 1, none⟩) (Kd.N_far (p := ⟨gb158, 0, none⟩) (Kd.N_mono HO178.out (fun k_ hk => (⟨hk, hk.2.2.2.2.2.2.2.2.2⟩ : _ ∧ k_ ≠ gb158))) (fun _ hk => hk.2) (.int .i64 t168)) (fun _ hk => hk.2) (.int .i64 t169)) (fun _ hk => hk.2) (.slice Ao43 t170.length co43)) (fun _ hk => hk.2) (.slice Ao44 t173.length co44)) (fun _ hk => hk.2) (.slice Ao45 t176.length co45)) (fun _ hk => hk.2) (.slice Ao46 t179.length co46)) (fun _ hk => hk.2) (.slice Ao47 t182.length co47)) (fun _ hk => hk.2) (.bool t185)) (fun _ hk => ⟨hk.1.1, ⟨hk.1.2.2.2.2.2.1, ⟨hk.1.2.2.2.2.2.2.1, ⟨hk.1.2.1, ⟨hk.1.2.2.1, ⟨hk.1.2.2.2.1, ⟨hk.1.2.2.2.2.1, ⟨hk.1.2.2.2.2.2.2.2.1, ⟨hk.1.2.2.2.2.2.2.2.2.1, hk.1.2.2.2.2.2.2.2.2.2⟩⟩⟩⟩⟩⟩⟩⟩⟩)))⟩; have n11_ : Aside0 (Kd.N k79 79 w48 w.heap.size (fun k_ => (P0_ k_ ∨ w.heap.size ≤ k_) ∧ some k_ ≠ (u10 : Value).ownBlock ∧ some k_ ≠ (.slice Ao39 y164.length co39 : Value).ownBlock ∧ some k_ ≠ (.slice Ao43 t170.length co43 : Value).ownBlock ∧ some k_ ≠ (.slice Ao44 t173.length co44 : Value).ownBlock ∧ some k_ ≠ (.slice Ao45 t176.length co45 : Value).ownBlock ∧ some k_ ≠ (.slice Ao47 t182.length co47 : Value).ownBlock ∧ k_ ≠ gb154 ∧ k_ ≠ gb156 ∧ k_ ≠ gb158) (.slice Ao46 t179.length co46) t179) := ⟨(by rw [hw]; exact (by (with_reducible repeat (first | apply Kd.N_alloc | apply Kd.N_drewN | apply Kd.N_drew)); exact Kd.N_mono (Kd.N_far (p := ⟨gb158, 7, none⟩) (Kd.N_far (p := ⟨gb158, 6, none⟩) (Kd.N_far (p := ⟨gb158, 5, none⟩) (Kd.N_far (p := ⟨gb158, 4, none⟩) (Kd.N_far (p := ⟨gb158, 3, none⟩) (Kd.N_far (p := ⟨gb158, 2, none⟩) (Kd.N_far (p := ⟨gb158, 1, none⟩) (Kd.N_far (p := ⟨gb158, 0, none⟩) (Kd.N_mono HO181.out (fun k_ hk => (⟨hk, hk.2.2.2.2.2.2.2.2.2⟩ : _ ∧ k_ ≠ gb158))) (fun _ hk => hk.2) (.int .i64 t168)) (fun _ hk => hk.2) (.int .i64 t169)) (fun _ hk => hk.2) (.slice Ao43 t170.length co43)) (fun _ hk => hk.2) (.slice Ao44 t173.length co44)) (fun _ hk => hk.2) (.slice Ao45 t176.length co45)) (fun _ hk => hk.2) (.slice Ao46 t179.length co46)) (fun _ hk => hk.2) (.slice Ao47 t182.length co47)) (fun _ hk => hk.2) (.bool t185)) (fun _ hk => ⟨hk.1.1, ⟨hk.1.2.2.2.2.2.1, ⟨hk.1.2.2.2.2.2.2.1, ⟨hk.1.2.1, ⟨hk.1.2.2.1, ⟨hk.1.2.2.2.1, ⟨hk.1.2.2.2.2.1, ⟨hk.1.2.2.2.2.2.2.2.1, ⟨hk.1.2.2.2.2.2.2.2.2.1, hk.1.2.2.2.2.2.2.2.2.2⟩⟩⟩⟩⟩⟩⟩⟩⟩)))⟩; have n12_ : Aside0 (Kd.R (Kd.int .i64) 3 w48 w.heap.size (fun k_ => (w.heap.size ≤ k_) ∧ some k_ ≠ (.slice Ao44 t173.length co44 : Value).ownBlock) (.slice Ao47 t182.length co47) t182) := ⟨(by rw [hw]; exact (by (with_reducible repeat (first | apply Kd.R_alloc | apply Kd.R_drewN | apply Kd.R_drew)); exact Kd.R_mono (Kd.R_far (p := ⟨gb158, 7, none⟩) (Kd.R_far (p := ⟨gb158, 6, none⟩) (Kd.R_far (p := ⟨gb158, 5, none⟩) (Kd.R_far (p := ⟨gb158, 4, none⟩) (Kd.R_far (p := ⟨gb158, 3, none⟩) (Kd.R_far (p := ⟨gb158, 2, none⟩) (Kd.R_far (p := ⟨gb158, 1, none⟩) (Kd.R_far (p := ⟨gb158, 0, none⟩) (Kd.R_types HO184.out BK158.out (by decide)) (fun _ hk => hk.2) (.int .i64 t168)) (fun _ hk => hk.2) (.int .i64 t169)) (fun _ hk => hk.2) (.slice Ao43 t170.length co43)) (fun _ hk => hk.2) (.slice Ao44 t173.length co44)) (fun _ hk => hk.2) (.slice Ao45 t176.length co45)) (fun _ hk => hk.2) (.slice Ao46 t179.length co46)) (fun _ hk => hk.2) (.slice Ao47 t182.length co47)) (fun _ hk => hk.2) (.bool t185)) (fun _ hk => ⟨hk.1.1, hk.1.2⟩)))⟩; have n13_ : Aside0 (w48.heap[gb154]? = some (.cells #[.int .i64 0, .int .i64 0, .slice none 0 0, .slice none 0 0, .slice none 0 0, .slice none 0 0, .slice none 0 0, .bool false] 31 (0, 0))) := ⟨(by rw [hw]; exact (bf1_ BK154.out NB154_158.out))⟩; have n14_ : Aside0 (w48.heap[gb156]? = some (.cells #[.int .i64 x157000_2, .int .i64 x157001_2, .slice none 0 0, .slice none 0 0, .slice none 0 0, .slice Ao39 y164.length co39, .slice none 0 0, .bool false] 31 (0, 0))) := ⟨(by rw [hw]; exact (bf1_ BK156.out NB156_158.out))⟩; have n15_ : Aside0 (w48.heap[gb158]? = some (.cells #[.int .i64 t168, .int .i64 t169, .slice Ao43 t170.length co43, .slice Ao44 t173.length co44, .slice Ao45 t176.length co45, .slice Ao46 t179.length co46, .slice Ao47 t182.length co47, .bool t185] 31 (0, 0))) := ⟨(by rw [hw]; exact (by (with_reducible repeat (first | refine blk_drewN ?_ _ | refine blk_drew ?_ | refine blk_alloc ?_ _)); refine blk_put (cs := #[.int .i64 t168, .int .i64 t169, .slice Ao43 t170.length co43, .slice Ao44 t173.length co44, .slice Ao45 t176.length co45, .slice Ao46 t179.length co46, .slice Ao47 t182.length co47, .bool ((rd_T31 l0 x43_2).f7)]) ?_ 7 _ rfl; (with_reducible repeat (first | refine blk_drewN ?_ _ | refine blk_drew ?_ | refine blk_alloc ?_ _)); refine blk_put (cs := #[.int .i64 t168, .int .i64 t169, .slice Ao43 t170.length co43, .slice Ao44 t173.length co44, .slice Ao45 t176.length co45, .slice Ao46 t179.length co46, .slice A157_6 ((rd_T31 l0 x43_2).f6).length c157_6, .bool ((rd_T31 l0 x43_2).f7)]) ?_ 6 _ rfl; (with_reducible repeat (first | refine blk_drewN ?_ _ | refine blk_drew ?_ | refine blk_alloc ?_ _)); refine blk_put (cs := #[.int .i64 t168, .int .i64 t169, .slice Ao43 t170.length co43, .slice Ao44 t173.length co44, .slice Ao45 t176.length co45, .slice A157_5 ((rd_T31 l0 x43_2).f5).length c157_5, .slice A157_6 ((rd_T31 l0 x43_2).f6).length c157_6, .bool ((rd_T31 l0 x43_2).f7)]) ?_ 5 _ rfl; (with_reducible repeat (first | refine blk_drewN ?_ _ | refine blk_drew ?_ | refine blk_alloc ?_ _)); refine blk_put (cs := #[.int .i64 t168, .int .i64 t169, .slice Ao43 t170.length co43, .slice Ao44 t173.length co44, .slice A157_4 ((rd_T31 l0 x43_2).f4).length c157_4, .slice A157_5 ((rd_T31 l0 x43_2).f5).length c157_5, .slice A157_6 ((rd_T31 l0 x43_2).f6).length c157_6, .bool ((rd_T31 l0 x43_2).f7)]) ?_ 4 _ rfl; (with_reducible repeat (first | refine blk_drewN ?_ _ | refine blk_drew ?_ | refine blk_alloc ?_ _)); refine blk_put (cs := #[.int .i64 t168, .int .i64 t169, .slice Ao43 t170.length co43, .slice A157_3 ((rd_T31 l0 x43_2).f3).length c157_3, .slice A157_4 ((rd_T31 l0 x43_2).f4).length c157_4, .slice A157_5 ((rd_T31 l0 x43_2).f5).length c157_5, .slice A157_6 ((rd_T31 l0 x43_2).f6).length c157_6, .bool ((rd_T31 l0 x43_2).f7)]) ?_ 3 _ rfl; (with_reducible repeat (first | refine blk_drewN ?_ _ | refine blk_drew ?_ | refine blk_alloc ?_ _)); refine blk_put (cs := #[.int .i64 t168, .int .i64 t169, .slice A157_2 ((rd_T31 l0 x43_2).f2).length c157_2, .slice A157_3 ((rd_T31 l0 x43_2).f3).length c157_3, .slice A157_4 ((rd_T31 l0 x43_2).f4).length c157_4, .slice A157_5 ((rd_T31 l0 x43_2).f5).length c157_5, .slice A157_6 ((rd_T31 l0 x43_2).f6).length c157_6, .bool ((rd_T31 l0 x43_2).f7)]) ?_ 2 _ rfl; (with_reducible repeat (first | refine blk_drewN ?_ _ | refine blk_drew ?_ | refine blk_alloc ?_ _)); refine blk_put (cs := #[.int .i64 t168, .int .i64 ((rd_T31 l0 x43_2).f1), .slice A157_2 ((rd_T31 l0 x43_2).f2).length c157_2, .slice A157_3 ((rd_T31 l0 x43_2).f3).length c157_3, .slice A157_4 ((rd_T31 l0 x43_2).f4).length c157_4, .slice A157_5 ((rd_T31 l0 x43_2).f5).length c157_5, .slice A157_6 ((rd_T31 l0 x43_2).f6).length c157_6, .bool ((rd_T31 l0 x43_2).f7)]) ?_ 1 _ rfl; (with_reducible repeat (first | refine blk_drewN ?_ _ | refine blk_drew ?_ | refine blk_alloc ?_ _)); refine blk_put (cs := #[.int .i64 ((rd_T31 l0 x43_2).f0), .int .i64 ((rd_T31 l0 x43_2).f1), .slice A157_2 ((rd_T31 l0 x43_2).f2).length c157_2, .slice A157_3 ((rd_T31 l0 x43_2).f3).length c157_3, .slice A157_4 ((rd_T31 l0 x43_2).f4).length c157_4, .slice A157_5 ((rd_T31 l0 x43_2).f5).length c157_5, .slice A157_6 ((rd_T31 l0 x43_2).f6).length c157_6, .bool ((rd_T31 l0 x43_2).f7)]) ?_ 0 _ rfl; (with_reducible repeat (first | refine blk_drewN ?_ _ | refine blk_drew ?_ | refine blk_alloc ?_ _)); exact BK158.out))⟩; have n16_ : Aside0 (Below w.heap.size w w48) := ⟨(by rw [hw]; exact (hb3_ HB.out GE154.out GE156.out GE158.out))⟩; clear hw HO_10 HO_41 HL157_2 HL157_3 HL157_4 HL157_5 HL157_6 HO166 HO172 HO175 HO178 HO181 HO184 BK154 BK156 BK158 HB; revert n0_ n1_ n2_ n3_ n4_ n5_ n6_ n7_ n8_ n9_ n10_ n11_ n12_ n13_ n14_ n15_ n16_; intro HO_10 HO_41 HL157_2 HL157_3 HL157_4 HL157_5 HL157_6 HO166 HO172 HO175 HO178 HO181 HO184 BK154 BK156 BK158 HB; obtain ⟨hcz49_0, hcz49_1, hcz49_2, hcz49_3, hcz49_4, hcz49_5, hcz49_6, hcz49_7, hfz49_0, hfz49_1, hfz49_2, hfz49_3, hfz49_4, hfz49_5, hfz49_6, hfz49_7⟩ := bx8_ BK158.out) | ((with_reducible refine gate_builtin (b := .append) (xs := #[.tmp 72, .tmp 74]) rfl ?_); (try (refine gate_guard (by rfl) ?_; dsimp only)); at_builtin; refine Kd.N_append k31 (w0 := w) w.heap.size rfl (.tmp 72) (.tmp 74) 22 31 (.agg #[(.int .i64 0), (.int .i64 0), (.slice none 0 0), (.slice none 0 0), (.slice none 0 0), (.slice none 0 0), (.slice none 0 0), (.bool false)]) 144 rfl Try.underlying22 info31 rfl (by decide) (by omega) u10 x10_2 (⟨t168, t169, t170, t173, t176, t179, t182, t185⟩ : S31) [.int .i64 t168, .int .i64 t169, .slice Ao43 t170.length co43, .slice Ao44 t173.length co44, .slice Ao45 t176.length co45, .slice Ao46 t179.length co46, .slice Ao47 t182.length co47, .bool t185] (fun k_ => (P0_ k_ ∨ w.heap.size ≤ k_) ∧ some k_ ≠ (.slice Ao39 y164.length co39 : Value).ownBlock ∧ k_ ≠ gb154 ∧ k_ ≠ gb156 ∧ k_ ≠ gb158) (fun k_ => ((fun k_ => (P0_ k_ ∨ w.heap.size ≤ k_) ∧ some k_ ≠ (.slice Ao39 y164.length co39 : Value).ownBlock ∧ k_ ≠ gb154 ∧ k_ ≠ gb156 ∧ k_ ≠ gb158)) k_ ∧ some k_ ≠ (u10 : Value).ownBlock) rfl rfl ?aP (fun _ hk => hk) ?aF ?aO ?aB ?aS ?aL ?_; (case aP => exact (k31_mkF _ _ (⟨t168, t169, t170, t173, t176, t179, t182, t185⟩ : S31) (Kd.R_reads' (Kd.R_mono (ok' := (fun k_ => ((fun k_ => (P0_ k_ ∨ w.heap.size ≤ k_) ∧ some k_ ≠ (.slice Ao39 y164.length co39 : Value).ownBlock ∧ k_ ≠ gb154 ∧ k_ ≠ gb156 ∧ k_ ≠ gb158)) k_ ∧ some k_ ≠ (u10 : Value).ownBlock)) (Kd.R_types (Kd.R_types (Kd.R_types (Kd.R_apart' (Kd.R_apart' (HO172.out) (Kd.N_typed HO166.out) (by decide)) (Kd.N_typed HO_10.out) (by decide)) BK154.out (by decide)) BK156.out (by decide)) BK158.out (by decide)) (fun k_ hk => ⟨⟨(.inr (hk.1.1.1.1.1)), ⟨hk.1.1.1.1.2, ⟨hk.1.1.2, ⟨hk.1.2, hk.2⟩⟩⟩⟩, hk.1.1.1.2⟩))).2.1 (Kd.R_F (Kd.R_mono (ok' := (fun k_ => ((fun k_ => (P0_ k_ ∨ w.heap.size ≤ k_) ∧ some k_ ≠ (.slice Ao39 y164.length co39 : Value).ownBlock ∧ k_ ≠ gb154 ∧ k_ ≠ gb156 ∧ k_ ≠ gb158)) k_ ∧ some k_ ≠ (u10 : Value).ownBlock)) (Kd.R_types (Kd.R_types (Kd.R_types (Kd.R_apart' (Kd.R_apart' (HO172.out) (Kd.N_typed HO166.out) (by decide)) (Kd.N_typed HO_10.out) (by decide)) BK154.out (by decide)) BK156.out (by decide)) BK158.out (by decide)) (fun k_ hk => ⟨⟨(.inr (hk.1.1.1.1.1)), ⟨hk.1.1.1.1.2, ⟨hk.1.1.2, ⟨hk.1.2, hk.2⟩⟩⟩⟩, hk.1.1.1.2⟩))) (Kd.R_reads' (Kd.R_mono (ok' := (fun k_ => ((fun k_ => (P0_ k_ ∨ w.heap.size ≤ k_) ∧ some k_ ≠ (.slice Ao39 y164.length co39 : Value).ownBlock ∧ k_ ≠ gb154 ∧ k_ ≠ gb156 ∧ k_ ≠ gb158)) k_ ∧ some k_ ≠ (u10 : Value).ownBlock)) (Kd.R_types (Kd.R_types (Kd.R_types (Kd.R_apart' (Kd.R_apart' (HO175.out) (Kd.N_typed HO166.out) (by decide)) (Kd.N_typed HO_10.out) (by decide)) BK154.out (by decide)) BK156.out (by decide)) BK158.out (by decide)) (fun k_ hk => ⟨⟨(.inr (hk.1.1.1.1.1.1)), ⟨hk.1.1.1.1.2, ⟨hk.1.1.2, ⟨hk.1.2, hk.2⟩⟩⟩⟩, hk.1.1.1.2⟩))).2.1 (Kd.R_F (Kd.R_mono (ok' := (fun k_ => ((fun k_ => (P0_ k_ ∨ w.heap.size ≤ k_) ∧ some k_ ≠ (.slice Ao39 y164.length co39 : Value).ownBlock ∧ k_ ≠ gb154 ∧ k_ ≠ gb156 ∧ k_ ≠ gb158)) k_ ∧ some k_ ≠ (u10 : Value).ownBlock)) (Kd.R_types (Kd.R_types (Kd.R_types (Kd.R_apart' (Kd.R_apart' (HO175.out) (Kd.N_typed HO166.out) (by decide)) (Kd.N_typed HO_10.out) (by decide)) BK154.out (by decide)) BK156.out (by decide)) BK158.out (by decide)) (fun k_ hk => ⟨⟨(.inr (hk.1.1.1.1.1.1)), ⟨hk.1.1.1.1.2, ⟨hk.1.1.2, ⟨hk.1.2, hk.2⟩⟩⟩⟩, hk.1.1.1.2⟩))) (Kd.N_reads' (Kd.N_mono (ok' := (fun k_ => ((fun k_ => (P0_ k_ ∨ w.heap.size ≤ k_) ∧ some k_ ≠ (.slice Ao39 y164.length co39 : Value).ownBlock ∧ k_ ≠ gb154 ∧ k_ ≠ gb156 ∧ k_ ≠ gb158)) k_ ∧ some k_ ≠ (u10 : Value).ownBlock)) (HO178.out) (fun k_ hk => ⟨⟨hk.1, ⟨hk.2.2.1, ⟨hk.2.2.2.2.2.2.2.1, ⟨hk.2.2.2.2.2.2.2.2.1, hk.2.2.2.2.2.2.2.2.2⟩⟩⟩⟩, hk.2.1⟩))).2.1 (Kd.N_F (Kd.N_mono (ok' := (fun k_ => ((fun k_ => (P0_ k_ ∨ w.heap.size ≤ k_) ∧ some k_ ≠ (.slice Ao39 y164.length co39 : Value).ownBlock ∧ k_ ≠ gb154 ∧ k_ ≠ gb156 ∧ k_ ≠ gb158)) k_ ∧ some k_ ≠ (u10 : Value).ownBlock)) (HO178.out) (fun k_ hk => ⟨⟨hk.1, ⟨hk.2.2.1, ⟨hk.2.2.2.2.2.2.2.1, ⟨hk.2.2.2.2.2.2.2.2.1, hk.2.2.2.2.2.2.2.2.2⟩⟩⟩⟩, hk.2.1⟩))) (Kd.N_reads' (Kd.N_mono (ok' := (fun k_ => ((fun k_ => (P0_ k_ ∨ w.heap.size ≤ k_) ∧ some k_ ≠ (.slice Ao39 y164.length co39 : Value).ownBlock ∧ k_ ≠ gb154 ∧ k_ ≠ gb156 ∧ k_ ≠ gb158)) k_ ∧ some k_ ≠ (u10 : Value).ownBlock)) (HO181.out) (fun k_ hk => ⟨⟨hk.1, ⟨hk.2.2.1, ⟨hk.2.2.2.2.2.2.2.1, ⟨hk.2.2.2.2.2.2.2.2.1, hk.2.2.2.2.2.2.2.2.2⟩⟩⟩⟩, hk.2.1⟩))).2.1 (Kd.N_F (Kd.N_mono (ok' := (fun k_ => ((fun k_ => (P0_ k_ ∨ w.heap.size ≤ k_) ∧ some k_ ≠ (.slice Ao39 y164.length co39 : Value).ownBlock ∧ k_ ≠ gb154 ∧ k_ ≠ gb156 ∧ k_ ≠ gb158)) k_ ∧ some k_ ≠ (u10 : Value).ownBlock)) (HO181.out) (fun k_ hk => ⟨⟨hk.1, ⟨hk.2.2.1, ⟨hk.2.2.2.2.2.2.2.1, ⟨hk.2.2.2.2.2.2.2.2.1, hk.2.2.2.2.2.2.2.2.2⟩⟩⟩⟩, hk.2.1⟩))) (Kd.R_reads' (Kd.R_mono (ok' := (fun k_ => ((fun k_ => (P0_ k_ ∨ w.heap.size ≤ k_) ∧ some k_ ≠ (.slice Ao39 y164.length co39 : Value).ownBlock ∧ k_ ≠ gb154 ∧ k_ ≠ gb156 ∧ k_ ≠ gb158)) k_ ∧ some k_ ≠ (u10 : Value).ownBlock)) (Kd.R_types (Kd.R_types (Kd.R_types (Kd.R_apart' (Kd.R_apart' (HO184.out) (Kd.N_typed HO166.out) (by decide)) (Kd.N_typed HO_10.out) (by decide)) BK154.out (by decide)) BK156.out (by decide)) BK158.out (by decide)) (fun k_ hk => ⟨⟨(.inr (hk.1.1.1.1.1.1)), ⟨hk.1.1.1.1.2, ⟨hk.1.1.2, ⟨hk.1.2, hk.2⟩⟩⟩⟩, hk.1.1.1.2⟩))).2.1 (Kd.R_F (Kd.R_mono (ok' := (fun k_ => ((fun k_ => (P0_ k_ ∨ w.heap.size ≤ k_) ∧ some k_ ≠ (.slice Ao39 y164.length co39 : Value).ownBlock ∧ k_ ≠ gb154 ∧ k_ ≠ gb156 ∧ k_ ≠ gb158)) k_ ∧ some k_ ≠ (u10 : Value).ownBlock)) (Kd.R_types (Kd.R_types (Kd.R_types (Kd.R_apart' (Kd.R_apart' (HO184.out) (Kd.N_typed HO166.out) (by decide)) (Kd.N_typed HO_10.out) (by decide)) BK154.out (by decide)) BK156.out (by decide)) BK158.out (by decide)) (fun k_ hk => ⟨⟨(.inr (hk.1.1.1.1.1.1)), ⟨hk.1.1.1.1.2, ⟨hk.1.1.2, ⟨hk.1.2, hk.2⟩⟩⟩⟩, hk.1.1.1.2⟩))))); (case aB => exact (hb3_ HB.out GE154.out GE156.out GE158.out)); (case aF => exact (fun k_ hk => ⟨(.inr (Nat.le_trans (below_size (hb3_ HB.out GE154.out GE156.out GE158.out)) hk)), Kd.fresh' (Kd.N_lt (kN_ HO166.out)) k_ hk, Kd.freshB (g := gb154) (o := .cells #[.int .i64 0, .int .i64 0, .slice none 0 0, .slice none 0 0, .slice none 0 0, .slice none 0 0, .slice none 0 0, .bool false] 31 (0, 0)) (bk_ BK154.out) k_ hk, Kd.freshB (g := gb156) (o := .cells #[.int .i64 x157000_2, .int .i64 x157001_2, .slice none 0 0, .slice none 0 0, .slice none 0 0, .slice Ao39 y164.length co39, .slice none 0 0, .bool false] 31 (0, 0)) (bk_ BK156.out) k_ hk, Kd.freshB (g := gb158) (o := .cells #[.int .i64 t168, .int .i64 t169, .slice Ao43 t170.length co43, .slice Ao44 t173.length co44, .slice Ao45 t176.length co45, .slice Ao46 t179.length co46, .slice Ao47 t182.length co47, .bool t185] 31 (0, 0)) (bk_ BK158.out) k_ hk⟩)); (case aO => exact (by (with_reducible repeat (first | apply Kd.N_alloc | apply Kd.N_drewN | apply Kd.N_drew)); exact Kd.N_mono HO_10.out (fun _ hk => ⟨hk.1, ⟨hk.2.1, ⟨hk.2.2.2.2.2.2.2.1, ⟨hk.2.2.2.2.2.2.2.2.1, hk.2.2.2.2.2.2.2.2.2⟩⟩⟩⟩))); (case aS => exact (below_size (hb3_ HB.out GE154.out GE156.out GE158.out))); (case aL => have := LMc27.out; omega); intro v187 w50 ho hb hg hat; rw [← Ny186.out] at ho; have n0_ := Aside0.mk (Kd.V_afterv (ok := (fun k_ => (P0_ k_ ∨ w.heap.size ≤ k_) ∧ some k_ ≠ (.slice Ao39 y164.length co39 : Value).ownBlock ∧ some k_ ≠ (.slice Ao43 t170.length co43 : Value).ownBlock ∧ some k_ ≠ (.slice Ao44 t173.length co44 : Value).ownBlock ∧ some k_ ≠ (.slice Ao45 t176.length co45 : Value).ownBlock ∧ some k_ ≠ (.slice Ao46 t179.length co46 : Value).ownBlock ∧ some k_ ≠ (.slice Ao47 t182.length co47 : Value).ownBlock ∧ k_ ≠ gb154 ∧ k_ ≠ gb156 ∧ k_ ≠ gb158)) (by (with_reducible repeat (first | apply Kd.V_alloc | apply Kd.V_drewN | apply Kd.V_drew)); exact Kd.V_mono HO_41.out (fun _ hk => ⟨⟨hk.1, ⟨hk.2.2.1, ⟨hk.2.2.2.1, ⟨hk.2.2.2.2.1, ⟨hk.2.2.2.2.2.1, ⟨hk.2.2.2.2.2.2.1, ⟨hk.2.2.2.2.2.2.2.1, ⟨hk.2.2.2.2.2.2.2.2.1, ⟨hk.2.2.2.2.2.2.2.2.2.1, hk.2.2.2.2.2.2.2.2.2.2⟩⟩⟩⟩⟩⟩⟩⟩⟩, hk.2.1⟩)) hg hat); have n1_ := Aside0.mk (blk_grown (g := gb154) (o := .cells #[.int .i64 0, .int .i64 0, .slice none 0 0, .slice none 0 0, .slice none 0 0, .slice none 0 0, .slice none 0 0, .bool false] 31 (0, 0)) (bk_ BK154.out) hg (Kd.N_away HO_10.out (fun _ hk => hk.2.2.2.2.2.2.2.1))); have n2_ := Aside0.mk (blk_grown (g := gb156) (o := .cells #[.int .i64 x157000_2, .int .i64 x157001_2, .slice none 0 0, .slice none 0 0, .slice none 0 0, .slice Ao39 y164.length co39, .slice none 0 0, .bool false] 31 (0, 0)) (bk_ BK156.out) hg (Kd.N_away HO_10.out (fun _ hk => hk.2.2.2.2.2.2.2.2.1))); have n3_ := Aside0.mk (Kd.V_afterv (ok := (fun k_ => (P0_ k_ ∨ w.heap.size ≤ k_) ∧ some k_ ≠ (.slice Ao39 y164.length co39 : Value).ownBlock ∧ some k_ ≠ (.slice Ao43 t170.length co43 : Value).ownBlock ∧ some k_ ≠ (.slice Ao44 t173.length co44 : Value).ownBlock ∧ some k_ ≠ (.slice Ao45 t176.length co45 : Value).ownBlock ∧ some k_ ≠ (.slice Ao46 t179.length co46 : Value).ownBlock ∧ some k_ ≠ (.slice Ao47 t182.length co47 : Value).ownBlock ∧ k_ ≠ gb154 ∧ k_ ≠ gb156 ∧ k_ ≠ gb158)) (by (with_reducible repeat (first | apply Kd.V_alloc | apply Kd.V_drewN | apply Kd.V_drew)); exact Kd.V_mono HL157_2.out (fun _ hk => ⟨⟨hk.1, ⟨hk.2.2.1, ⟨hk.2.2.2.1, ⟨hk.2.2.2.2.1, ⟨hk.2.2.2.2.2.1, ⟨hk.2.2.2.2.2.2.1, ⟨hk.2.2.2.2.2.2.2.1, ⟨hk.2.2.2.2.2.2.2.2.1, ⟨hk.2.2.2.2.2.2.2.2.2.1, hk.2.2.2.2.2.2.2.2.2.2⟩⟩⟩⟩⟩⟩⟩⟩⟩, hk.2.1⟩)) hg hat); have n4_ := Aside0.mk (Kd.V_afterv (ok := (fun k_ => (P0_ k_ ∨ w.heap.size ≤ k_) ∧ some k_ ≠ (.slice Ao39 y164.length co39 : Value).ownBlock ∧ some k_ ≠ (.slice Ao43 t170.length co43 : Value).ownBlock ∧ some k_ ≠ (.slice Ao44 t173.length co44 : Value).ownBlock ∧ some k_ ≠ (.slice Ao45 t176.length co45 : Value).ownBlock ∧ some k_ ≠ (.slice Ao46 t179.length co46 : Value).ownBlock ∧ some k_ ≠ (.slice Ao47 t182.length co47 : Value).ownBlock ∧ k_ ≠ gb154 ∧ k_ ≠ gb156 ∧ k_ ≠ gb158)) (by (with_reducible repeat (first | apply Kd.V_alloc | apply Kd.V_drewN | apply Kd.V_drew)); exact Kd.V_mono HL157_3.out (fun _ hk => ⟨⟨hk.1, ⟨hk.2.2.1, ⟨hk.2.2.2.1, ⟨hk.2.2.2.2.1, ⟨hk.2.2.2.2.2.1, ⟨hk.2.2.2.2.2.2.1, ⟨hk.2.2.2.2.2.2.2.1, ⟨hk.2.2.2.2.2.2.2.2.1, ⟨hk.2.2.2.2.2.2.2.2.2.1, hk.2.2.2.2.2.2.2.2.2.2⟩⟩⟩⟩⟩⟩⟩⟩⟩, hk.2.1⟩)) hg hat); have n5_ := Aside0.mk (Kd.V_afterv (ok := (fun k_ => (P0_ k_ ∨ w.heap.size ≤ k_) ∧ some k_ ≠ (.slice Ao39 y164.length co39 : Value).ownBlock ∧ some k_ ≠ (.slice Ao43 t170.length co43 : Value).ownBlock ∧ some k_ ≠ (.slice Ao44 t173.length co44 : Value).ownBlock ∧ some k_ ≠ (.slice Ao45 t176.length co45 : Value).ownBlock ∧ some k_ ≠ (.slice Ao46 t179.length co46 : Value).ownBlock ∧ some k_ ≠ (.slice Ao47 t182.length co47 : Value).ownBlock ∧ k_ ≠ gb154 ∧ k_ ≠ gb156 ∧ k_ ≠ gb158)) (by (with_reducible repeat (first | apply Kd.V_alloc | apply Kd.V_drewN | apply Kd.V_drew)); exact Kd.V_mono HL157_4.out (fun _ hk => ⟨⟨hk.1, ⟨hk.2.2.1, ⟨hk.2.2.2.1, ⟨hk.2.2.2.2.1, ⟨hk.2.2.2.2.2.1, ⟨hk.2.2.2.2.2.2.1, ⟨hk.2.2.2.2.2.2.2.1, ⟨hk.2.2.2.2.2.2.2.2.1, ⟨hk.2.2.2.2.2.2.2.2.2.1, hk.2.2.2.2.2.2.2.2.2.2⟩⟩⟩⟩⟩⟩⟩⟩⟩, hk.2.1⟩)) hg hat); have n6_ := Aside0.mk (Kd.V_afterv (ok := (fun k_ => (P0_ k_ ∨ w.heap.size ≤ k_) ∧ some k_ ≠ (.slice Ao39 y164.length co39 : Value).ownBlock ∧ some k_ ≠ (.slice Ao43 t170.length co43 : Value).ownBlock ∧ some k_ ≠ (.slice Ao44 t173.length co44 : Value).ownBlock ∧ some k_ ≠ (.slice Ao45 t176.length co45 : Value).ownBlock ∧ some k_ ≠ (.slice Ao46 t179.length co46 : Value).ownBlock ∧ some k_ ≠ (.slice Ao47 t182.length co47 : Value).ownBlock ∧ k_ ≠ gb154 ∧ k_ ≠ gb156 ∧ k_ ≠ gb158)) (by (with_reducible repeat (first | apply Kd.V_alloc | apply Kd.V_drewN | apply Kd.V_drew)); exact Kd.V_mono HL157_5.out (fun _ hk => ⟨⟨hk.1, ⟨hk.2.2.1, ⟨hk.2.2.2.1, ⟨hk.2.2.2.2.1, ⟨hk.2.2.2.2.2.1, ⟨hk.2.2.2.2.2.2.1, ⟨hk.2.2.2.2.2.2.2.1, ⟨hk.2.2.2.2.2.2.2.2.1, ⟨hk.2.2.2.2.2.2.2.2.2.1, hk.2.2.2.2.2.2.2.2.2.2⟩⟩⟩⟩⟩⟩⟩⟩⟩, hk.2.1⟩)) hg hat); have n7_ := Aside0.mk (Kd.V_afterv (ok := (fun k_ => (P0_ k_ ∨ w.heap.size ≤ k_) ∧ some k_ ≠ (.slice Ao39 y164.length co39 : Value).ownBlock ∧ some k_ ≠ (.slice Ao43 t170.length co43 : Value).ownBlock ∧ some k_ ≠ (.slice Ao44 t173.length co44 : Value).ownBlock ∧ some k_ ≠ (.slice Ao45 t176.length co45 : Value).ownBlock ∧ some k_ ≠ (.slice Ao46 t179.length co46 : Value).ownBlock ∧ some k_ ≠ (.slice Ao47 t182.length co47 : Value).ownBlock ∧ k_ ≠ gb154 ∧ k_ ≠ gb156 ∧ k_ ≠ gb158)) (by (with_reducible repeat (first | apply Kd.V_alloc | apply Kd.V_drewN | apply Kd.V_drew)); exact Kd.V_mono HL157_6.out (fun _ hk => ⟨⟨hk.1, ⟨hk.2.2.1, ⟨hk.2.2.2.1, ⟨hk.2.2.2.2.1, ⟨hk.2.2.2.2.2.1, ⟨hk.2.2.2.2.2.2.1, ⟨hk.2.2.2.2.2.2.2.1, ⟨hk.2.2.2.2.2.2.2.2.1, ⟨hk.2.2.2.2.2.2.2.2.2.1, hk.2.2.2.2.2.2.2.2.2.2⟩⟩⟩⟩⟩⟩⟩⟩⟩, hk.2.1⟩)) hg hat); have n8_ := Aside0.mk (blk_grown (g := gb158) (o := .cells #[.int .i64 t168, .int .i64 t169, .slice Ao43 t170.length co43, .slice Ao44 t173.length co44, .slice Ao45 t176.length co45, .slice Ao46 t179.length co46, .slice Ao47 t182.length co47, .bool t185] 31 (0, 0)) (bk_ BK158.out) hg (Kd.N_away HO_10.out (fun _ hk => hk.2.2.2.2.2.2.2.2.2))); have n9_ := Aside0.mk (Kd.N_afterv (ok := (fun k_ => (P0_ k_ ∨ w.heap.size ≤ k_) ∧ some k_ ≠ (.slice Ao43 t170.length co43 : Value).ownBlock ∧ some k_ ≠ (.slice Ao44 t173.length co44 : Value).ownBlock ∧ some k_ ≠ (.slice Ao45 t176.length co45 : Value).ownBlock ∧ some k_ ≠ (.slice Ao46 t179.length co46 : Value).ownBlock ∧ some k_ ≠ (.slice Ao47 t182.length co47 : Value).ownBlock ∧ k_ ≠ gb154 ∧ k_ ≠ gb156 ∧ k_ ≠ gb158)) (by (with_reducible repeat (first | apply Kd.N_alloc | apply Kd.N_drewN | apply Kd.N_drew)); exact Kd.N_mono HO166.out (fun _ hk => ⟨⟨hk.1, ⟨hk.2.2.1, ⟨hk.2.2.2.1, ⟨hk.2.2.2.2.1, ⟨hk.2.2.2.2.2.1, ⟨hk.2.2.2.2.2.2.1, ⟨hk.2.2.2.2.2.2.2.1, ⟨hk.2.2.2.2.2.2.2.2.1, hk.2.2.2.2.2.2.2.2.2⟩⟩⟩⟩⟩⟩⟩⟩, hk.2.1⟩)) hg hat); have n10_ := Aside0.mk (hb); have n11_ := Aside0.mk (ho); clear HO_41 BK154 BK156 HL157_2 HL157_3 HL157_4 HL157_5 HL157_6 BK158 HO166 HB HO_10 HO172 HO175 HO178 HO181 HO184; revert n0_ n1_ n2_ n3_ n4_ n5_ n6_ n7_ n8_ n9_ n10_ n11_; intro HO_41 BK154 BK156 HL157_2 HL157_3 HL157_4 HL157_5 HL157_6 BK158 HO166 HB HO188; clear ho hb hg hat))
         have n0_ := Aside0.mk (Kd.V_drew HO_41.out)
         have n1_ := Aside0.mk (Kd.V_drew HL157_2.out)
         have n2_ := Aside0.mk (Kd.V_drew HL157_3.out)
         have n3_ := Aside0.mk (Kd.V_drew HL157_4.out)
         have n4_ := Aside0.mk (Kd.V_drew HL157_5.out)
         have n5_ := Aside0.mk (Kd.V_drew HL157_6.out)
         have n6_ := Aside0.mk (Kd.N_drew HO166.out)
         have n7_ := Aside0.mk (Kd.N_drew HO188.out)
         have n8_ := Aside0.mk (blk_drew BK154.out)
         have n9_ := Aside0.mk (blk_drew BK156.out)
         have n10_ := Aside0.mk (blk_drew BK158.out)
         have n11_ := Aside0.mk (below_drew1 HB.out)
         clear HO_41
         clear HL157_2
         clear HL157_3
         clear HL157_4
         clear HL157_5
         clear HL157_6
         clear HO166
         clear HO188
         clear BK154
         clear BK156
         clear BK158
         clear HB
         revert n0_ n1_ n2_ n3_ n4_ n5_ n6_ n7_ n8_ n9_ n10_ n11_
         intro HO_41 HL157_2 HL157_3 HL157_4 HL157_5 HL157_6 HO166 HO188 BK154 BK156 BK158 HB
         refine start_ (n := 14) (S := fun w' => w'.cell? ⟨gb156, 1, none⟩ = some (.int .i64 x157001_2) ∧ w'.cell? ⟨gb158, 0, none⟩ = some (.int .i64 t168) ∧ w'.cell? ⟨gb158, 1, none⟩ = some (.int .i64 t169)) (ds := [13]) #[false,false,false,false,false,false,false,false,false,false,false,false,false,false] (by kernel_rfl) rfl rfl ⟨(blk_cell BK156.out 1).trans rfl, (blk_cell BK158.out 0).trans rfl, (blk_cell BK158.out 1).trans rfl⟩ (fun hHeld => ?_); refine with_tabW sum_Lay.tab15 sum_Lay.bits15 (fun HT_ HW_ => ?_)
         generalize w50.drew = w51 at HO_41 HL157_2 HL157_3 HL157_4 HL157_5 HL157_6 HO166 HO188 BK154 BK156 BK158 HB hHeld ⊢
         have hLd0_0 := (blk_cell BK156.out 0).trans (rfl : _ = some ((.int .i64 x157000_2) : Value))
         refine pure_ (i := 0) (N := some 76) (v := ?_) (a' := ?_) #[true,false,false,false,false,false,false,false,false,false,false,false,false,false] rfl rfl (any_of HT_.out (by kernel_rfl)) (fun _ _ _ h => h) (Or.inl ⟨by rfl, ?_⟩) ?_ ?_
         rotate_left
         ·
          intro w'
          go_simp
          with_reducible rfl
         rotate_left
         ·
          simp only [Act.put, setIfInBounds_toArray, set_cons_zero, set_cons_succ, i64_w, i32_w]
          rfl
         refine pure_ (i := 2) (N := some 78) (v := ?_) (a' := ?_) #[true,false,true,false,false,false,false,false,false,false,false,false,false,false] rfl rfl (any_of HT_.out (by kernel_rfl)) (fun _ _ _ h => h) (Or.inl ⟨by rfl, ?_⟩) ?_ ?_
         rotate_left
         ·
          intro w'
          go_simp
          with_reducible rfl
         rotate_left
         ·
          simp only [Act.put, setIfInBounds_toArray, set_cons_zero, set_cons_succ, i64_w, i32_w]
          rfl
         refine pure_ (i := 5) (N := some 81) (v := ?_) (a' := ?_) #[true,false,true,false,false,true,false,false,false,false,false,false,false,false] rfl rfl (any_of HT_.out (by kernel_rfl)) (fun _ _ _ h => h) (Or.inl ⟨by rfl, ?_⟩) ?_ ?_
         rotate_left
         ·
          intro w'
          go_simp
          with_reducible rfl
         rotate_left
         ·
          simp only [Act.put, setIfInBounds_toArray, set_cons_zero, set_cons_succ, i64_w, i32_w]
          rfl
         refine pure_ (i := 7) (N := some 83) (v := ?_) (a' := ?_) #[true,false,true,false,false,true,false,true,false,false,false,false,false,false] rfl rfl (any_of HT_.out (by kernel_rfl)) (fun _ _ _ h => h) (Or.inl ⟨by rfl, ?_⟩) ?_ ?_
         rotate_left
         ·
          intro w'
          go_simp
          with_reducible rfl
         rotate_left
         ·
          simp only [Act.put, setIfInBounds_toArray, set_cons_zero, set_cons_succ, i64_w, i32_w]
          rfl
         refine take_ (i := 3) (N := some 79) (v := ?_) (a' := ?_) #[true,false,true,true,false,true,false,true,false,false,false,false,false,false] rfl rfl (take_ofW HT_.out HW_.out (by kernel_rfl)) (fun _ _ _ h => h) (Or.inl ⟨by rfl, ?_⟩) hHeld ?_ ?_
         rotate_left
         ·
          rintro w' ⟨s0, s1, s2⟩
          go_simp
          with_reducible rfl
         rotate_left
         ·
          simp only [Act.put, setIfInBounds_toArray, set_cons_zero, set_cons_succ, i64_w, i32_w]
          rfl
         refine take_ (i := 6) (N := some 82) (v := ?_) (a' := ?_) #[true,false,true,true,false,true,true,true,false,false,false,false,false,false] rfl rfl (take_ofW HT_.out HW_.out (by kernel_rfl)) (fun _ _ _ h => h) (Or.inl ⟨by rfl, ?_⟩) hHeld ?_ ?_
         rotate_left
         ·
          rintro w' ⟨s0, s1, s2⟩
          go_simp
          with_reducible rfl
         rotate_left
         ·
          simp only [Act.put, setIfInBounds_toArray, set_cons_zero, set_cons_succ, i64_w, i32_w]
          rfl
         refine take_ (i := 8) (N := some 84) (v := ?_) (a' := ?_) #[true,false,true,true,false,true,true,true,true,false,false,false,false,false] rfl rfl (take_ofW HT_.out HW_.out (by kernel_rfl)) (fun _ _ _ h => h) (Or.inl ⟨by rfl, ?_⟩) hHeld ?_ ?_
         rotate_left
         ·
          rintro w' ⟨s0, s1, s2⟩
          go_simp
          with_reducible rfl
         rotate_left
         ·
          simp only [Act.put, setIfInBounds_toArray, set_cons_zero, set_cons_succ, i64_w, i32_w]
          rfl
         refine pure_ (i := 9) (N := some 85) (v := ?_) (a' := ?_) #[true,false,true,true,false,true,true,true,true,true,false,false,false,false] rfl rfl (any_of HT_.out (by kernel_rfl)) (fun _ _ _ h => h) (Or.inl ⟨by rfl, ?_⟩) ?_ ?_
         rotate_left
         ·
          intro w'
          go_simp
          with_reducible rfl
         rotate_left
         ·
          simp only [Act.put, setIfInBounds_toArray, set_cons_zero, set_cons_succ, i64_w, i32_w]
          rfl
         refine one_ (i := 1) (N := some 77) #[true,true,true,true,false,true,true,true,true,true,false,false,false,false] rfl rfl (one_of HT_.out (by kernel_rfl)) (by decide) (fun K hK => ?_)
         refine value_ (w1 := ?_) (v := ?_) (by rfl) rfl ?_ ?_
         rotate_left 2
         ·
          go_simp
          constructor
          ·
           rfl
          ·
           rfl
         refine hK.out _ _ ⟨hHeld.1, hHeld.2.1, hHeld.2.2⟩ (fun hHeld => ?_)
         clear hK K
         refine norm_ (a' := ?_) ?_ ?_
         rotate_left
         ·
          show Act.put _ (some 77) _ = _
          simp only [Act.put, setIfInBounds_toArray, set_cons_zero, set_cons_succ, i64_w, i32_w]
          rfl
         refine pure_ (i := 4) (N := some 80) (v := ?_) (a' := ?_) #[true,true,true,true,true,true,true,true,true,true,false,false,false,false] rfl rfl (any_of HT_.out (by kernel_rfl)) (fun _ _ _ h => h) (Or.inl ⟨by rfl, ?_⟩) ?_ ?_
         rotate_left
         ·
          intro w'
          go_simp
          with_reducible rfl
         rotate_left
         ·
          simp only [Act.put, setIfInBounds_toArray, set_cons_zero, set_cons_succ, i64_w, i32_w]
          rfl
         refine pure_ (i := 10) (N := some 86) (v := ?_) (a' := ?_) #[true,true,true,true,true,true,true,true,true,true,true,false,false,false] rfl rfl (any_of HT_.out (by kernel_rfl)) (fun _ _ _ h => h) (Or.inl ⟨by rfl, ?_⟩) ?_ ?_
         rotate_left
         ·
          intro w'
          go_simp
          with_reducible rfl
         rotate_left
         ·
          simp only [Act.put, setIfInBounds_toArray, set_cons_zero, set_cons_succ, i64_w, i32_w]
          rfl
         refine one_ (i := 11) (N := none) #[true,true,true,true,true,true,true,true,true,true,true,true,false,false] rfl rfl (one_of HT_.out (by kernel_rfl)) (by decide) (fun K hK => ?_)
         have hs52 : w51.cell? ⟨gb156, 0, none⟩ = some (.int .i64 x157000_2) := (blk_cell BK156.out 0).trans rfl
         have hfs52 := blk_frozen BK156.out 0
         have hns52_0 := NB154_156.out
         have hns52_2 := NB158_156.out
         have hms52_0 := NB156_154.out
         have hms52_2 := NB156_158.out
         refine skip_ (w1 := ?_) (by rfl) rfl ?_ ?_
         rotate_left
         ·
          go_simp
          rfl
         refine hK.out _ _ ⟨((World.cell?_setCell_other _ ⟨gb156, 0, none⟩ ⟨gb156, 1, none⟩ _ (by simp)).trans (hHeld.1)), ((cell_far (p := ⟨gb156, _, none⟩) NB158_156.out _).trans (hHeld.2.1)), ((cell_far (p := ⟨gb156, _, none⟩) NB158_156.out _).trans (hHeld.2.2))⟩ (fun hHeld => ?_)
         clear hK K
         refine pure_ (i := 12) (N := some 87) (v := ?_) (a' := ?_) #[true,true,true,true,true,true,true,true,true,true,true,true,true,false] rfl rfl (any_of HT_.out (by kernel_rfl)) (fun _ _ _ h => h) (Or.inl ⟨by rfl, ?_⟩) ?_ ?_
         rotate_left
         ·
          intro w'
          go_simp
          with_reducible rfl
         rotate_left
         ·
          simp only [Act.put, setIfInBounds_toArray, set_cons_zero, set_cons_succ, i64_w, i32_w]
          rfl
         refine last_ (i := 13) (N := none) #[true,true,true,true,true,true,true,true,true,true,true,true,true,true] rfl rfl (one_of HT_.out (by kernel_rfl)) (by decide) (fun K hK => ?_)
         have hs53 : w51.cell? ⟨gb156, 1, none⟩ = some (.int .i64 x157001_2) := (blk_cell BK156.out 1).trans rfl
         have hfs53 := blk_frozen BK156.out 1
         have hns53_0 := NB154_156.out
         have hns53_2 := NB158_156.out
         have hms53_0 := NB156_154.out
         have hms53_2 := NB156_158.out
         refine skip_ (w1 := ?_) (by rfl) rfl ?_ ?_
         rotate_left
         ·
          go_simp
          rfl
         refine hK.out _ _ ?_
         clear hK K
         refine done_ (done_of HT_.out (by kernel_rfl)) ?_
         try go_wp2
         go_roundg k2
         case measure => have := HJ4.out; have := HK2.out; omega
         case rel => exact ⟨(y186), (wrap64 (x43_2 + 1)), (ji28), (ji29), (y164), (.slice Ao39 y164.length co39), (by first | rfl | (simp; done) | (simp [*]; done)), H', ⟨by have := HJ4.out; have := HK2.out; omega⟩, ⟨by (with_reducible repeat (first | apply Kd.N_alloc | apply Kd.N_drewN | apply Kd.N_drew)); exact Kd.N_mono (Kd.N_far (p := ⟨gb156, 1, none⟩) (Kd.N_far (p := ⟨gb156, 0, none⟩) (Kd.N_mono HO188.out (fun k_ hk => (⟨hk, hk.2.2.2.1⟩ : _ ∧ k_ ≠ gb156))) (fun _ hk => hk.2) (.int .i64 ji28)) (fun _ hk => hk.2) (.int .i64 ji29)) (fun _ hk => ⟨hk.1.1, ⟨hk.1.2.1, ⟨hk.1.2.2.1, hk.1.2.2.2.1⟩⟩⟩)⟩, ⟨by (with_reducible repeat (first | apply Kd.V_alloc | apply Kd.V_drewN | apply Kd.V_drew)); exact Kd.V_mono (Kd.V_far (p := ⟨gb156, 1, none⟩) (Kd.V_far (p := ⟨gb156, 0, none⟩) (Kd.V_mono HO_41.out (fun k_ hk => (⟨hk, hk.1.2.2.2.2.2.2.2.2.1⟩ : _ ∧ k_ ≠ gb156))) (fun _ hk => hk.2) (.int .i64 ji28)) (fun _ hk => hk.2) (.int .i64 ji29)) (fun _ hk => ⟨hk.1.1.1, ⟨hk.1.2, ⟨hk.1.1.2.1, ⟨hk.1.1.2.2.2.2.2.2.2.1, hk.1.1.2.2.2.2.2.2.2.2.1⟩⟩⟩⟩)⟩, ⟨by (with_reducible repeat (first | apply Kd.N_alloc | apply Kd.N_drewN | apply Kd.N_drew)); exact Kd.N_mono (Kd.N_far (p := ⟨gb156, 1, none⟩) (Kd.N_far (p := ⟨gb156, 0, none⟩) (Kd.N_mono HO166.out (fun k_ hk => (⟨hk, hk.1.2.2.2.2.2.2.2.1⟩ : _ ∧ k_ ≠ gb156))) (fun _ hk => hk.2) (.int .i64 ji28)) (fun _ hk => hk.2) (.int .i64 ji29)) (fun _ hk => ⟨hk.1.1.1, ⟨hk.1.2, ⟨hk.1.1.2.2.2.2.2.2.1, hk.1.1.2.2.2.2.2.2.2.1⟩⟩⟩)⟩, ⟨by (with_reducible repeat (first | refine blk_drewN ?_ _ | refine blk_drew ?_ | refine blk_alloc ?_ _)); refine blk_far ?_ NB154_156.out _; (with_reducible repeat (first | refine blk_drewN ?_ _ | refine blk_drew ?_ | refine blk_alloc ?_ _)); refine blk_far ?_ NB154_156.out _; (with_reducible repeat (first | refine blk_drewN ?_ _ | refine blk_drew ?_ | refine blk_alloc ?_ _)); exact BK154.out⟩, ⟨by (with_reducible repeat (first | refine blk_drewN ?_ _ | refine blk_drew ?_ | refine blk_alloc ?_ _)); refine blk_put (cs := #[.int .i64 ji28, .int .i64 x157001_2, .slice none 0 0, .slice none 0 0, .slice none 0 0, .slice Ao39 y164.length co39, .slice none 0 0, .bool false]) ?_ 1 _ rfl; (with_reducible repeat (first | refine blk_drewN ?_ _ | refine blk_drew ?_ | refine blk_alloc ?_ _)); refine blk_put (cs := #[.int .i64 x157000_2, .int .i64 x157001_2, .slice none 0 0, .slice none 0 0, .slice none 0 0, .slice Ao39 y164.length co39, .slice none 0 0, .bool false]) ?_ 0 _ rfl; (with_reducible repeat (first | refine blk_drewN ?_ _ | refine blk_drew ?_ | refine blk_alloc ?_ _)); exact BK156.out⟩, ⟨(hb3_ HB.out GE154.out GE156.out GE158.out)⟩⟩
        ·
         replace c25 := Bool.eq_false_iff.mpr c25
         subst c25
         have H1 : (if x10_2.length < 977343669134 then (sum_Lay.l0 k2 l1 l2 (x10_2 ++ [(⟨(rd_T31 l0 x43_2).f0, (rd_T31 l0 x43_2).f1, (rd_T31 l0 x43_2).f2, (rd_T31 l0 x43_2).f3, (rd_T31 l0 x43_2).f4, (rd_T31 l0 x43_2).f5, (rd_T31 l0 x43_2).f6, (rd_T31 l0 x43_2).f7⟩ : S31)]) l0 (l0.length : Int) (wrap64 (x43_2 + 1)) (mx x157000_2 ((rd_T31 l0 x43_2).f0)) (mx x157001_2 ((rd_T31 l0 x43_2).f1)) y164 false) else (none)) = some (r1, r2, r3, r4, r5, r6, r7, r8, r9) := by rw [if_neg (show ¬ (false = true) by decide)] at H; exact H
         clear H
         have H := H1
         clear H1
         by_cases c54 : x10_2.length < 977343669134
         rotate_left
         ·
          rw [if_neg c54] at H
          exact absurd H (by simp)
         rw [if_pos c54] at H
         have LMc54 := Aside0.mk c54
         clear c54
         obtain ⟨y189, hy189⟩ : ∃ y_ : List (S31), y_ = (x10_2 ++ [(⟨(rd_T31 l0 x43_2).f0, (rd_T31 l0 x43_2).f1, (rd_T31 l0 x43_2).f2, (rd_T31 l0 x43_2).f3, (rd_T31 l0 x43_2).f4, (rd_T31 l0 x43_2).f5, (rd_T31 l0 x43_2).f6, (rd_T31 l0 x43_2).f7⟩ : S31)]) := ⟨_, rfl⟩
         replace H : (sum_Lay.l0 k2 l1 l2 y189 l0 (l0.length : Int) (wrap64 (x43_2 + 1)) (mx x157000_2 ((rd_T31 l0 x43_2).f0)) (mx x157001_2 ((rd_T31 l0 x43_2).f1)) y164 false) = some (r1, r2, r3, r4, r5, r6, r7, r8, r9) := by first | (rw [hy189]; with_reducible exact H) | (have H2_ := (Option.bind_some _ _).symm.trans H; rw [hy189]; with_reducible exact H2_) | (have H2_ := (Option.bind_some _ _).symm.trans H; with_reducible exact H2_) | with_reducible exact H | (rw [hy189]; exact H) | exact H
         have Ny189 := Aside0.mk hy189
         clear hy189
         obtain ⟨ji55, hji55⟩ : ∃ j_ : Int, (mx x157000_2 ((rd_T31 l0 x43_2).f0)) = j_ := ⟨_, rfl⟩
         replace H : (sum_Lay.l0 k2 l1 l2 y189 l0 (l0.length : Int) (wrap64 (x43_2 + 1)) ji55 (mx x157001_2 ((rd_T31 l0 x43_2).f1)) y164 false) = some (r1, r2, r3, r4, r5, r6, r7, r8, r9) := by first | (rw [hji55] at H; exact H) | (simp only [hji55] at H ⊢; exact H)
         (try rw [hji55] at A22)
         have hji55_ : (if x157000_2 < ((rd_T31 l0 x43_2).f0) then ((rd_T31 l0 x43_2).f0) else x157000_2) = ji55 := hji55
         obtain ⟨ji56, hji56⟩ : ∃ j_ : Int, (mx x157001_2 ((rd_T31 l0 x43_2).f1)) = j_ := ⟨_, rfl⟩
         replace H : (sum_Lay.l0 k2 l1 l2 y189 l0 (l0.length : Int) (wrap64 (x43_2 + 1)) ji55 ji56 y164 false) = some (r1, r2, r3, r4, r5, r6, r7, r8, r9) := by first | (rw [hji56] at H; exact H) | (simp only [hji56] at H ⊢; exact H)
         (try rw [hji56] at A22)
         have hji56_ : (if x157001_2 < ((rd_T31 l0 x43_2).f1) then ((rd_T31 l0 x43_2).f1) else x157001_2) = ji56 := hji56
         have H' := Aside0.mk H
         clear H
         have n0_ : Aside0 (Kd.N k31 31 (w38.setCell ⟨gb156, 5, none⟩ (.slice Ao39 y164.length co39)) w.heap.size (fun k_ => (P0_ k_ ∨ w.heap.size ≤ k_) ∧ some k_ ≠ (.slice Ao39 y164.length co39 : Value).ownBlock ∧ k_ ≠ gb154 ∧ k_ ≠ gb156 ∧ k_ ≠ gb158) u10 x10_2) := ⟨by (with_reducible repeat (first | apply Kd.N_alloc | apply Kd.N_drewN | apply Kd.N_drew)); exact Kd.N_mono (Kd.N_far (p := ⟨gb156, 5, none⟩) (Kd.N_mono HO_10.out (fun k_ hk => (⟨hk, hk.1.2.2.2.1⟩ : _ ∧ k_ ≠ gb156))) (fun _ hk => hk.2) (.slice Ao39 y164.length co39)) (fun _ hk => ⟨hk.1.1.1, ⟨hk.1.2, ⟨hk.1.1.2.2.1, ⟨hk.1.1.2.2.2.1, hk.1.1.2.2.2.2⟩⟩⟩⟩)⟩
         have n1_ : Aside0 (Kd.V k31 31 (w38.setCell ⟨gb156, 5, none⟩ (.slice Ao39 y164.length co39)) w.heap.size (fun k_ => (P0_ k_ ∨ w.heap.size ≤ k_) ∧ some k_ ≠ (u10 : Value).ownBlock ∧ some k_ ≠ (.slice Ao39 y164.length co39 : Value).ownBlock ∧ k_ ≠ gb154 ∧ k_ ≠ gb156 ∧ k_ ≠ gb158) (.slice (some ad157) l0.length c0) l0) := ⟨by (with_reducible repeat (first | apply Kd.V_alloc | apply Kd.V_drewN | apply Kd.V_drew)); exact Kd.V_mono (Kd.V_far (p := ⟨gb156, 5, none⟩) (Kd.V_mono HO_41.out (fun k_ hk => (⟨hk, hk.1.2.2.2.2.1⟩ : _ ∧ k_ ≠ gb156))) (fun _ hk => hk.2) (.slice Ao39 y164.length co39)) (fun _ hk => ⟨hk.1.1.1, ⟨hk.1.1.2.1, ⟨hk.1.2, ⟨hk.1.1.2.2.2.1, ⟨hk.1.1.2.2.2.2.1, hk.1.1.2.2.2.2.2⟩⟩⟩⟩⟩)⟩
         have n2_ : Aside0 (Kd.V (Kd.int .u8) 5 (w38.setCell ⟨gb156, 5, none⟩ (.slice Ao39 y164.length co39)) w.heap.size (fun k_ => (P0_ k_ ∨ w.heap.size ≤ k_) ∧ some k_ ≠ (u10 : Value).ownBlock ∧ some k_ ≠ (.slice Ao39 y164.length co39 : Value).ownBlock ∧ k_ ≠ gb154 ∧ k_ ≠ gb156 ∧ k_ ≠ gb158) (.slice A157_2 ((rd_T31 l0 x43_2).f2).length c157_2) ((rd_T31 l0 x43_2).f2)) := ⟨by (with_reducible repeat (first | apply Kd.V_alloc | apply Kd.V_drewN | apply Kd.V_drew)); exact Kd.V_mono (Kd.V_far (p := ⟨gb156, 5, none⟩) (Kd.V_mono HL157_2.out (fun k_ hk => (⟨hk, hk.1.2.2.2.2.1⟩ : _ ∧ k_ ≠ gb156))) (fun _ hk => hk.2) (.slice Ao39 y164.length co39)) (fun _ hk => ⟨hk.1.1.1, ⟨hk.1.1.2.1, ⟨hk.1.2, ⟨hk.1.1.2.2.2.1, ⟨hk.1.1.2.2.2.2.1, hk.1.1.2.2.2.2.2⟩⟩⟩⟩⟩)⟩
         have n3_ : Aside0 (Kd.V (Kd.int .i64) 3 (w38.setCell ⟨gb156, 5, none⟩ (.slice Ao39 y164.length co39)) w.heap.size (fun k_ => (P0_ k_ ∨ w.heap.size ≤ k_) ∧ some k_ ≠ (u10 : Value).ownBlock ∧ some k_ ≠ (.slice Ao39 y164.length co39 : Value).ownBlock ∧ k_ ≠ gb154 ∧ k_ ≠ gb156 ∧ k_ ≠ gb158) (.slice A157_3 ((rd_T31 l0 x43_2).f3).length c157_3) ((rd_T31 l0 x43_2).f3)) := ⟨by (with_reducible repeat (first | apply Kd.V_alloc | apply Kd.V_drewN | apply Kd.V_drew)); exact Kd.V_mono (Kd.V_far (p := ⟨gb156, 5, none⟩) (Kd.V_mono HL157_3.out (fun k_ hk => (⟨hk, hk.1.2.2.2.2.1⟩ : _ ∧ k_ ≠ gb156))) (fun _ hk => hk.2) (.slice Ao39 y164.length co39)) (fun _ hk => ⟨hk.1.1.1, ⟨hk.1.1.2.1, ⟨hk.1.2, ⟨hk.1.1.2.2.2.1, ⟨hk.1.1.2.2.2.2.1, hk.1.1.2.2.2.2.2⟩⟩⟩⟩⟩)⟩
         have n4_ : Aside0 (Kd.V k101 101 (w38.setCell ⟨gb156, 5, none⟩ (.slice Ao39 y164.length co39)) w.heap.size (fun k_ => (P0_ k_ ∨ w.heap.size ≤ k_) ∧ some k_ ≠ (u10 : Value).ownBlock ∧ some k_ ≠ (.slice Ao39 y164.length co39 : Value).ownBlock ∧ k_ ≠ gb154 ∧ k_ ≠ gb156 ∧ k_ ≠ gb158) (.slice A157_4 ((rd_T31 l0 x43_2).f4).length c157_4) ((rd_T31 l0 x43_2).f4)) := ⟨by (with_reducible repeat (first | apply Kd.V_alloc | apply Kd.V_drewN | apply Kd.V_drew)); exact Kd.V_mono (Kd.V_far (p := ⟨gb156, 5, none⟩) (Kd.V_mono HL157_4.out (fun k_ hk => (⟨hk, hk.1.2.2.2.2.1⟩ : _ ∧ k_ ≠ gb156))) (fun _ hk => hk.2) (.slice Ao39 y164.length co39)) (fun _ hk => ⟨hk.1.1.1, ⟨hk.1.1.2.1, ⟨hk.1.2, ⟨hk.1.1.2.2.2.1, ⟨hk.1.1.2.2.2.2.1, hk.1.1.2.2.2.2.2⟩⟩⟩⟩⟩)⟩
         have n5_ : Aside0 (Kd.V k79 79 (w38.setCell ⟨gb156, 5, none⟩ (.slice Ao39 y164.length co39)) w.heap.size (fun k_ => (P0_ k_ ∨ w.heap.size ≤ k_) ∧ some k_ ≠ (u10 : Value).ownBlock ∧ some k_ ≠ (.slice Ao39 y164.length co39 : Value).ownBlock ∧ k_ ≠ gb154 ∧ k_ ≠ gb156 ∧ k_ ≠ gb158) (.slice A157_5 ((rd_T31 l0 x43_2).f5).length c157_5) ((rd_T31 l0 x43_2).f5)) := ⟨by (with_reducible repeat (first | apply Kd.V_alloc | apply Kd.V_drewN | apply Kd.V_drew)); exact Kd.V_mono (Kd.V_far (p := ⟨gb156, 5, none⟩) (Kd.V_mono HL157_5.out (fun k_ hk => (⟨hk, hk.1.2.2.2.2.1⟩ : _ ∧ k_ ≠ gb156))) (fun _ hk => hk.2) (.slice Ao39 y164.length co39)) (fun _ hk => ⟨hk.1.1.1, ⟨hk.1.1.2.1, ⟨hk.1.2, ⟨hk.1.1.2.2.2.1, ⟨hk.1.1.2.2.2.2.1, hk.1.1.2.2.2.2.2⟩⟩⟩⟩⟩)⟩
         have n6_ : Aside0 (Kd.V (Kd.int .i64) 3 (w38.setCell ⟨gb156, 5, none⟩ (.slice Ao39 y164.length co39)) w.heap.size (fun k_ => (P0_ k_ ∨ w.heap.size ≤ k_) ∧ some k_ ≠ (u10 : Value).ownBlock ∧ some k_ ≠ (.slice Ao39 y164.length co39 : Value).ownBlock ∧ k_ ≠ gb154 ∧ k_ ≠ gb156 ∧ k_ ≠ gb158) (.slice A157_6 ((rd_T31 l0 x43_2).f6).length c157_6) ((rd_T31 l0 x43_2).f6)) := ⟨by (with_reducible repeat (first | apply Kd.V_alloc | apply Kd.V_drewN | apply Kd.V_drew)); exact Kd.V_mono (Kd.V_far (p := ⟨gb156, 5, none⟩) (Kd.V_mono HL157_6.out (fun k_ hk => (⟨hk, hk.1.2.2.2.2.1⟩ : _ ∧ k_ ≠ gb156))) (fun _ hk => hk.2) (.slice Ao39 y164.length co39)) (fun _ hk => ⟨hk.1.1.1, ⟨hk.1.1.2.1, ⟨hk.1.2, ⟨hk.1.1.2.2.2.1, ⟨hk.1.1.2.2.2.2.1, hk.1.1.2.2.2.2.2⟩⟩⟩⟩⟩)⟩
         have n7_ : Aside0 (Kd.N k79 79 (w38.setCell ⟨gb156, 5, none⟩ (.slice Ao39 y164.length co39)) w.heap.size (fun k_ => (P0_ k_ ∨ w.heap.size ≤ k_) ∧ some k_ ≠ (u10 : Value).ownBlock ∧ k_ ≠ gb154 ∧ k_ ≠ gb156 ∧ k_ ≠ gb158) (.slice Ao39 y164.length co39) y164) := ⟨by (with_reducible repeat (first | apply Kd.N_alloc | apply Kd.N_drewN | apply Kd.N_drew)); exact Kd.N_mono (Kd.N_far (p := ⟨gb156, 5, none⟩) (Kd.N_mono HO166.out (fun k_ hk => (⟨hk, hk.2.2.2.1⟩ : _ ∧ k_ ≠ gb156))) (fun _ hk => hk.2) (.slice Ao39 y164.length co39)) (fun _ hk => ⟨hk.1.1, ⟨hk.1.2.1, ⟨hk.1.2.2.1, ⟨hk.1.2.2.2.1, hk.1.2.2.2.2⟩⟩⟩⟩)⟩
         have n8_ : Aside0 ((w38.setCell ⟨gb156, 5, none⟩ (.slice Ao39 y164.length co39)).heap[gb154]? = some (.cells #[.int .i64 0, .int .i64 0, .slice none 0 0, .slice none 0 0, .slice none 0 0, .slice none 0 0, .slice none 0 0, .bool false] 31 (0, 0))) := ⟨by (with_reducible repeat (first | refine blk_drewN ?_ _ | refine blk_drew ?_ | refine blk_alloc ?_ _)); refine blk_far ?_ NB154_156.out _; (with_reducible repeat (first | refine blk_drewN ?_ _ | refine blk_drew ?_ | refine blk_alloc ?_ _)); exact BK154.out⟩
         have n9_ : Aside0 ((w38.setCell ⟨gb156, 5, none⟩ (.slice Ao39 y164.length co39)).heap[gb156]? = some (.cells #[.int .i64 x157000_2, .int .i64 x157001_2, .slice none 0 0, .slice none 0 0, .slice none 0 0, .slice Ao39 y164.length co39, .slice none 0 0, .bool false] 31 (0, 0))) := ⟨by (with_reducible repeat (first | refine blk_drewN ?_ _ | refine blk_drew ?_ | refine blk_alloc ?_ _)); refine blk_put (cs := #[.int .i64 x157000_2, .int .i64 x157001_2, .slice none 0 0, .slice none 0 0, .slice none 0 0, u157005, .slice none 0 0, .bool false]) ?_ 5 _ rfl; (with_reducible repeat (first | refine blk_drewN ?_ _ | refine blk_drew ?_ | refine blk_alloc ?_ _)); exact BK156.out⟩
         have n10_ : Aside0 ((w38.setCell ⟨gb156, 5, none⟩ (.slice Ao39 y164.length co39)).heap[gb158]? = some (.cells #[.int .i64 ((rd_T31 l0 x43_2).f0), .int .i64 ((rd_T31 l0 x43_2).f1), .slice A157_2 ((rd_T31 l0 x43_2).f2).length c157_2, .slice A157_3 ((rd_T31 l0 x43_2).f3).length c157_3, .slice A157_4 ((rd_T31 l0 x43_2).f4).length c157_4, .slice A157_5 ((rd_T31 l0 x43_2).f5).length c157_5, .slice A157_6 ((rd_T31 l0 x43_2).f6).length c157_6, .bool ((rd_T31 l0 x43_2).f7)] 31 (0, 0))) := ⟨by (with_reducible repeat (first | refine blk_drewN ?_ _ | refine blk_drew ?_ | refine blk_alloc ?_ _)); refine blk_far ?_ NB158_156.out _; (with_reducible repeat (first | refine blk_drewN ?_ _ | refine blk_drew ?_ | refine blk_alloc ?_ _)); exact BK158.out⟩
         have n11_ : Aside0 (Below w.heap.size w (w38.setCell ⟨gb156, 5, none⟩ (.slice Ao39 y164.length co39))) := ⟨(hb3_ HB.out GE154.out GE156.out GE158.out)⟩
         (try clear HO_10)
         (try clear HO_41)
         (try clear HL157_2)
         (try clear HL157_3)
         (try clear HL157_4)
         (try clear HL157_5)
         (try clear HL157_6)
         (try clear HO166)
         (try clear BK154)
         (try clear BK156)
         (try clear BK158)
         (try clear HB)
         generalize (w38.setCell ⟨gb156, 5, none⟩ (.slice Ao39 y164.length co39)) = w68 at n0_ n1_ n2_ n3_ n4_ n5_ n6_ n7_ n8_ n9_ n10_ n11_ ⊢
         revert n0_ n1_ n2_ n3_ n4_ n5_ n6_ n7_ n8_ n9_ n10_ n11_
         intro HO_10 HO_41 HL157_2 HL157_3 HL157_4 HL157_5 HL157_6 HO166 BK154 BK156 BK158 HB
         have p167 : 0 ≤ (x43_2 : Int) := od_
         have q167 : x43_2 < (l2.length : Int) := od_
         obtain ⟨ad167, e167, hx167_0⟩ := Kd.at_bool HR2.out x43_2 p167 q167
         (try rw [← Nbq24.out] at hx167_0)
         obtain rfl : ad160 = ad167 := (by injection e167)
         replace hx167_0 := (HB.out.cell (World.block_lt_of_cell? w _ hx167_0)).trans hx167_0
         replace p167 := eq_true p167
         replace q167 := eq_true q167
         obtain ⟨hcz69_0, hcz69_1, hcz69_2, hcz69_3, hcz69_4, hcz69_5, hcz69_6, hcz69_7, hfz69_0, hfz69_1, hfz69_2, hfz69_3, hfz69_4, hfz69_5, hfz69_6, hfz69_7⟩ := bx8_ BK158.out
         try go_wp2_with (first | ((with_reducible refine gate_builtin (b := .append) (xs := #[.tmp 72, .tmp 74]) rfl ?_); (try (refine gate_guard (by rfl) ?_; dsimp only)); at_builtin; refine Kd.N_append k31 (w0 := w) w.heap.size rfl (.tmp 72) (.tmp 74) 22 31 (.agg #[(.int .i64 0), (.int .i64 0), (.slice none 0 0), (.slice none 0 0), (.slice none 0 0), (.slice none 0 0), (.slice none 0 0), (.bool false)]) 144 rfl Try.underlying22 info31 rfl (by decide) (by omega) u10 x10_2 (⟨(rd_T31 l0 x43_2).f0, (rd_T31 l0 x43_2).f1, (rd_T31 l0 x43_2).f2, (rd_T31 l0 x43_2).f3, (rd_T31 l0 x43_2).f4, (rd_T31 l0 x43_2).f5, (rd_T31 l0 x43_2).f6, (rd_T31 l0 x43_2).f7⟩ : S31) [.int .i64 ((rd_T31 l0 x43_2).f0), .int .i64 ((rd_T31 l0 x43_2).f1), .slice A157_2 ((rd_T31 l0 x43_2).f2).length c157_2, .slice A157_3 ((rd_T31 l0 x43_2).f3).length c157_3, .slice A157_4 ((rd_T31 l0 x43_2).f4).length c157_4, .slice A157_5 ((rd_T31 l0 x43_2).f5).length c157_5, .slice A157_6 ((rd_T31 l0 x43_2).f6).length c157_6, .bool ((rd_T31 l0 x43_2).f7)] (fun k_ => (P0_ k_ ∨ w.heap.size ≤ k_) ∧ some k_ ≠ (.slice Ao39 y164.length co39 : Value).ownBlock ∧ k_ ≠ gb154 ∧ k_ ≠ gb156 ∧ k_ ≠ gb158) (fun k_ => ((fun k_ => (P0_ k_ ∨ w.heap.size ≤ k_) ∧ some k_ ≠ (.slice Ao39 y164.length co39 : Value).ownBlock ∧ k_ ≠ gb154 ∧ k_ ≠ gb156 ∧ k_ ≠ gb158)) k_ ∧ some k_ ≠ (u10 : Value).ownBlock) rfl rfl ?aP (fun _ hk => hk) ?aF ?aO ?aB ?aS ?aL ?_; (case aP => exact (k31_mkF _ _ (⟨(rd_T31 l0 x43_2).f0, (rd_T31 l0 x43_2).f1, (rd_T31 l0 x43_2).f2, (rd_T31 l0 x43_2).f3, (rd_T31 l0 x43_2).f4, (rd_T31 l0 x43_2).f5, (rd_T31 l0 x43_2).f6, (rd_T31 l0 x43_2).f7⟩ : S31) (Kd.V_reads' (Kd.V_mono (ok' := (fun k_ => ((fun k_ => (P0_ k_ ∨ w.heap.size ≤ k_) ∧ some k_ ≠ (.slice Ao39 y164.length co39 : Value).ownBlock ∧ k_ ≠ gb154 ∧ k_ ≠ gb156 ∧ k_ ≠ gb158)) k_ ∧ some k_ ≠ (u10 : Value).ownBlock)) (HL157_2.out) (fun k_ hk => ⟨⟨hk.1, ⟨hk.2.2.1, ⟨hk.2.2.2.1, ⟨hk.2.2.2.2.1, hk.2.2.2.2.2⟩⟩⟩⟩, hk.2.1⟩))).2.1 (Kd.V_F (Kd.V_mono (ok' := (fun k_ => ((fun k_ => (P0_ k_ ∨ w.heap.size ≤ k_) ∧ some k_ ≠ (.slice Ao39 y164.length co39 : Value).ownBlock ∧ k_ ≠ gb154 ∧ k_ ≠ gb156 ∧ k_ ≠ gb158)) k_ ∧ some k_ ≠ (u10 : Value).ownBlock)) (HL157_2.out) (fun k_ hk => ⟨⟨hk.1, ⟨hk.2.2.1, ⟨hk.2.2.2.1, ⟨hk.2.2.2.2.1, hk.2.2.2.2.2⟩⟩⟩⟩, hk.2.1⟩))) (Kd.V_reads' (Kd.V_mono (ok' := (fun k_ => ((fun k_ => (P0_ k_ ∨ w.heap.size ≤ k_) ∧ some k_ ≠ (.slice Ao39 y164.length co39 : Value).ownBlock ∧ k_ ≠ gb154 ∧ k_ ≠ gb156 ∧ k_ ≠ gb158)) k_ ∧ some k_ ≠ (u10 : Value).ownBlock)) (HL157_3.out) (fun k_ hk => ⟨⟨hk.1, ⟨hk.2.2.1, ⟨hk.2.2.2.1, ⟨hk.2.2.2.2.1, hk.2.2.2.2.2⟩⟩⟩⟩, hk.2.1⟩))).2.1 (Kd.V_F (Kd.V_mono (ok' := (fun k_ => ((fun k_ => (P0_ k_ ∨ w.heap.size ≤ k_) ∧ some k_ ≠ (.slice Ao39 y164.length co39 : Value).ownBlock ∧ k_ ≠ gb154 ∧ k_ ≠ gb156 ∧ k_ ≠ gb158)) k_ ∧ some k_ ≠ (u10 : Value).ownBlock)) (HL157_3.out) (fun k_ hk => ⟨⟨hk.1, ⟨hk.2.2.1, ⟨hk.2.2.2.1, ⟨hk.2.2.2.2.1, hk.2.2.2.2.2⟩⟩⟩⟩, hk.2.1⟩))) (Kd.V_reads' (Kd.V_mono (ok' := (fun k_ => ((fun k_ => (P0_ k_ ∨ w.heap.size ≤ k_) ∧ some k_ ≠ (.slice Ao39 y164.length co39 : Value).ownBlock ∧ k_ ≠ gb154 ∧ k_ ≠ gb156 ∧ k_ ≠ gb158)) k_ ∧ some k_ ≠ (u10 : Value).ownBlock)) (HL157_4.out) (fun k_ hk => ⟨⟨hk.1, ⟨hk.2.2.1, ⟨hk.2.2.2.1, ⟨hk.2.2.2.2.1, hk.2.2.2.2.2⟩⟩⟩⟩, hk.2.1⟩))).2.1 (Kd.V_F (Kd.V_mono (ok' := (fun k_ => ((fun k_ => (P0_ k_ ∨ w.heap.size ≤ k_) ∧ some k_ ≠ (.slice Ao39 y164.length co39 : Value).ownBlock ∧ k_ ≠ gb154 ∧ k_ ≠ gb156 ∧ k_ ≠ gb158)) k_ ∧ some k_ ≠ (u10 : Value).ownBlock)) (HL157_4.out) (fun k_ hk => ⟨⟨hk.1, ⟨hk.2.2.1, ⟨hk.2.2.2.1, ⟨hk.2.2.2.2.1, hk.2.2.2.2.2⟩⟩⟩⟩, hk.2.1⟩))) (Kd.V_reads' (Kd.V_mono (ok' := (fun k_ => ((fun k_ => (P0_ k_ ∨ w.heap.size ≤ k_) ∧ some k_ ≠ (.slice Ao39 y164.length co39 : Value).ownBlock ∧ k_ ≠ gb154 ∧ k_ ≠ gb156 ∧ k_ ≠ gb158)) k_ ∧ some k_ ≠ (u10 : Value).ownBlock)) (HL157_5.out) (fun k_ hk => ⟨⟨hk.1, ⟨hk.2.2.1, ⟨hk.2.2.2.1, ⟨hk.2.2.2.2.1, hk.2.2.2.2.2⟩⟩⟩⟩, hk.2.1⟩))).2.1 (Kd.V_F (Kd.V_mono (ok' := (fun k_ => ((fun k_ => (P0_ k_ ∨ w.heap.size ≤ k_) ∧ some k_ ≠ (.slice Ao39 y164.length co39 : Value).ownBlock ∧ k_ ≠ gb154 ∧ k_ ≠ gb156 ∧ k_ ≠ gb158)) k_ ∧ some k_ ≠ (u10 : Value).ownBlock)) (HL157_5.out) (fun k_ hk => ⟨⟨hk.1, ⟨hk.2.2.1, ⟨hk.2.2.2.1, ⟨hk.2.2.2.2.1, hk.2.2.2.2.2⟩⟩⟩⟩, hk.2.1⟩))) (Kd.V_reads' (Kd.V_mono (ok' := (fun k_ => ((fun k_ => (P0_ k_ ∨ w.heap.size ≤ k_) ∧ some k_ ≠ (.slice Ao39 y164.length co39 : Value).ownBlock ∧ k_ ≠ gb154 ∧ k_ ≠ gb156 ∧ k_ ≠ gb158)) k_ ∧ some k_ ≠ (u10 : Value).ownBlock)) (HL157_6.out) (fun k_ hk => ⟨⟨hk.1, ⟨hk.2.2.1, ⟨hk.2.2.2.1, ⟨hk.2.2.2.2.1, hk.2.2.2.2.2⟩⟩⟩⟩, hk.2.1⟩))).2.1 (Kd.V_F (Kd.V_mono (ok' := (fun k_ => ((fun k_ => (P0_ k_ ∨ w.heap.size ≤ k_) ∧ some k_ ≠ (.slice Ao39 y164.length co39 : Value).ownBlock ∧ k_ ≠ gb154 ∧ k_ ≠ gb156 ∧ k_ ≠ gb158)) k_ ∧ some k_ ≠ (u10 : Value).ownBlock)) (HL157_6.out) (fun k_ hk => ⟨⟨hk.1, ⟨hk.2.2.1, ⟨hk.2.2.2.1, ⟨hk.2.2.2.2.1, hk.2.2.2.2.2⟩⟩⟩⟩, hk.2.1⟩))))); (case aB => exact (hb3_ HB.out GE154.out GE156.out GE158.out)); (case aF => exact (fun k_ hk => ⟨(.inr (Nat.le_trans (below_size (hb3_ HB.out GE154.out GE156.out GE158.out)) hk)), Kd.fresh' (Kd.N_lt (kN_ HO166.out)) k_ hk, Kd.freshB (g := gb154) (o := .cells #[.int .i64 0, .int .i64 0, .slice none 0 0, .slice none 0 0, .slice none 0 0, .slice none 0 0, .slice none 0 0, .bool false] 31 (0, 0)) (bk_ BK154.out) k_ hk, Kd.freshB (g := gb156) (o := .cells #[.int .i64 x157000_2, .int .i64 x157001_2, .slice none 0 0, .slice none 0 0, .slice none 0 0, .slice Ao39 y164.length co39, .slice none 0 0, .bool false] 31 (0, 0)) (bk_ BK156.out) k_ hk, Kd.freshB (g := gb158) (o := .cells #[.int .i64 ((rd_T31 l0 x43_2).f0), .int .i64 ((rd_T31 l0 x43_2).f1), .slice A157_2 ((rd_T31 l0 x43_2).f2).length c157_2, .slice A157_3 ((rd_T31 l0 x43_2).f3).length c157_3, .slice A157_4 ((rd_T31 l0 x43_2).f4).length c157_4, .slice A157_5 ((rd_T31 l0 x43_2).f5).length c157_5, .slice A157_6 ((rd_T31 l0 x43_2).f6).length c157_6, .bool ((rd_T31 l0 x43_2).f7)] 31 (0, 0)) (bk_ BK158.out) k_ hk⟩)); (case aO => exact (kN_ HO_10.out)); (case aS => exact (below_size (hb3_ HB.out GE154.out GE156.out GE158.out))); (case aL => have := LMc54.out; omega); intro v190 w70 ho hb hg hat; rw [← Ny189.out] at ho; have n0_ := Aside0.mk (Kd.V_afterv (ok := (fun k_ => (P0_ k_ ∨ w.heap.size ≤ k_) ∧ some k_ ≠ (.slice Ao39 y164.length co39 : Value).ownBlock ∧ k_ ≠ gb154 ∧ k_ ≠ gb156 ∧ k_ ≠ gb158)) (by (with_reducible repeat (first | apply Kd.V_alloc | apply Kd.V_drewN | apply Kd.V_drew)); exact Kd.V_mono HO_41.out (fun _ hk => ⟨⟨hk.1, ⟨hk.2.2.1, ⟨hk.2.2.2.1, ⟨hk.2.2.2.2.1, hk.2.2.2.2.2⟩⟩⟩⟩, hk.2.1⟩)) hg hat); have n1_ := Aside0.mk (blk_grown (g := gb154) (o := .cells #[.int .i64 0, .int .i64 0, .slice none 0 0, .slice none 0 0, .slice none 0 0, .slice none 0 0, .slice none 0 0, .bool false] 31 (0, 0)) (bk_ BK154.out) hg (Kd.N_away HO_10.out (fun _ hk => hk.2.2.1))); have n2_ := Aside0.mk (blk_grown (g := gb156) (o := .cells #[.int .i64 x157000_2, .int .i64 x157001_2, .slice none 0 0, .slice none 0 0, .slice none 0 0, .slice Ao39 y164.length co39, .slice none 0 0, .bool false] 31 (0, 0)) (bk_ BK156.out) hg (Kd.N_away HO_10.out (fun _ hk => hk.2.2.2.1))); have n3_ := Aside0.mk (Kd.V_afterv (ok := (fun k_ => (P0_ k_ ∨ w.heap.size ≤ k_) ∧ some k_ ≠ (.slice Ao39 y164.length co39 : Value).ownBlock ∧ k_ ≠ gb154 ∧ k_ ≠ gb156 ∧ k_ ≠ gb158)) (by (with_reducible repeat (first | apply Kd.V_alloc | apply Kd.V_drewN | apply Kd.V_drew)); exact Kd.V_mono HL157_2.out (fun _ hk => ⟨⟨hk.1, ⟨hk.2.2.1, ⟨hk.2.2.2.1, ⟨hk.2.2.2.2.1, hk.2.2.2.2.2⟩⟩⟩⟩, hk.2.1⟩)) hg hat); have n4_ := Aside0.mk (Kd.V_afterv (ok := (fun k_ => (P0_ k_ ∨ w.heap.size ≤ k_) ∧ some k_ ≠ (.slice Ao39 y164.length co39 : Value).ownBlock ∧ k_ ≠ gb154 ∧ k_ ≠ gb156 ∧ k_ ≠ gb158)) (by (with_reducible repeat (first | apply Kd.V_alloc | apply Kd.V_drewN | apply Kd.V_drew)); exact Kd.V_mono HL157_3.out (fun _ hk => ⟨⟨hk.1, ⟨hk.2.2.1, ⟨hk.2.2.2.1, ⟨hk.2.2.2.2.1, hk.2.2.2.2.2⟩⟩⟩⟩, hk.2.1⟩)) hg hat); have n5_ := Aside0.mk (Kd.V_afterv (ok := (fun k_ => (P0_ k_ ∨ w.heap.size ≤ k_) ∧ some k_ ≠ (.slice Ao39 y164.length co39 : Value).ownBlock ∧ k_ ≠ gb154 ∧ k_ ≠ gb156 ∧ k_ ≠ gb158)) (by (with_reducible repeat (first | apply Kd.V_alloc | apply Kd.V_drewN | apply Kd.V_drew)); exact Kd.V_mono HL157_4.out (fun _ hk => ⟨⟨hk.1, ⟨hk.2.2.1, ⟨hk.2.2.2.1, ⟨hk.2.2.2.2.1, hk.2.2.2.2.2⟩⟩⟩⟩, hk.2.1⟩)) hg hat); have n6_ := Aside0.mk (Kd.V_afterv (ok := (fun k_ => (P0_ k_ ∨ w.heap.size ≤ k_) ∧ some k_ ≠ (.slice Ao39 y164.length co39 : Value).ownBlock ∧ k_ ≠ gb154 ∧ k_ ≠ gb156 ∧ k_ ≠ gb158)) (by (with_reducible repeat (first | apply Kd.V_alloc | apply Kd.V_drewN | apply Kd.V_drew)); exact Kd.V_mono HL157_5.out (fun _ hk => ⟨⟨hk.1, ⟨hk.2.2.1, ⟨hk.2.2.2.1, ⟨hk.2.2.2.2.1, hk.2.2.2.2.2⟩⟩⟩⟩, hk.2.1⟩)) hg hat); have n7_ := Aside0.mk (Kd.V_afterv (ok := (fun k_ => (P0_ k_ ∨ w.heap.size ≤ k_) ∧ some k_ ≠ (.slice Ao39 y164.length co39 : Value).ownBlock ∧ k_ ≠ gb154 ∧ k_ ≠ gb156 ∧ k_ ≠ gb158)) (by (with_reducible repeat (first | apply Kd.V_alloc | apply Kd.V_drewN | apply Kd.V_drew)); exact Kd.V_mono HL157_6.out (fun _ hk => ⟨⟨hk.1, ⟨hk.2.2.1, ⟨hk.2.2.2.1, ⟨hk.2.2.2.2.1, hk.2.2.2.2.2⟩⟩⟩⟩, hk.2.1⟩)) hg hat); have n8_ := Aside0.mk (blk_grown (g := gb158) (o := .cells #[.int .i64 ((rd_T31 l0 x43_2).f0), .int .i64 ((rd_T31 l0 x43_2).f1), .slice A157_2 ((rd_T31 l0 x43_2).f2).length c157_2, .slice A157_3 ((rd_T31 l0 x43_2).f3).length c157_3, .slice A157_4 ((rd_T31 l0 x43_2).f4).length c157_4, .slice A157_5 ((rd_T31 l0 x43_2).f5).length c157_5, .slice A157_6 ((rd_T31 l0 x43_2).f6).length c157_6, .bool ((rd_T31 l0 x43_2).f7)] 31 (0, 0)) (bk_ BK158.out) hg (Kd.N_away HO_10.out (fun _ hk => hk.2.2.2.2))); have n9_ := Aside0.mk (Kd.N_afterv (ok := (fun k_ => (P0_ k_ ∨ w.heap.size ≤ k_) ∧ k_ ≠ gb154 ∧ k_ ≠ gb156 ∧ k_ ≠ gb158)) (by (with_reducible repeat (first | apply Kd.N_alloc | apply Kd.N_drewN | apply Kd.N_drew)); exact Kd.N_mono HO166.out (fun _ hk => ⟨⟨hk.1, ⟨hk.2.2.1, ⟨hk.2.2.2.1, hk.2.2.2.2⟩⟩⟩, hk.2.1⟩)) hg hat); have n10_ := Aside0.mk (hb); have n11_ := Aside0.mk (ho); clear HO_41 BK154 BK156 HL157_2 HL157_3 HL157_4 HL157_5 HL157_6 BK158 HO166 HB HO_10; revert n0_ n1_ n2_ n3_ n4_ n5_ n6_ n7_ n8_ n9_ n10_ n11_; intro HO_41 BK154 BK156 HL157_2 HL157_3 HL157_4 HL157_5 HL157_6 BK158 HO166 HB HO191; clear ho hb hg hat))
         have n0_ := Aside0.mk (Kd.V_drew HO_41.out)
         have n1_ := Aside0.mk (Kd.V_drew HL157_2.out)
         have n2_ := Aside0.mk (Kd.V_drew HL157_3.out)
         have n3_ := Aside0.mk (Kd.V_drew HL157_4.out)
         have n4_ := Aside0.mk (Kd.V_drew HL157_5.out)
         have n5_ := Aside0.mk (Kd.V_drew HL157_6.out)
         have n6_ := Aside0.mk (Kd.N_drew HO166.out)
         have n7_ := Aside0.mk (Kd.N_drew HO191.out)
         have n8_ := Aside0.mk (blk_drew BK154.out)
         have n9_ := Aside0.mk (blk_drew BK156.out)
         have n10_ := Aside0.mk (blk_drew BK158.out)
         have n11_ := Aside0.mk (below_drew1 HB.out)
         clear HO_41
         clear HL157_2
         clear HL157_3
         clear HL157_4
         clear HL157_5
         clear HL157_6
         clear HO166
         clear HO191
         clear BK154
         clear BK156
         clear BK158
         clear HB
         revert n0_ n1_ n2_ n3_ n4_ n5_ n6_ n7_ n8_ n9_ n10_ n11_
         intro HO_41 HL157_2 HL157_3 HL157_4 HL157_5 HL157_6 HO166 HO191 BK154 BK156 BK158 HB
         refine start_ (n := 14) (S := fun w' => w'.cell? ⟨gb156, 1, none⟩ = some (.int .i64 x157001_2) ∧ w'.cell? ⟨gb158, 0, none⟩ = some (.int .i64 ((rd_T31 l0 x43_2).f0)) ∧ w'.cell? ⟨gb158, 1, none⟩ = some (.int .i64 ((rd_T31 l0 x43_2).f1))) (ds := [13]) #[false,false,false,false,false,false,false,false,false,false,false,false,false,false] (by kernel_rfl) rfl rfl ⟨(blk_cell BK156.out 1).trans rfl, (blk_cell BK158.out 0).trans rfl, (blk_cell BK158.out 1).trans rfl⟩ (fun hHeld => ?_); refine with_tabW sum_Lay.tab15 sum_Lay.bits15 (fun HT_ HW_ => ?_)
         generalize w70.drew = w71 at HO_41 HL157_2 HL157_3 HL157_4 HL157_5 HL157_6 HO166 HO191 BK154 BK156 BK158 HB hHeld ⊢
         have hLd0_0 := (blk_cell BK156.out 0).trans (rfl : _ = some ((.int .i64 x157000_2) : Value))
         refine pure_ (i := 0) (N := some 76) (v := ?_) (a' := ?_) #[true,false,false,false,false,false,false,false,false,false,false,false,false,false] rfl rfl (any_of HT_.out (by kernel_rfl)) (fun _ _ _ h => h) (Or.inl ⟨by rfl, ?_⟩) ?_ ?_
         rotate_left
         ·
          intro w'
          go_simp
          with_reducible rfl
         rotate_left
         ·
          simp only [Act.put, setIfInBounds_toArray, set_cons_zero, set_cons_succ, i64_w, i32_w]
          rfl
         refine pure_ (i := 2) (N := some 78) (v := ?_) (a' := ?_) #[true,false,true,false,false,false,false,false,false,false,false,false,false,false] rfl rfl (any_of HT_.out (by kernel_rfl)) (fun _ _ _ h => h) (Or.inl ⟨by rfl, ?_⟩) ?_ ?_
         rotate_left
         ·
          intro w'
          go_simp
          with_reducible rfl
         rotate_left
         ·
          simp only [Act.put, setIfInBounds_toArray, set_cons_zero, set_cons_succ, i64_w, i32_w]
          rfl
         refine pure_ (i := 5) (N := some 81) (v := ?_) (a' := ?_) #[true,false,true,false,false,true,false,false,false,false,false,false,false,false] rfl rfl (any_of HT_.out (by kernel_rfl)) (fun _ _ _ h => h) (Or.inl ⟨by rfl, ?_⟩) ?_ ?_
         rotate_left
         ·
          intro w'
          go_simp
          with_reducible rfl
         rotate_left
         ·
          simp only [Act.put, setIfInBounds_toArray, set_cons_zero, set_cons_succ, i64_w, i32_w]
          rfl
         refine pure_ (i := 7) (N := some 83) (v := ?_) (a' := ?_) #[true,false,true,false,false,true,false,true,false,false,false,false,false,false] rfl rfl (any_of HT_.out (by kernel_rfl)) (fun _ _ _ h => h) (Or.inl ⟨by rfl, ?_⟩) ?_ ?_
         rotate_left
         ·
          intro w'
          go_simp
          with_reducible rfl
         rotate_left
         ·
          simp only [Act.put, setIfInBounds_toArray, set_cons_zero, set_cons_succ, i64_w, i32_w]
          rfl
         refine take_ (i := 3) (N := some 79) (v := ?_) (a' := ?_) #[true,false,true,true,false,true,false,true,false,false,false,false,false,false] rfl rfl (take_ofW HT_.out HW_.out (by kernel_rfl)) (fun _ _ _ h => h) (Or.inl ⟨by rfl, ?_⟩) hHeld ?_ ?_
         rotate_left
         ·
          rintro w' ⟨s0, s1, s2⟩
          go_simp
          with_reducible rfl
         rotate_left
         ·
          simp only [Act.put, setIfInBounds_toArray, set_cons_zero, set_cons_succ, i64_w, i32_w]
          rfl
         refine take_ (i := 6) (N := some 82) (v := ?_) (a' := ?_) #[true,false,true,true,false,true,true,true,false,false,false,false,false,false] rfl rfl (take_ofW HT_.out HW_.out (by kernel_rfl)) (fun _ _ _ h => h) (Or.inl ⟨by rfl, ?_⟩) hHeld ?_ ?_
         rotate_left
         ·
          rintro w' ⟨s0, s1, s2⟩
          go_simp
          with_reducible rfl
         rotate_left
         ·
          simp only [Act.put, setIfInBounds_toArray, set_cons_zero, set_cons_succ, i64_w, i32_w]
          rfl
         refine take_ (i := 8) (N := some 84) (v := ?_) (a' := ?_) #[true,false,true,true,false,true,true,true,true,false,false,false,false,false] rfl rfl (take_ofW HT_.out HW_.out (by kernel_rfl)) (fun _ _ _ h => h) (Or.inl ⟨by rfl, ?_⟩) hHeld ?_ ?_
         rotate_left
         ·
          rintro w' ⟨s0, s1, s2⟩
          go_simp
          with_reducible rfl
         rotate_left
         ·
          simp only [Act.put, setIfInBounds_toArray, set_cons_zero, set_cons_succ, i64_w, i32_w]
          rfl
         refine pure_ (i := 9) (N := some 85) (v := ?_) (a' := ?_) #[true,false,true,true,false,true,true,true,true,true,false,false,false,false] rfl rfl (any_of HT_.out (by kernel_rfl)) (fun _ _ _ h => h) (Or.inl ⟨by rfl, ?_⟩) ?_ ?_
         rotate_left
         ·
          intro w'
          go_simp
          with_reducible rfl
         rotate_left
         ·
          simp only [Act.put, setIfInBounds_toArray, set_cons_zero, set_cons_succ, i64_w, i32_w]
          rfl
         refine one_ (i := 1) (N := some 77) #[true,true,true,true,false,true,true,true,true,true,false,false,false,false] rfl rfl (one_of HT_.out (by kernel_rfl)) (by decide) (fun K hK => ?_)
         refine value_ (w1 := ?_) (v := ?_) (by rfl) rfl ?_ ?_
         rotate_left 2
         ·
          go_simp
          constructor
          ·
           rfl
          ·
           rfl
         refine hK.out _ _ ⟨hHeld.1, hHeld.2.1, hHeld.2.2⟩ (fun hHeld => ?_)
         clear hK K
         refine norm_ (a' := ?_) ?_ ?_
         rotate_left
         ·
          show Act.put _ (some 77) _ = _
          simp only [Act.put, setIfInBounds_toArray, set_cons_zero, set_cons_succ, i64_w, i32_w]
          rfl
         refine pure_ (i := 4) (N := some 80) (v := ?_) (a' := ?_) #[true,true,true,true,true,true,true,true,true,true,false,false,false,false] rfl rfl (any_of HT_.out (by kernel_rfl)) (fun _ _ _ h => h) (Or.inl ⟨by rfl, ?_⟩) ?_ ?_
         rotate_left
         ·
          intro w'
          go_simp
          with_reducible rfl
         rotate_left
         ·
          simp only [Act.put, setIfInBounds_toArray, set_cons_zero, set_cons_succ, i64_w, i32_w]
          rfl
         refine pure_ (i := 10) (N := some 86) (v := ?_) (a' := ?_) #[true,true,true,true,true,true,true,true,true,true,true,false,false,false] rfl rfl (any_of HT_.out (by kernel_rfl)) (fun _ _ _ h => h) (Or.inl ⟨by rfl, ?_⟩) ?_ ?_
         rotate_left
         ·
          intro w'
          go_simp
          with_reducible rfl
         rotate_left
         ·
          simp only [Act.put, setIfInBounds_toArray, set_cons_zero, set_cons_succ, i64_w, i32_w]
          rfl
         refine one_ (i := 11) (N := none) #[true,true,true,true,true,true,true,true,true,true,true,true,false,false] rfl rfl (one_of HT_.out (by kernel_rfl)) (by decide) (fun K hK => ?_)
         have hs72 : w71.cell? ⟨gb156, 0, none⟩ = some (.int .i64 x157000_2) := (blk_cell BK156.out 0).trans rfl
         have hfs72 := blk_frozen BK156.out 0
         have hns72_0 := NB154_156.out
         have hns72_2 := NB158_156.out
         have hms72_0 := NB156_154.out
         have hms72_2 := NB156_158.out
         refine skip_ (w1 := ?_) (by rfl) rfl ?_ ?_
         rotate_left
         ·
          go_simp
          rfl
         refine hK.out _ _ ⟨((World.cell?_setCell_other _ ⟨gb156, 0, none⟩ ⟨gb156, 1, none⟩ _ (by simp)).trans (hHeld.1)), ((cell_far (p := ⟨gb156, _, none⟩) NB158_156.out _).trans (hHeld.2.1)), ((cell_far (p := ⟨gb156, _, none⟩) NB158_156.out _).trans (hHeld.2.2))⟩ (fun hHeld => ?_)
         clear hK K
         refine pure_ (i := 12) (N := some 87) (v := ?_) (a' := ?_) #[true,true,true,true,true,true,true,true,true,true,true,true,true,false] rfl rfl (any_of HT_.out (by kernel_rfl)) (fun _ _ _ h => h) (Or.inl ⟨by rfl, ?_⟩) ?_ ?_
         rotate_left
         ·
          intro w'
          go_simp
          with_reducible rfl
         rotate_left
         ·
          simp only [Act.put, setIfInBounds_toArray, set_cons_zero, set_cons_succ, i64_w, i32_w]
          rfl
         refine last_ (i := 13) (N := none) #[true,true,true,true,true,true,true,true,true,true,true,true,true,true] rfl rfl (one_of HT_.out (by kernel_rfl)) (by decide) (fun K hK => ?_)
         have hs73 : w71.cell? ⟨gb156, 1, none⟩ = some (.int .i64 x157001_2) := (blk_cell BK156.out 1).trans rfl
         have hfs73 := blk_frozen BK156.out 1
         have hns73_0 := NB154_156.out
         have hns73_2 := NB158_156.out
         have hms73_0 := NB156_154.out
         have hms73_2 := NB156_158.out
         refine skip_ (w1 := ?_) (by rfl) rfl ?_ ?_
         rotate_left
         ·
          go_simp
          rfl
         refine hK.out _ _ ?_
         clear hK K
         refine done_ (done_of HT_.out (by kernel_rfl)) ?_
         try go_wp2
         go_roundg k2
         case measure => have := HJ4.out; have := HK2.out; omega
         case rel => exact ⟨(y189), (wrap64 (x43_2 + 1)), (ji55), (ji56), (y164), (.slice Ao39 y164.length co39), (by first | rfl | (simp; done) | (simp [*]; done)), H', ⟨by have := HJ4.out; have := HK2.out; omega⟩, ⟨by (with_reducible repeat (first | apply Kd.N_alloc | apply Kd.N_drewN | apply Kd.N_drew)); exact Kd.N_mono (Kd.N_far (p := ⟨gb156, 1, none⟩) (Kd.N_far (p := ⟨gb156, 0, none⟩) (Kd.N_mono HO191.out (fun k_ hk => (⟨hk, hk.2.2.2.1⟩ : _ ∧ k_ ≠ gb156))) (fun _ hk => hk.2) (.int .i64 ji55)) (fun _ hk => hk.2) (.int .i64 ji56)) (fun _ hk => ⟨hk.1.1, ⟨hk.1.2.1, ⟨hk.1.2.2.1, hk.1.2.2.2.1⟩⟩⟩)⟩, ⟨by (with_reducible repeat (first | apply Kd.V_alloc | apply Kd.V_drewN | apply Kd.V_drew)); exact Kd.V_mono (Kd.V_far (p := ⟨gb156, 1, none⟩) (Kd.V_far (p := ⟨gb156, 0, none⟩) (Kd.V_mono HO_41.out (fun k_ hk => (⟨hk, hk.1.2.2.2.1⟩ : _ ∧ k_ ≠ gb156))) (fun _ hk => hk.2) (.int .i64 ji55)) (fun _ hk => hk.2) (.int .i64 ji56)) (fun _ hk => ⟨hk.1.1.1, ⟨hk.1.2, ⟨hk.1.1.2.1, ⟨hk.1.1.2.2.1, hk.1.1.2.2.2.1⟩⟩⟩⟩)⟩, ⟨by (with_reducible repeat (first | apply Kd.N_alloc | apply Kd.N_drewN | apply Kd.N_drew)); exact Kd.N_mono (Kd.N_far (p := ⟨gb156, 1, none⟩) (Kd.N_far (p := ⟨gb156, 0, none⟩) (Kd.N_mono HO166.out (fun k_ hk => (⟨hk, hk.1.2.2.1⟩ : _ ∧ k_ ≠ gb156))) (fun _ hk => hk.2) (.int .i64 ji55)) (fun _ hk => hk.2) (.int .i64 ji56)) (fun _ hk => ⟨hk.1.1.1, ⟨hk.1.2, ⟨hk.1.1.2.1, hk.1.1.2.2.1⟩⟩⟩)⟩, ⟨by (with_reducible repeat (first | refine blk_drewN ?_ _ | refine blk_drew ?_ | refine blk_alloc ?_ _)); refine blk_far ?_ NB154_156.out _; (with_reducible repeat (first | refine blk_drewN ?_ _ | refine blk_drew ?_ | refine blk_alloc ?_ _)); refine blk_far ?_ NB154_156.out _; (with_reducible repeat (first | refine blk_drewN ?_ _ | refine blk_drew ?_ | refine blk_alloc ?_ _)); exact BK154.out⟩, ⟨by (with_reducible repeat (first | refine blk_drewN ?_ _ | refine blk_drew ?_ | refine blk_alloc ?_ _)); refine blk_put (cs := #[.int .i64 ji55, .int .i64 x157001_2, .slice none 0 0, .slice none 0 0, .slice none 0 0, .slice Ao39 y164.length co39, .slice none 0 0, .bool false]) ?_ 1 _ rfl; (with_reducible repeat (first | refine blk_drewN ?_ _ | refine blk_drew ?_ | refine blk_alloc ?_ _)); refine blk_put (cs := #[.int .i64 x157000_2, .int .i64 x157001_2, .slice none 0 0, .slice none 0 0, .slice none 0 0, .slice Ao39 y164.length co39, .slice none 0 0, .bool false]) ?_ 0 _ rfl; (with_reducible repeat (first | refine blk_drewN ?_ _ | refine blk_drew ?_ | refine blk_alloc ?_ _)); exact BK156.out⟩, ⟨(hb3_ HB.out GE154.out GE156.out GE158.out)⟩⟩
       ·
        rw [if_neg c17] at H
        have c17b0 : decide (x43_2 < (l0.length : Int)) = false := decide_eq_false c17
        clear c17
        replace H := Option.bind_eq_some_iff.mp H
        obtain ⟨t192, A740, H⟩ := H
        try dsimp only at H
        have A74 := Aside0.mk A740
        clear A740
        replace H := Option.bind_eq_some_iff.mp H
        obtain ⟨t195, A750, H⟩ := H
        try dsimp only at H
        have A75 := Aside0.mk A750
        clear A750
        replace H := Option.bind_eq_some_iff.mp H
        obtain ⟨⟨t196, t197⟩, A760, H⟩ := H
        try dsimp only at H
        have A76 := Aside0.mk A760
        clear A760
        by_cases c77 : t197 = true
        ·
         subst c77
         have H1 : ((mask_Clear.f k2 t192 t196).bind fun t200 => (some (x157000_2, x157001_2, t200, ([] : List Int), ([] : List (S101)), x157005_2, t196, false, 0))) = some (r1, r2, r3, r4, r5, r6, r7, r8, r9) := by rw [if_pos rfl] at H; exact H
         clear H
         have H := H1
         clear H1
         replace H := Option.bind_eq_some_iff.mp H
         obtain ⟨t200, A780, H⟩ := H
         replace H : (some (x157000_2, x157001_2, t200, ([] : List Int), ([] : List (S101)), x157005_2, t196, false, 0)) = some (r1, r2, r3, r4, r5, r6, r7, r8, r9) := H
         have A78 := Aside0.mk A780
         clear A780
         simp only [Option.some.injEq, Prod.mk.injEq] at H
         obtain ⟨rfl, rfl, rfl, rfl, rfl, rfl, rfl, rfl, rfl⟩ := H
         have hnb79 := NB156_154.out
         have hnc79 := NB154_156.out
         obtain ⟨hcz80_0, hcz80_1, hcz80_2, hcz80_3, hcz80_4, hcz80_5, hcz80_6, hcz80_7, hfz80_0, hfz80_1, hfz80_2, hfz80_3, hfz80_4, hfz80_5, hfz80_6, hfz80_7⟩ := bx8_ BK156.out
         obtain ⟨Ao81, co81, eo81⟩ := Kd.N_slice HO_10.out
         subst eo81
         go_wp2_with (first | ((with_reducible refine gate_callee (f := 79) rfl ?_); refine goesL_ (some 92) rfl rfl Try.func79 (by kernel_rfl) rfl #[.slice Ao81 x10_2.length co81, .int .i64 x157000_2] rfl (by (try simp only [List.map_toArray, List.map_cons, List.map_nil]); first | done | rfl | (simp only [List.length_drop, List.length_take]; rfl)) ?_; (with_reducible refine (sum_common.calls k2 _ _ x10_2 x157000_2 t192 _ ?side1 ?side2 A74.out).mono ?_); (case side1 => exact kD_ (Kd.N_reads' HO_10.out).2.2); (case side2 => exact (Kd.N_reads' HO_10.out).2.1); rintro e w82 ⟨v193, rfl, ho0, hb⟩; refine ⟨_, rfl, ?_⟩; have n0_ := Aside0.mk (Kd.N_elder' (kN_ HO_10.out) (Kd.R_base ho0) hb); have n1_ := Aside0.mk (Kd.V_elder' (kV_ HO_41.out) (Kd.R_base ho0) hb); have n2_ := Aside0.mk (Kd.N_elder' (kN_ HO_157005.out) (Kd.R_base ho0) hb); have n3_ := Aside0.mk (Kd.R_lower (Kd.R_newM (M := fun k_ => (w.heap.size ≤ k_)) ho0 (below_size (hb2_ HB.out GE154.out GE156.out)) (fun k_ h_ => h_)) (below_size (hb2_ HB.out GE154.out GE156.out))); have n4_ := Aside0.mk (blk_below (g := gb154) (o := .cells #[.int .i64 0, .int .i64 0, .slice none 0 0, .slice none 0 0, .slice none 0 0, .slice none 0 0, .slice none 0 0, .bool false] 31 (0, 0)) (bk_ BK154.out) hb); have n5_ := Aside0.mk (blk_below (g := gb156) (o := .cells #[.int .i64 x157000_2, .int .i64 x157001_2, .slice none 0 0, .slice none 0 0, .slice none 0 0, u157005, .slice none 0 0, .bool false] 31 (0, 0)) (bk_ BK156.out) hb); have n6_ := Aside0.mk (below_step (hb2_ HB.out GE154.out GE156.out) hb); clear HO_10 HO_41 HO_157005 BK154 BK156 HB; revert n0_ n1_ n2_ n3_ n4_ n5_ n6_; intro HO_10 HO_41 HO_157005 HO194 BK154 BK156 HB; (try clear hb); (try clear hb2); (try clear hk); (try clear hi); (try clear ho0)) | ((with_reducible refine gate_callee (f := 42) rfl ?_); refine goesL_ (some 95) rfl rfl Try.func42 (by kernel_rfl) rfl #[.int .i64 (l1.length : Int)] rfl (by (try simp only [List.map_toArray, List.map_cons, List.map_nil]); first | done | rfl | (simp only [List.length_drop, List.length_take]; rfl)) ?_; (with_reducible refine (sum_TagSize.calls k2 (l1.length : Int) t195 _ A75.out).mono ?_); rintro e w' ⟨rfl, ⟨nd, rfl⟩⟩; refine ⟨_, rfl, ?_⟩; (try (rw [drewN_self w82]; generalize hq_ : World.drewN w82 _ = w82; have n0_ : Aside0 (Kd.R (Kd.int .u8) 5 w82 w.heap.size (fun k_ => (((w.heap.size ≤ k_)) ∧ True)) v193 t192) := ⟨by rw [← hq_]; exact (kR_ HO194.out)⟩; have n1_ : Aside0 (Kd.N k31 31 w82 w.heap.size (fun k_ => ((((P0_ k_ ∨ w.heap.size ≤ k_)) ∧ (some k_ ≠ (u157005 : Value).ownBlock ∧ (k_ ≠ gb154 ∧ k_ ≠ gb156))) ∧ some k_ ≠ (v193 : Value).ownBlock)) (.slice Ao81 x10_2.length co81) x10_2) := ⟨by rw [← hq_]; exact (kN_ HO_10.out)⟩; have n2_ : Aside0 (Kd.N k79 79 w82 w.heap.size (fun k_ => ((((P0_ k_ ∨ w.heap.size ≤ k_)) ∧ (some k_ ≠ (.slice Ao81 x10_2.length co81 : Value).ownBlock ∧ (k_ ≠ gb154 ∧ k_ ≠ gb156))) ∧ some k_ ≠ (v193 : Value).ownBlock)) u157005 x157005_2) := ⟨by rw [← hq_]; exact (kN_ HO_157005.out)⟩; have n3_ : Aside0 (Kd.V k31 31 w82 w.heap.size (fun k_ => ((((P0_ k_ ∨ w.heap.size ≤ k_)) ∧ (some k_ ≠ (.slice Ao81 x10_2.length co81 : Value).ownBlock ∧ (some k_ ≠ (u157005 : Value).ownBlock ∧ (k_ ≠ gb154 ∧ k_ ≠ gb156)))) ∧ some k_ ≠ (v193 : Value).ownBlock)) (.slice A0 l0.length c0) l0) := ⟨by rw [← hq_]; exact (kV_ HO_41.out)⟩; have n4_ : Aside0 (w82.heap[gb154]? = some (.cells #[.int .i64 0, .int .i64 0, .slice none 0 0, .slice none 0 0, .slice none 0 0, .slice none 0 0, .slice none 0 0, .bool false] 31 (0, 0))) := ⟨by rw [← hq_]; exact (bk_ BK154.out)⟩; have n5_ : Aside0 (w82.heap[gb156]? = some (.cells #[.int .i64 x157000_2, .int .i64 x157001_2, .slice none 0 0, .slice none 0 0, .slice none 0 0, u157005, .slice none 0 0, .bool false] 31 (0, 0))) := ⟨by rw [← hq_]; exact (bk_ BK156.out)⟩; have n6_ : Aside0 (Below w.heap.size w w82) := ⟨by rw [← hq_]; exact (hb2_ HB.out GE154.out GE156.out)⟩; clear HO194 HO_10 HO_157005 HO_41 BK154 BK156 HB hq_; revert n0_ n1_ n2_ n3_ n4_ n5_ n6_; intro HO194 HO_10 HO_157005 HO_41 BK154 BK156 HB)); obtain ⟨Ao83, co83, eo83⟩ := Kd.R_slice HO194.out; subst eo83) | ((with_reducible refine gate_callee (f := 44) rfl ?_); refine goesL_ (some 99) rfl rfl Try.func44 (by kernel_rfl) rfl #[.slice Ao83 t192.length co83, .int .i64 t195] rfl (by (try simp only [List.map_toArray, List.map_cons, List.map_nil]); first | done | rfl | (simp only [List.length_drop, List.length_take]; rfl)) ?_; (with_reducible refine (mask_Bits.calls k2 _ _ t192 t195 t196 true _ ?side1 ?side2 A76.out).mono ?_); (case side1 => exact kD_ (Kd.R_reads' HO194.out).2.2); (case side2 => exact (Kd.R_reads' HO194.out).2.1); rintro e w84 ⟨v198, rfl, ho0, hb⟩; refine ⟨_, rfl, ?_⟩; have n0_ := Aside0.mk (Kd.N_elder' (kN_ HO_10.out) (Kd.R_base ho0) hb); have n1_ := Aside0.mk (Kd.V_elder' (kV_ HO_41.out) (Kd.R_base ho0) hb); have n2_ := Aside0.mk (Kd.N_elder' (kN_ HO_157005.out) (Kd.R_base ho0) hb); have n3_ := Aside0.mk (Kd.R_below (kR_ HO194.out) hb); have n4_ := Aside0.mk (Kd.R_lower (Kd.R_newM (M := fun k_ => (w.heap.size ≤ k_)) ho0 (below_size (hb2_ HB.out GE154.out GE156.out)) (fun k_ h_ => h_)) (below_size (hb2_ HB.out GE154.out GE156.out))); have n5_ := Aside0.mk (blk_below (g := gb154) (o := .cells #[.int .i64 0, .int .i64 0, .slice none 0 0, .slice none 0 0, .slice none 0 0, .slice none 0 0, .slice none 0 0, .bool false] 31 (0, 0)) (bk_ BK154.out) hb); have n6_ := Aside0.mk (blk_below (g := gb156) (o := .cells #[.int .i64 x157000_2, .int .i64 x157001_2, .slice none 0 0, .slice none 0 0, .slice none 0 0, u157005, .slice none 0 0, .bool false] 31 (0, 0)) (bk_ BK156.out) hb); have n7_ := Aside0.mk (below_step (hb2_ HB.out GE154.out GE156.out) hb); clear HO_10 HO_41 HO_157005 HO194 BK154 BK156 HB; revert n0_ n1_ n2_ n3_ n4_ n5_ n6_ n7_; intro HO_10 HO_41 HO_157005 HO194 HO199 BK154 BK156 HB; (try clear hb); (try clear hb2); (try clear hk); (try clear hi); (try clear ho0); obtain ⟨Ao85, co85, eo85⟩ := Kd.R_slice HO199.out; subst eo85) | ((with_reducible refine gate_callee (f := 49) rfl ?_); refine goesL_ (some 131) rfl rfl Try.func49 (by kernel_rfl) rfl #[.slice Ao83 t192.length co83, .slice Ao85 t196.length co85] rfl (by (try simp only [List.map_toArray, List.map_cons, List.map_nil]); first | done | rfl | (simp only [List.length_drop, List.length_take]; rfl)) ?_; (with_reducible refine (mask_Clear.calls k2 _ _ t192 _ _ t196 t200 _ ?side1 ?side2 ?side3 ?side4 A78.out).mono ?_); (case side1 => exact kD_ (Kd.R_reads' HO194.out).2.2); (case side2 => exact (Kd.R_reads' HO194.out).2.1); (case side3 => exact kD_ (Kd.R_reads' HO199.out).2.2); (case side4 => exact (Kd.R_reads' HO199.out).2.1); rintro e w86 ⟨v201, rfl, ho0, hb⟩; refine ⟨_, rfl, ?_⟩; have n0_ := Aside0.mk (Kd.N_elder' (kN_ HO_10.out) (Kd.R_base ho0) hb); have n1_ := Aside0.mk (Kd.V_elder' (kV_ HO_41.out) (Kd.R_base ho0) hb); have n2_ := Aside0.mk (Kd.N_elder' (kN_ HO_157005.out) (Kd.R_base ho0) hb); have n3_ := Aside0.mk (Kd.R_elder' (kR_ HO194.out) (Kd.R_base ho0) hb); have n4_ := Aside0.mk (Kd.R_below (kR_ HO199.out) hb); have n5_ := Aside0.mk (Kd.R_lower (Kd.R_new' (Kd.R_newM (M := fun k_ => (w.heap.size ≤ k_)) ho0 (below_size (hb2_ HB.out GE154.out GE156.out)) (fun k_ h_ => h_)) (Kd.R_lt (kR_ HO194.out))) (below_size (hb2_ HB.out GE154.out GE156.out))); have n6_ := Aside0.mk (blk_below (g := gb154) (o := .cells #[.int .i64 0, .int .i64 0, .slice none 0 0, .slice none 0 0, .slice none 0 0, .slice none 0 0, .slice none 0 0, .bool false] 31 (0, 0)) (bk_ BK154.out) hb); have n7_ := Aside0.mk (blk_below (g := gb156) (o := .cells #[.int .i64 x157000_2, .int .i64 x157001_2, .slice none 0 0, .slice none 0 0, .slice none 0 0, u157005, .slice none 0 0, .bool false] 31 (0, 0)) (bk_ BK156.out) hb); have n8_ := Aside0.mk (below_step (hb2_ HB.out GE154.out GE156.out) hb); clear HO_10 HO_41 HO_157005 HO194 HO199 BK154 BK156 HB; revert n0_ n1_ n2_ n3_ n4_ n5_ n6_ n7_ n8_; intro HO_10 HO_41 HO_157005 HO194 HO199 HO202 BK154 BK156 HB; (try clear hb); (try clear hb2); (try clear hk); (try clear hi); (try clear ho0); obtain ⟨hcz87_0, hcz87_1, hcz87_2, hcz87_3, hcz87_4, hcz87_5, hcz87_6, hcz87_7, hfz87_0, hfz87_1, hfz87_2, hfz87_3, hfz87_4, hfz87_5, hfz87_6, hfz87_7⟩ := bx8_ BK156.out; obtain ⟨Ao88, co88, eo88⟩ := Kd.R_slice HO202.out; subst eo88; obtain ⟨hcz89_0, hcz89_1, hcz89_2, hcz89_3, hcz89_4, hcz89_5, hcz89_6, hcz89_7, hfz89_0, hfz89_1, hfz89_2, hfz89_3, hfz89_4, hfz89_5, hfz89_6, hfz89_7⟩ := bx8_ BK154.out; obtain ⟨Ao90, co90, eo90⟩ := Kd.N_slice HO_157005.out; subst eo90))
         refine bodyPost_ret (results_ct rfl _ _ gb154 31 #[.int .i64 x157000_2, .int .i64 x157001_2, .slice Ao88 t200.length co88, .slice none 0 0, .slice none 0 0, .slice Ao90 x157005_2.length co90, .slice Ao85 t196.length co85, .bool false] (0, 0) _ rfl (by (with_reducible repeat (first | refine blk_drewN ?_ _ | refine blk_drew ?_ | refine blk_alloc ?_ _)); refine blk_put (cs := #[.int .i64 x157000_2, .int .i64 x157001_2, .slice Ao88 t200.length co88, .slice none 0 0, .slice none 0 0, .slice Ao90 x157005_2.length co90, .slice Ao85 t196.length co85, .bool false]) ?_ 7 _ rfl; (with_reducible repeat (first | refine blk_drewN ?_ _ | refine blk_drew ?_ | refine blk_alloc ?_ _)); refine blk_put (cs := #[.int .i64 x157000_2, .int .i64 x157001_2, .slice Ao88 t200.length co88, .slice none 0 0, .slice none 0 0, .slice Ao90 x157005_2.length co90, .slice none 0 0, .bool false]) ?_ 6 _ rfl; (with_reducible repeat (first | refine blk_drewN ?_ _ | refine blk_drew ?_ | refine blk_alloc ?_ _)); refine blk_put (cs := #[.int .i64 x157000_2, .int .i64 x157001_2, .slice Ao88 t200.length co88, .slice none 0 0, .slice none 0 0, .slice none 0 0, .slice none 0 0, .bool false]) ?_ 5 _ rfl; (with_reducible repeat (first | refine blk_drewN ?_ _ | refine blk_drew ?_ | refine blk_alloc ?_ _)); refine blk_put (cs := #[.int .i64 x157000_2, .int .i64 x157001_2, .slice Ao88 t200.length co88, .slice none 0 0, .slice none 0 0, .slice none 0 0, .slice none 0 0, .bool false]) ?_ 4 _ rfl; (with_reducible repeat (first | refine blk_drewN ?_ _ | refine blk_drew ?_ | refine blk_alloc ?_ _)); refine blk_put (cs := #[.int .i64 x157000_2, .int .i64 x157001_2, .slice Ao88 t200.length co88, .slice none 0 0, .slice none 0 0, .slice none 0 0, .slice none 0 0, .bool false]) ?_ 3 _ rfl; (with_reducible repeat (first | refine blk_drewN ?_ _ | refine blk_drew ?_ | refine blk_alloc ?_ _)); refine blk_put (cs := #[.int .i64 x157000_2, .int .i64 x157001_2, .slice none 0 0, .slice none 0 0, .slice none 0 0, .slice none 0 0, .slice none 0 0, .bool false]) ?_ 2 _ rfl; (with_reducible repeat (first | refine blk_drewN ?_ _ | refine blk_drew ?_ | refine blk_alloc ?_ _)); refine blk_put (cs := #[.int .i64 x157000_2, .int .i64 0, .slice none 0 0, .slice none 0 0, .slice none 0 0, .slice none 0 0, .slice none 0 0, .bool false]) ?_ 1 _ rfl; (with_reducible repeat (first | refine blk_drewN ?_ _ | refine blk_drew ?_ | refine blk_alloc ?_ _)); refine blk_put (cs := #[.int .i64 0, .int .i64 0, .slice none 0 0, .slice none 0 0, .slice none 0 0, .slice none 0 0, .slice none 0 0, .bool false]) ?_ 0 _ rfl; (with_reducible repeat (first | refine blk_drewN ?_ _ | refine blk_drew ?_ | refine blk_alloc ?_ _)); refine blk_far ?_ NB154_156.out _; (with_reducible repeat (first | refine blk_drewN ?_ _ | refine blk_drew ?_ | refine blk_alloc ?_ _)); refine blk_far ?_ NB154_156.out _; (with_reducible repeat (first | refine blk_drewN ?_ _ | refine blk_drew ?_ | refine blk_alloc ?_ _)); exact BK154.out) Try.underlying31 rfl (by kernel_rfl)) rfl ?_
         exact ⟨_, _, _, _, _, by first | rfl | (simp [errW_none, errW_some] <;> rfl) | (simp [*, errW_none, errW_some] <;> rfl), by (with_reducible repeat (first | apply Kd.R_alloc | apply Kd.R_drewN | apply Kd.R_drew)); exact Kd.R_mono (Kd.R_far (p := ⟨gb154, 7, none⟩) (Kd.R_far (p := ⟨gb154, 6, none⟩) (Kd.R_far (p := ⟨gb154, 5, none⟩) (Kd.R_far (p := ⟨gb154, 4, none⟩) (Kd.R_far (p := ⟨gb154, 3, none⟩) (Kd.R_far (p := ⟨gb154, 2, none⟩) (Kd.R_far (p := ⟨gb154, 1, none⟩) (Kd.R_far (p := ⟨gb154, 0, none⟩) (Kd.R_far (p := ⟨gb156, 2, none⟩) (Kd.R_far (p := ⟨gb156, 6, none⟩) (Kd.R_types (Kd.R_types HO202.out BK156.out (by decide)) BK154.out (by decide)) (fun _ hk => hk.1.2) (.slice Ao85 t196.length co85)) (fun _ hk => hk.1.2) (.slice Ao88 t200.length co88)) (fun _ hk => hk.2) (.int .i64 x157000_2)) (fun _ hk => hk.2) (.int .i64 x157001_2)) (fun _ hk => hk.2) (.slice Ao88 t200.length co88)) (fun _ hk => hk.2) (.slice none 0 0)) (fun _ hk => hk.2) (.slice none 0 0)) (fun _ hk => hk.2) (.slice Ao90 x157005_2.length co90)) (fun _ hk => hk.2) (.slice Ao85 t196.length co85)) (fun _ hk => hk.2) (.bool false)) (fun _ hk => hk.1.1.1.1), by first | exact Kd.R_nil _ _ _ _ _ | exact Kd.N_nil _ _ _ _ _ | exact Kd.V_nil _ _ _ _ _ | exact Kd.Q_nil _ _ _ _ _ | exact Kd.S_nil _ _ _ _ _, by first | exact Kd.R_nil _ _ _ _ _ | exact Kd.N_nil _ _ _ _ _ | exact Kd.V_nil _ _ _ _ _ | exact Kd.Q_nil _ _ _ _ _ | exact Kd.S_nil _ _ _ _ _, by (with_reducible repeat (first | apply Kd.N_alloc | apply Kd.N_drewN | apply Kd.N_drew)); exact Kd.N_mono (Kd.N_far (p := ⟨gb154, 7, none⟩) (Kd.N_far (p := ⟨gb154, 6, none⟩) (Kd.N_far (p := ⟨gb154, 5, none⟩) (Kd.N_far (p := ⟨gb154, 4, none⟩) (Kd.N_far (p := ⟨gb154, 3, none⟩) (Kd.N_far (p := ⟨gb154, 2, none⟩) (Kd.N_far (p := ⟨gb154, 1, none⟩) (Kd.N_far (p := ⟨gb154, 0, none⟩) (Kd.N_far (p := ⟨gb156, 2, none⟩) (Kd.N_far (p := ⟨gb156, 6, none⟩) (Kd.N_mono (Kd.N_mono HO_157005.out (fun k_ hk => (⟨hk, hk.1.1.1.2.2.2⟩ : _ ∧ k_ ≠ gb156))) (fun k_ hk => (⟨hk, hk.1.1.1.1.2.2.1⟩ : _ ∧ k_ ≠ gb154))) (fun _ hk => hk.1.2) (.slice Ao85 t196.length co85)) (fun _ hk => hk.1.2) (.slice Ao88 t200.length co88)) (fun _ hk => hk.2) (.int .i64 x157000_2)) (fun _ hk => hk.2) (.int .i64 x157001_2)) (fun _ hk => hk.2) (.slice Ao88 t200.length co88)) (fun _ hk => hk.2) (.slice none 0 0)) (fun _ hk => hk.2) (.slice none 0 0)) (fun _ hk => hk.2) (.slice Ao90 x157005_2.length co90)) (fun _ hk => hk.2) (.slice Ao85 t196.length co85)) (fun _ hk => hk.2) (.bool false)) (fun _ hk => ⟨hk.1.1.1.1.1.1, ⟨hk.1.1.2, ⟨(by simp [Value.ownBlock]), ⟨(by simp [Value.ownBlock]), hk.1.1.1.2⟩⟩⟩⟩), by (with_reducible repeat (first | apply Kd.R_alloc | apply Kd.R_drewN | apply Kd.R_drew)); exact Kd.R_mono (Kd.R_far (p := ⟨gb154, 7, none⟩) (Kd.R_far (p := ⟨gb154, 6, none⟩) (Kd.R_far (p := ⟨gb154, 5, none⟩) (Kd.R_far (p := ⟨gb154, 4, none⟩) (Kd.R_far (p := ⟨gb154, 3, none⟩) (Kd.R_far (p := ⟨gb154, 2, none⟩) (Kd.R_far (p := ⟨gb154, 1, none⟩) (Kd.R_far (p := ⟨gb154, 0, none⟩) (Kd.R_far (p := ⟨gb156, 2, none⟩) (Kd.R_far (p := ⟨gb156, 6, none⟩) (Kd.R_types (Kd.R_types HO199.out BK156.out (by decide)) BK154.out (by decide)) (fun _ hk => hk.1.2) (.slice Ao85 t196.length co85)) (fun _ hk => hk.1.2) (.slice Ao88 t200.length co88)) (fun _ hk => hk.2) (.int .i64 x157000_2)) (fun _ hk => hk.2) (.int .i64 x157001_2)) (fun _ hk => hk.2) (.slice Ao88 t200.length co88)) (fun _ hk => hk.2) (.slice none 0 0)) (fun _ hk => hk.2) (.slice none 0 0)) (fun _ hk => hk.2) (.slice Ao90 x157005_2.length co90)) (fun _ hk => hk.2) (.slice Ao85 t196.length co85)) (fun _ hk => hk.2) (.bool false)) (fun _ hk => ⟨hk.1.1.1, (by simp [Value.ownBlock])⟩), (hb2_ HB.out GE154.out GE156.out)⟩
        ·
         replace c77 := Bool.eq_false_iff.mpr c77
         subst c77
         have H1 : (if x157000_2 = 1024 then (some (0, 0, ([] : List Int), ([] : List Int), ([] : List (S101)), ([] : List (S79)), ([] : List Int), false, 4)) else (sum_Lay.l1 k2 t192 ([] : List Int) t195 0 x157000_2 x157001_2 x157005_2 false)) = some (r1, r2, r3, r4, r5, r6, r7, r8, r9) := by rw [if_neg (show ¬ (false = true) by decide)] at H; exact H
         clear H
         have H := H1
         clear H1
         by_cases c91 : x157000_2 = 1024
         ·
          rw [if_pos c91] at H
          have c91b0 : (x157000_2 == 1024) = true := beq_iff_eq.mpr c91
          have c91b1 : (x157000_2 != 1024) = false := bne_eq_false_iff_eq.mpr c91
          clear c91
          simp only [Option.some.injEq, Prod.mk.injEq] at H
          obtain ⟨rfl, rfl, rfl, rfl, rfl, rfl, rfl, rfl, rfl⟩ := H
          have hnb92 := NB156_154.out
          have hnc92 := NB154_156.out
          obtain ⟨hcz93_0, hcz93_1, hcz93_2, hcz93_3, hcz93_4, hcz93_5, hcz93_6, hcz93_7, hfz93_0, hfz93_1, hfz93_2, hfz93_3, hfz93_4, hfz93_5, hfz93_6, hfz93_7⟩ := bx8_ BK156.out
          obtain ⟨Ao94, co94, eo94⟩ := Kd.N_slice HO_10.out
          subst eo94
          go_wp2_with (first | ((with_reducible refine gate_callee (f := 79) rfl ?_); refine goesL_ (some 92) rfl rfl Try.func79 (by kernel_rfl) rfl #[.slice Ao94 x10_2.length co94, .int .i64 x157000_2] rfl (by (try simp only [List.map_toArray, List.map_cons, List.map_nil]); first | done | rfl | (simp only [List.length_drop, List.length_take]; rfl)) ?_; (with_reducible refine (sum_common.calls k2 _ _ x10_2 x157000_2 t192 _ ?side1 ?side2 A74.out).mono ?_); (case side1 => exact kD_ (Kd.N_reads' HO_10.out).2.2); (case side2 => exact (Kd.N_reads' HO_10.out).2.1); rintro e w95 ⟨v193, rfl, ho0, hb⟩; refine ⟨_, rfl, ?_⟩; have n0_ := Aside0.mk (Kd.N_elder' (kN_ HO_10.out) (Kd.R_base ho0) hb); have n1_ := Aside0.mk (Kd.V_elder' (kV_ HO_41.out) (Kd.R_base ho0) hb); have n2_ := Aside0.mk (Kd.N_elder' (kN_ HO_157005.out) (Kd.R_base ho0) hb); have n3_ := Aside0.mk (Kd.R_lower (Kd.R_newM (M := fun k_ => (w.heap.size ≤ k_)) ho0 (below_size (hb2_ HB.out GE154.out GE156.out)) (fun k_ h_ => h_)) (below_size (hb2_ HB.out GE154.out GE156.out))); have n4_ := Aside0.mk (blk_below (g := gb154) (o := .cells #[.int .i64 0, .int .i64 0, .slice none 0 0, .slice none 0 0, .slice none 0 0, .slice none 0 0, .slice none 0 0, .bool false] 31 (0, 0)) (bk_ BK154.out) hb); have n5_ := Aside0.mk (blk_below (g := gb156) (o := .cells #[.int .i64 x157000_2, .int .i64 x157001_2, .slice none 0 0, .slice none 0 0, .slice none 0 0, u157005, .slice none 0 0, .bool false] 31 (0, 0)) (bk_ BK156.out) hb); have n6_ := Aside0.mk (below_step (hb2_ HB.out GE154.out GE156.out) hb); clear HO_10 HO_41 HO_157005 BK154 BK156 HB; revert n0_ n1_ n2_ n3_ n4_ n5_ n6_; intro HO_10 HO_41 HO_157005 HO194 BK154 BK156 HB; (try clear hb); (try clear hb2); (try clear hk); (try clear hi); (try clear ho0)) | ((with_reducible refine gate_callee (f := 42) rfl ?_); refine goesL_ (some 95) rfl rfl Try.func42 (by kernel_rfl) rfl #[.int .i64 (l1.length : Int)] rfl (by (try simp only [List.map_toArray, List.map_cons, List.map_nil]); first | done | rfl | (simp only [List.length_drop, List.length_take]; rfl)) ?_; (with_reducible refine (sum_TagSize.calls k2 (l1.length : Int) t195 _ A75.out).mono ?_); rintro e w' ⟨rfl, ⟨nd, rfl⟩⟩; refine ⟨_, rfl, ?_⟩; (try (rw [drewN_self w95]; generalize hq_ : World.drewN w95 _ = w95; have n0_ : Aside0 (Kd.R (Kd.int .u8) 5 w95 w.heap.size (fun k_ => (((w.heap.size ≤ k_)) ∧ True)) v193 t192) := ⟨by rw [← hq_]; exact (kR_ HO194.out)⟩; have n1_ : Aside0 (Kd.N k31 31 w95 w.heap.size (fun k_ => ((((P0_ k_ ∨ w.heap.size ≤ k_)) ∧ (some k_ ≠ (u157005 : Value).ownBlock ∧ (k_ ≠ gb154 ∧ k_ ≠ gb156))) ∧ some k_ ≠ (v193 : Value).ownBlock)) (.slice Ao94 x10_2.length co94) x10_2) := ⟨by rw [← hq_]; exact (kN_ HO_10.out)⟩; have n2_ : Aside0 (Kd.N k79 79 w95 w.heap.size (fun k_ => ((((P0_ k_ ∨ w.heap.size ≤ k_)) ∧ (some k_ ≠ (.slice Ao94 x10_2.length co94 : Value).ownBlock ∧ (k_ ≠ gb154 ∧ k_ ≠ gb156))) ∧ some k_ ≠ (v193 : Value).ownBlock)) u157005 x157005_2) := ⟨by rw [← hq_]; exact (kN_ HO_157005.out)⟩; have n3_ : Aside0 (Kd.V k31 31 w95 w.heap.size (fun k_ => ((((P0_ k_ ∨ w.heap.size ≤ k_)) ∧ (some k_ ≠ (.slice Ao94 x10_2.length co94 : Value).ownBlock ∧ (some k_ ≠ (u157005 : Value).ownBlock ∧ (k_ ≠ gb154 ∧ k_ ≠ gb156)))) ∧ some k_ ≠ (v193 : Value).ownBlock)) (.slice A0 l0.length c0) l0) := ⟨by rw [← hq_]; exact (kV_ HO_41.out)⟩; have n4_ : Aside0 (w95.heap[gb154]? = some (.cells #[.int .i64 0, .int .i64 0, .slice none 0 0, .slice none 0 0, .slice none 0 0, .slice none 0 0, .slice none 0 0, .bool false] 31 (0, 0))) := ⟨by rw [← hq_]; exact (bk_ BK154.out)⟩; have n5_ : Aside0 (w95.heap[gb156]? = some (.cells #[.int .i64 x157000_2, .int .i64 x157001_2, .slice none 0 0, .slice none 0 0, .slice none 0 0, u157005, .slice none 0 0, .bool false] 31 (0, 0))) := ⟨by rw [← hq_]; exact (bk_ BK156.out)⟩; have n6_ : Aside0 (Below w.heap.size w w95) := ⟨by rw [← hq_]; exact (hb2_ HB.out GE154.out GE156.out)⟩; clear HO194 HO_10 HO_157005 HO_41 BK154 BK156 HB hq_; revert n0_ n1_ n2_ n3_ n4_ n5_ n6_; intro HO194 HO_10 HO_157005 HO_41 BK154 BK156 HB)); obtain ⟨Ao96, co96, eo96⟩ := Kd.R_slice HO194.out; subst eo96) | ((with_reducible refine gate_callee (f := 44) rfl ?_); refine goesL_ (some 99) rfl rfl Try.func44 (by kernel_rfl) rfl #[.slice Ao96 t192.length co96, .int .i64 t195] rfl (by (try simp only [List.map_toArray, List.map_cons, List.map_nil]); first | done | rfl | (simp only [List.length_drop, List.length_take]; rfl)) ?_; (with_reducible refine (mask_Bits.calls k2 _ _ t192 t195 t196 false _ ?side1 ?side2 A76.out).mono ?_); (case side1 => exact kD_ (Kd.R_reads' HO194.out).2.2); (case side2 => exact (Kd.R_reads' HO194.out).2.1); rintro e w97 ⟨v198, rfl, ho0, hb⟩; refine ⟨_, rfl, ?_⟩; have n0_ := Aside0.mk (Kd.N_elder' (kN_ HO_10.out) (Kd.R_base ho0) hb); have n1_ := Aside0.mk (Kd.V_elder' (kV_ HO_41.out) (Kd.R_base ho0) hb); have n2_ := Aside0.mk (Kd.N_elder' (kN_ HO_157005.out) (Kd.R_base ho0) hb); have n3_ := Aside0.mk (Kd.R_below (kR_ HO194.out) hb); have n4_ := Aside0.mk (Kd.R_lower (Kd.R_newM (M := fun k_ => (w.heap.size ≤ k_)) ho0 (below_size (hb2_ HB.out GE154.out GE156.out)) (fun k_ h_ => h_)) (below_size (hb2_ HB.out GE154.out GE156.out))); have n5_ := Aside0.mk (blk_below (g := gb154) (o := .cells #[.int .i64 0, .int .i64 0, .slice none 0 0, .slice none 0 0, .slice none 0 0, .slice none 0 0, .slice none 0 0, .bool false] 31 (0, 0)) (bk_ BK154.out) hb); have n6_ := Aside0.mk (blk_below (g := gb156) (o := .cells #[.int .i64 x157000_2, .int .i64 x157001_2, .slice none 0 0, .slice none 0 0, .slice none 0 0, u157005, .slice none 0 0, .bool false] 31 (0, 0)) (bk_ BK156.out) hb); have n7_ := Aside0.mk (below_step (hb2_ HB.out GE154.out GE156.out) hb); clear HO_10 HO_41 HO_157005 HO194 BK154 BK156 HB; revert n0_ n1_ n2_ n3_ n4_ n5_ n6_ n7_; intro HO_10 HO_41 HO_157005 HO194 HO199 BK154 BK156 HB; (try clear hb); (try clear hb2); (try clear hk); (try clear hi); (try clear ho0); obtain ⟨hcz98_0, hcz98_1, hcz98_2, hcz98_3, hcz98_4, hcz98_5, hcz98_6, hcz98_7, hfz98_0, hfz98_1, hfz98_2, hfz98_3, hfz98_4, hfz98_5, hfz98_6, hfz98_7⟩ := bx8_ BK156.out; obtain ⟨hcz99_0, hcz99_1, hcz99_2, hcz99_3, hcz99_4, hcz99_5, hcz99_6, hcz99_7, hfz99_0, hfz99_1, hfz99_2, hfz99_3, hfz99_4, hfz99_5, hfz99_6, hfz99_7⟩ := bx8_ BK154.out))
          refine bodyPost_ret (results_ct rfl _ _ gb154 31 #[.int .i64 0, .int .i64 0, .slice none 0 0, .slice none 0 0, .slice none 0 0, .slice none 0 0, .slice none 0 0, .bool false] (0, 0) _ rfl (by (with_reducible repeat (first | refine blk_drewN ?_ _ | refine blk_drew ?_ | refine blk_alloc ?_ _)); refine blk_put (cs := #[.int .i64 0, .int .i64 0, .slice none 0 0, .slice none 0 0, .slice none 0 0, .slice none 0 0, .slice none 0 0, .bool false]) ?_ 7 _ rfl; (with_reducible repeat (first | refine blk_drewN ?_ _ | refine blk_drew ?_ | refine blk_alloc ?_ _)); refine blk_put (cs := #[.int .i64 0, .int .i64 0, .slice none 0 0, .slice none 0 0, .slice none 0 0, .slice none 0 0, .slice none 0 0, .bool false]) ?_ 6 _ rfl; (with_reducible repeat (first | refine blk_drewN ?_ _ | refine blk_drew ?_ | refine blk_alloc ?_ _)); refine blk_put (cs := #[.int .i64 0, .int .i64 0, .slice none 0 0, .slice none 0 0, .slice none 0 0, .slice none 0 0, .slice none 0 0, .bool false]) ?_ 5 _ rfl; (with_reducible repeat (first | refine blk_drewN ?_ _ | refine blk_drew ?_ | refine blk_alloc ?_ _)); refine blk_put (cs := #[.int .i64 0, .int .i64 0, .slice none 0 0, .slice none 0 0, .slice none 0 0, .slice none 0 0, .slice none 0 0, .bool false]) ?_ 4 _ rfl; (with_reducible repeat (first | refine blk_drewN ?_ _ | refine blk_drew ?_ | refine blk_alloc ?_ _)); refine blk_put (cs := #[.int .i64 0, .int .i64 0, .slice none 0 0, .slice none 0 0, .slice none 0 0, .slice none 0 0, .slice none 0 0, .bool false]) ?_ 3 _ rfl; (with_reducible repeat (first | refine blk_drewN ?_ _ | refine blk_drew ?_ | refine blk_alloc ?_ _)); refine blk_put (cs := #[.int .i64 0, .int .i64 0, .slice none 0 0, .slice none 0 0, .slice none 0 0, .slice none 0 0, .slice none 0 0, .bool false]) ?_ 2 _ rfl; (with_reducible repeat (first | refine blk_drewN ?_ _ | refine blk_drew ?_ | refine blk_alloc ?_ _)); refine blk_put (cs := #[.int .i64 0, .int .i64 0, .slice none 0 0, .slice none 0 0, .slice none 0 0, .slice none 0 0, .slice none 0 0, .bool false]) ?_ 1 _ rfl; (with_reducible repeat (first | refine blk_drewN ?_ _ | refine blk_drew ?_ | refine blk_alloc ?_ _)); refine blk_put (cs := #[.int .i64 0, .int .i64 0, .slice none 0 0, .slice none 0 0, .slice none 0 0, .slice none 0 0, .slice none 0 0, .bool false]) ?_ 0 _ rfl; (with_reducible repeat (first | refine blk_drewN ?_ _ | refine blk_drew ?_ | refine blk_alloc ?_ _)); exact BK154.out) Try.underlying31 rfl (by kernel_rfl)) rfl ?_
          exact ⟨_, _, _, _, _, by first | rfl | (simp [errW_none, errW_some] <;> rfl) | (simp [*, errW_none, errW_some] <;> rfl), by first | exact Kd.R_nil _ _ _ _ _ | exact Kd.N_nil _ _ _ _ _ | exact Kd.V_nil _ _ _ _ _ | exact Kd.Q_nil _ _ _ _ _ | exact Kd.S_nil _ _ _ _ _, by first | exact Kd.R_nil _ _ _ _ _ | exact Kd.N_nil _ _ _ _ _ | exact Kd.V_nil _ _ _ _ _ | exact Kd.Q_nil _ _ _ _ _ | exact Kd.S_nil _ _ _ _ _, by first | exact Kd.R_nil _ _ _ _ _ | exact Kd.N_nil _ _ _ _ _ | exact Kd.V_nil _ _ _ _ _ | exact Kd.Q_nil _ _ _ _ _ | exact Kd.S_nil _ _ _ _ _, by first | exact Kd.R_nil _ _ _ _ _ | exact Kd.N_nil _ _ _ _ _ | exact Kd.V_nil _ _ _ _ _ | exact Kd.Q_nil _ _ _ _ _ | exact Kd.S_nil _ _ _ _ _, by first | exact Kd.R_nil _ _ _ _ _ | exact Kd.N_nil _ _ _ _ _ | exact Kd.V_nil _ _ _ _ _ | exact Kd.Q_nil _ _ _ _ _ | exact Kd.S_nil _ _ _ _ _, (hb2_ HB.out GE154.out GE156.out)⟩
         ·
          rw [if_neg c91] at H
          have c91b0 : (x157000_2 == 1024) = false := beq_eq_false_iff_ne.mpr c91
          have c91b1 : (x157000_2 != 1024) = true := bne_iff_ne.mpr c91
          have H' := Aside0.mk H
          clear H
          have hnb100 := NB156_154.out
          have hnc100 := NB154_156.out
          obtain ⟨hcz101_0, hcz101_1, hcz101_2, hcz101_3, hcz101_4, hcz101_5, hcz101_6, hcz101_7, hfz101_0, hfz101_1, hfz101_2, hfz101_3, hfz101_4, hfz101_5, hfz101_6, hfz101_7⟩ := bx8_ BK156.out
          obtain ⟨Ao102, co102, eo102⟩ := Kd.N_slice HO_10.out
          subst eo102
          go_wp2_with (first | ((with_reducible refine gate_callee (f := 79) rfl ?_); refine goesL_ (some 92) rfl rfl Try.func79 (by kernel_rfl) rfl #[.slice Ao102 x10_2.length co102, .int .i64 x157000_2] rfl (by (try simp only [List.map_toArray, List.map_cons, List.map_nil]); first | done | rfl | (simp only [List.length_drop, List.length_take]; rfl)) ?_; (with_reducible refine (sum_common.calls k2 _ _ x10_2 x157000_2 t192 _ ?side1 ?side2 A74.out).mono ?_); (case side1 => exact kD_ (Kd.N_reads' HO_10.out).2.2); (case side2 => exact (Kd.N_reads' HO_10.out).2.1); rintro e w103 ⟨v193, rfl, ho0, hb⟩; refine ⟨_, rfl, ?_⟩; have n0_ := Aside0.mk (Kd.N_elder' (kN_ HO_10.out) (Kd.R_base ho0) hb); have n1_ := Aside0.mk (Kd.V_elder' (kV_ HO_41.out) (Kd.R_base ho0) hb); have n2_ := Aside0.mk (Kd.N_elder' (kN_ HO_157005.out) (Kd.R_base ho0) hb); have n3_ := Aside0.mk (Kd.R_lower (Kd.R_newM (M := fun k_ => (w.heap.size ≤ k_)) ho0 (below_size (hb2_ HB.out GE154.out GE156.out)) (fun k_ h_ => h_)) (below_size (hb2_ HB.out GE154.out GE156.out))); have n4_ := Aside0.mk (blk_below (g := gb154) (o := .cells #[.int .i64 0, .int .i64 0, .slice none 0 0, .slice none 0 0, .slice none 0 0, .slice none 0 0, .slice none 0 0, .bool false] 31 (0, 0)) (bk_ BK154.out) hb); have n5_ := Aside0.mk (blk_below (g := gb156) (o := .cells #[.int .i64 x157000_2, .int .i64 x157001_2, .slice none 0 0, .slice none 0 0, .slice none 0 0, u157005, .slice none 0 0, .bool false] 31 (0, 0)) (bk_ BK156.out) hb); have n6_ := Aside0.mk (below_step (hb2_ HB.out GE154.out GE156.out) hb); clear HO_10 HO_41 HO_157005 BK154 BK156 HB; revert n0_ n1_ n2_ n3_ n4_ n5_ n6_; intro HO_10 HO_41 HO_157005 HO194 BK154 BK156 HB; (try clear hb); (try clear hb2); (try clear hk); (try clear hi); (try clear ho0)) | ((with_reducible refine gate_callee (f := 42) rfl ?_); refine goesL_ (some 95) rfl rfl Try.func42 (by kernel_rfl) rfl #[.int .i64 (l1.length : Int)] rfl (by (try simp only [List.map_toArray, List.map_cons, List.map_nil]); first | done | rfl | (simp only [List.length_drop, List.length_take]; rfl)) ?_; (with_reducible refine (sum_TagSize.calls k2 (l1.length : Int) t195 _ A75.out).mono ?_); rintro e w' ⟨rfl, ⟨nd, rfl⟩⟩; refine ⟨_, rfl, ?_⟩; obtain ⟨Ao104, co104, eo104⟩ := Kd.R_slice HO194.out; subst eo104) | ((with_reducible refine gate_callee (f := 44) rfl ?_); refine goesL_ (some 99) rfl rfl Try.func44 (by kernel_rfl) rfl #[.slice Ao104 t192.length co104, .int .i64 t195] rfl (by (try simp only [List.map_toArray, List.map_cons, List.map_nil]); first | done | rfl | (simp only [List.length_drop, List.length_take]; rfl)) ?_; (with_reducible refine (mask_Bits.calls k2 _ _ t192 t195 t196 false _ ?side1 ?side2 A76.out).mono ?_); (case side1 => exact kD_ (Kd.R_reads' HO194.out).2.2); (case side2 => exact (Kd.R_reads' HO194.out).2.1); rintro e w105 ⟨v198, rfl, ho0, hb⟩; refine ⟨_, rfl, ?_⟩; have n0_ := Aside0.mk (Kd.N_elder' (kN_ HO_10.out) (Kd.R_base ho0) hb); have n1_ := Aside0.mk (Kd.V_elder' (kV_ HO_41.out) (Kd.R_base ho0) hb); have n2_ := Aside0.mk (Kd.N_elder' (kN_ HO_157005.out) (Kd.R_base ho0) hb); have n3_ := Aside0.mk (Kd.R_below (kR_ HO194.out) hb); have n4_ := Aside0.mk (Kd.R_lower (Kd.R_newM (M := fun k_ => (w.heap.size ≤ k_)) ho0 (below_size (hb2_ HB.out GE154.out GE156.out)) (fun k_ h_ => h_)) (below_size (hb2_ HB.out GE154.out GE156.out))); have n5_ := Aside0.mk (blk_below (g := gb154) (o := .cells #[.int .i64 0, .int .i64 0, .slice none 0 0, .slice none 0 0, .slice none 0 0, .slice none 0 0, .slice none 0 0, .bool false] 31 (0, 0)) (bk_ BK154.out) hb); have n6_ := Aside0.mk (blk_below (g := gb156) (o := .cells #[.int .i64 x157000_2, .int .i64 x157001_2, .slice none 0 0, .slice none 0 0, .slice none 0 0, u157005, .slice none 0 0, .bool false] 31 (0, 0)) (bk_ BK156.out) hb); have n7_ := Aside0.mk (below_step (hb2_ HB.out GE154.out GE156.out) hb); clear HO_10 HO_41 HO_157005 HO194 BK154 BK156 HB; revert n0_ n1_ n2_ n3_ n4_ n5_ n6_ n7_; intro HO_10 HO_41 HO_157005 HO194 HO199 BK154 BK156 HB; (try clear hb); (try clear hb2); (try clear hk); (try clear hi); (try clear ho0); obtain ⟨hcz106_0, hcz106_1, hcz106_2, hcz106_3, hcz106_4, hcz106_5, hcz106_6, hcz106_7, hfz106_0, hfz106_1, hfz106_2, hfz106_3, hfz106_4, hfz106_5, hfz106_6, hfz106_7⟩ := bx8_ BK156.out))
          go_loopg [15, 109] k2 (fun kq v15 v109 w' => ∃ (x15_3 : List Int) (x109_3 : Int), v109 = .int .i64 x109_3 ∧ Aside0 (sum_Lay.l1 kq t192 x15_3 t195 x109_3 x157000_2 x157001_2 x157005_2 false = some (r1, r2, r3, r4, r5, r6, r7, r8, r9)) ∧ Aside0 (kq ≤ k2) ∧ Aside0 (Kd.R (Kd.int .u8) 5 w' w.heap.size (fun k_ => (w.heap.size ≤ k_)) (.slice Ao104 t192.length co104) t192) ∧ Aside0 (Kd.R (Kd.int .i64) 3 w' w.heap.size (fun k_ => (w.heap.size ≤ k_)) v15 x15_3) ∧ Aside0 (Kd.N k79 79 w' w.heap.size (fun k_ => (P0_ k_ ∨ w.heap.size ≤ k_) ∧ some k_ ≠ ((.slice Ao104 t192.length co104) : Value).ownBlock ∧ some k_ ≠ (v15 : Value).ownBlock ∧ k_ ≠ gb154 ∧ k_ ≠ gb156) u157005 x157005_2) ∧ Aside0 (w'.heap[gb154]? = some (.cells #[.int .i64 0, .int .i64 0, (.slice none 0 0), (.slice none 0 0), (.slice none 0 0), (.slice none 0 0), (.slice none 0 0), .bool false] 31 (0, 0))) ∧ Aside0 (w'.heap[gb156]? = some (.cells #[.int .i64 x157000_2, .int .i64 x157001_2, (.slice none 0 0), (.slice none 0 0), (.slice none 0 0), u157005, (.slice none 0 0), .bool false] 31 (0, 0))) ∧ Aside0 (Below w.heap.size w w'))
          case atStart => exact ⟨(([] : List Int)), (0), (by first | rfl | (simp; done) | (simp [*]; done)), H', ⟨Nat.le_refl _⟩, ⟨by (with_reducible repeat (first | apply Kd.R_alloc | apply Kd.R_drewN | apply Kd.R_drew)); exact Kd.R_mono HO194.out (fun _ hk => hk.1)⟩, ⟨by first | exact Kd.R_nil _ _ _ _ _ | exact Kd.N_nil _ _ _ _ _ | exact Kd.V_nil _ _ _ _ _ | exact Kd.Q_nil _ _ _ _ _ | exact Kd.S_nil _ _ _ _ _⟩, ⟨by (with_reducible repeat (first | apply Kd.N_alloc | apply Kd.N_drewN | apply Kd.N_drew)); exact Kd.N_mono HO_157005.out (fun _ hk => ⟨hk.1.1.1, ⟨hk.1.2, ⟨(by simp [Value.ownBlock]), ⟨hk.1.1.2.2.1, hk.1.1.2.2.2⟩⟩⟩⟩)⟩, ⟨by (with_reducible repeat (first | refine blk_drewN ?_ _ | refine blk_drew ?_ | refine blk_alloc ?_ _)); exact BK154.out⟩, ⟨by (with_reducible repeat (first | refine blk_drewN ?_ _ | refine blk_drew ?_ | refine blk_alloc ?_ _)); exact BK156.out⟩, ⟨(hb2_ HB.out GE154.out GE156.out)⟩⟩
          case round =>
           clear H'
           try clear c1
           try clear p1
           try clear q1
           try clear hx1
           try clear c2
           try clear p2
           try clear q2
           try clear c4
           try clear c5
           try clear p6
           try clear c7
           try clear c9
           try clear c10
           try clear c15
           try clear p16
           try clear q16
           try clear hx16
           try clear c17
           try clear c17b0
           try clear c18
           try clear c19
           try clear c20
           try clear c21
           try clear c23
           try clear q24
           try clear c42
           try clear c44
           try clear c49
           try clear c54
           try clear p64
           try clear c77
           try clear c78
           try clear c79
           try clear c91
           try clear c91b0
           try clear c91b1
           try clear c92
           try clear c100
           try clear hcz101_0
           try clear hcz101_1
           try clear hcz101_2
           try clear hcz101_3
           try clear hcz101_4
           try clear hcz101_5
           try clear hcz101_6
           try clear hcz101_7
           try clear hcz106_0
           try clear hcz106_1
           try clear hcz106_2
           try clear hcz106_3
           try clear hcz106_4
           try clear hcz106_5
           try clear hcz106_6
           try clear hcz106_7
           try clear hcz69_0
           try clear hcz69_1
           try clear hcz69_2
           try clear hcz69_3
           try clear hcz69_4
           try clear hcz69_5
           try clear hcz69_6
           try clear hcz69_7
           try clear hcz80_0
           try clear hcz80_1
           try clear hcz80_2
           try clear hcz80_3
           try clear hcz80_4
           try clear hcz80_5
           try clear hcz80_6
           try clear hcz80_7
           try clear hcz87_0
           try clear hcz87_1
           try clear hcz87_2
           try clear hcz87_3
           try clear hcz87_4
           try clear hcz87_5
           try clear hcz87_6
           try clear hcz87_7
           try clear hcz89_0
           try clear hcz89_1
           try clear hcz89_2
           try clear hcz89_3
           try clear hcz89_4
           try clear hcz89_5
           try clear hcz89_6
           try clear hcz89_7
           try clear hcz93_0
           try clear hcz93_1
           try clear hcz93_2
           try clear hcz93_3
           try clear hcz93_4
           try clear hcz93_5
           try clear hcz93_6
           try clear hcz93_7
           try clear hcz98_0
           try clear hcz98_1
           try clear hcz98_2
           try clear hcz98_3
           try clear hcz98_4
           try clear hcz98_5
           try clear hcz98_6
           try clear hcz98_7
           try clear hcz99_0
           try clear hcz99_1
           try clear hcz99_2
           try clear hcz99_3
           try clear hcz99_4
           try clear hcz99_5
           try clear hcz99_6
           try clear hcz99_7
           try clear hfz101_0
           try clear hfz101_1
           try clear hfz101_2
           try clear hfz101_3
           try clear hfz101_4
           try clear hfz101_5
           try clear hfz101_6
           try clear hfz101_7
           try clear hfz106_0
           try clear hfz106_1
           try clear hfz106_2
           try clear hfz106_3
           try clear hfz106_4
           try clear hfz106_5
           try clear hfz106_6
           try clear hfz106_7
           try clear hfz69_0
           try clear hfz69_1
           try clear hfz69_2
           try clear hfz69_3
           try clear hfz69_4
           try clear hfz69_5
           try clear hfz69_6
           try clear hfz69_7
           try clear hfz80_0
           try clear hfz80_1
           try clear hfz80_2
           try clear hfz80_3
           try clear hfz80_4
           try clear hfz80_5
           try clear hfz80_6
           try clear hfz80_7
           try clear hfz87_0
           try clear hfz87_1
           try clear hfz87_2
           try clear hfz87_3
           try clear hfz87_4
           try clear hfz87_5
           try clear hfz87_6
           try clear hfz87_7
           try clear hfz89_0
           try clear hfz89_1
           try clear hfz89_2
           try clear hfz89_3
           try clear hfz89_4
           try clear hfz89_5
           try clear hfz89_6
           try clear hfz89_7
           try clear hfz93_0
           try clear hfz93_1
           try clear hfz93_2
           try clear hfz93_3
           try clear hfz93_4
           try clear hfz93_5
           try clear hfz93_6
           try clear hfz93_7
           try clear hfz98_0
           try clear hfz98_1
           try clear hfz98_2
           try clear hfz98_3
           try clear hfz98_4
           try clear hfz98_5
           try clear hfz98_6
           try clear hfz98_7
           try clear hfz99_0
           try clear hfz99_1
           try clear hfz99_2
           try clear hfz99_3
           try clear hfz99_4
           try clear hfz99_5
           try clear hfz99_6
           try clear hfz99_7
           try clear hx167_0
           try clear p167
           try clear q167
           obtain ⟨x15_3, x109_3, rfl, HA, HK3, HO_13, HO_15, HO_157005, BK154, BK156, HB⟩ := hrel
           cases gk with
           | zero => exact absurd HA.out (by simp [sum_Lay.l1])
           | succ k3 =>
            have H := HA.out
            clear HA
            simp only [sum_Lay.l1] at H
            by_cases c107 : x109_3 < t195
            ·
             rw [if_pos c107] at H
             have c107b0 : decide (x109_3 < t195) = true := decide_eq_true c107
             clear c107
             by_cases c108 : x15_3.length < 17592186044416
             rotate_left
             ·
              rw [if_neg c108] at H
              exact absurd H (by simp)
             rw [if_pos c108] at H
             have LMc108 := Aside0.mk c108
             clear c108
             obtain ⟨y203, hy203⟩ : ∃ y_ : List Int, y_ = (x15_3 ++ [wrap64 ((wrap64 (8 * x157000_2)) + x109_3)]) := ⟨_, rfl⟩
             replace H : (sum_Lay.l1 k3 t192 y203 t195 (wrap64 (x109_3 + 1)) x157000_2 x157001_2 x157005_2 false) = some (r1, r2, r3, r4, r5, r6, r7, r8, r9) := by first | (rw [hy203]; with_reducible exact H) | (have H2_ := (Option.bind_some _ _).symm.trans H; rw [hy203]; with_reducible exact H2_) | (have H2_ := (Option.bind_some _ _).symm.trans H; with_reducible exact H2_) | with_reducible exact H | (rw [hy203]; exact H) | exact H
             have Ny203 := Aside0.mk hy203
             clear hy203
             have H' := Aside0.mk H
             clear H
             have hnb109 := NB156_154.out
             have hnc109 := NB154_156.out
             obtain ⟨hcz110_0, hcz110_1, hcz110_2, hcz110_3, hcz110_4, hcz110_5, hcz110_6, hcz110_7, hfz110_0, hfz110_1, hfz110_2, hfz110_3, hfz110_4, hfz110_5, hfz110_6, hfz110_7⟩ := bx8_ BK156.out
             go_wp2_with (first | ((with_reducible refine gate_builtin (b := .append) (xs := #[.tmp 112, .tmp 118]) rfl ?_); (try (refine gate_guard (by rfl) ?_; dsimp only)); at_builtin; refine Kd.R_append (Kd.int .i64) (w0 := w) w.heap.size rfl (.tmp 112) (.tmp 118) 23 3 (.int .i64 0) 8 rfl Try.underlying23 info3 rfl (by decide) (by omega) u15 x15_3 (wrap64 ((wrap64 (8 * x157000_2)) + x109_3)) [.int .i64 (wrap64 ((wrap64 (8 * x157000_2)) + x109_3))] (fun k_ => (w.heap.size ≤ k_)) (fun _ => False) rfl rfl ?aP (fun _ hk => hk.elim) ?aF ?aO ?aB ?aS ?aL ?_; (case aP => exact rfl); (case aB => exact (hb2_ HB.out GE154.out GE156.out)); (case aF => exact (fun k_ hk => (Nat.le_trans (below_size (hb2_ HB.out GE154.out GE156.out)) hk))); (case aO => exact (kR_ HO_15.out)); (case aS => exact (below_size (hb2_ HB.out GE154.out GE156.out))); (case aL => have := LMc108.out; omega); intro v204 w111 ho hb hg hat; rw [← Ny203.out] at ho; have n0_ := Aside0.mk (Kd.R_over' (kR_ HO_13.out) (Kd.R_typed (kR_ HO_15.out)) (by decide) hg); have n1_ := Aside0.mk (Kd.N_afterv (ok := (fun k_ => (P0_ k_ ∨ w.heap.size ≤ k_) ∧ some k_ ≠ (.slice Ao104 t192.length co104 : Value).ownBlock ∧ k_ ≠ gb154 ∧ k_ ≠ gb156)) (by (with_reducible repeat (first | apply Kd.N_alloc | apply Kd.N_drewN | apply Kd.N_drew)); exact Kd.N_mono HO_157005.out (fun _ hk => ⟨⟨hk.1, ⟨hk.2.1, ⟨hk.2.2.2.1, hk.2.2.2.2⟩⟩⟩, hk.2.2.1⟩)) hg hat); have n2_ := Aside0.mk (blk_grown (g := gb154) (o := .cells #[.int .i64 0, .int .i64 0, .slice none 0 0, .slice none 0 0, .slice none 0 0, .slice none 0 0, .slice none 0 0, .bool false] 31 (0, 0)) (bk_ BK154.out) hg (Kd.R_ne HO_15.out BK154.out (by decide))); have n3_ := Aside0.mk (blk_grown (g := gb156) (o := .cells #[.int .i64 x157000_2, .int .i64 x157001_2, .slice none 0 0, .slice none 0 0, .slice none 0 0, u157005, .slice none 0 0, .bool false] 31 (0, 0)) (bk_ BK156.out) hg (Kd.R_ne HO_15.out BK156.out (by decide))); have n4_ := Aside0.mk (hb); have n5_ := Aside0.mk (ho); clear HO_13 HO_157005 BK154 BK156 HB HO_15; revert n0_ n1_ n2_ n3_ n4_ n5_; intro HO_13 HO_157005 BK154 BK156 HB HO205; clear ho hb hg hat))
             go_roundg k3
             case measure => have := HJ4.out; have := HK2.out; have := HK3.out; omega
             case rel => exact ⟨(y203), (wrap64 (x109_3 + 1)), (by first | rfl | (simp; done) | (simp [*]; done)), H', ⟨by have := HJ4.out; have := HK2.out; have := HK3.out; omega⟩, ⟨by (with_reducible repeat (first | apply Kd.R_alloc | apply Kd.R_drewN | apply Kd.R_drew)); exact HO_13.out⟩, ⟨by (with_reducible repeat (first | apply Kd.R_alloc | apply Kd.R_drewN | apply Kd.R_drew)); exact HO205.out⟩, ⟨by (with_reducible repeat (first | apply Kd.N_alloc | apply Kd.N_drewN | apply Kd.N_drew)); exact Kd.N_mono HO_157005.out (fun _ hk => ⟨hk.1.1, ⟨hk.1.2.1, ⟨hk.2, ⟨hk.1.2.2.1, hk.1.2.2.2⟩⟩⟩⟩)⟩, ⟨by (with_reducible repeat (first | refine blk_drewN ?_ _ | refine blk_drew ?_ | refine blk_alloc ?_ _)); exact BK154.out⟩, ⟨by (with_reducible repeat (first | refine blk_drewN ?_ _ | refine blk_drew ?_ | refine blk_alloc ?_ _)); exact BK156.out⟩, ⟨(hb2_ HB.out GE154.out GE156.out)⟩⟩
            ·
             rw [if_neg c107] at H
             have c107b0 : decide (x109_3 < t195) = false := decide_eq_false c107
             clear c107
             by_cases c112 : t192.length < 140737488355328
             ·
              rw [if_pos c112] at H
              have LMc112 := Aside0.mk c112
              clear c112
              obtain ⟨y206, hy206⟩ : ∃ y_ : List Int, y_ = (t192 ++ [255]) := ⟨_, rfl⟩
              replace H : ((mask_Clear.f k3 y206 x15_3).bind fun t209 => (some (wrap64 (x157000_2 + 1), x157001_2, t209, ([] : List Int), ([] : List (S101)), x157005_2, x15_3, false, 0))) = some (r1, r2, r3, r4, r5, r6, r7, r8, r9) := by first | (rw [hy206]; with_reducible exact H) | (have H2_ := (Option.bind_some _ _).symm.trans H; rw [hy206]; with_reducible exact H2_) | (have H2_ := (Option.bind_some _ _).symm.trans H; with_reducible exact H2_) | with_reducible exact H | (rw [hy206]; exact H) | exact H
              have Ny206 := Aside0.mk hy206
              clear hy206
              replace H := Option.bind_eq_some_iff.mp H
              obtain ⟨t209, A1130, H⟩ := H
              try dsimp only at H
              have A113 := Aside0.mk A1130
              clear A1130
              simp only [Option.some.injEq, Prod.mk.injEq] at H
              obtain ⟨rfl, rfl, rfl, rfl, rfl, rfl, rfl, rfl, rfl⟩ := H
              go_wp2_with (first | ((with_reducible refine gate_builtin (b := .append) (xs := #[.tmp 121, .tmp 122]) rfl ?_); (try (refine gate_guard (by rfl) ?_; dsimp only)); at_builtin; refine Kd.R_append (Kd.int .u8) (w0 := w) w.heap.size rfl (.tmp 121) (.tmp 122) 27 5 (.int .u8 0) 1 rfl Try.underlying27 info5 rfl (by decide) (by omega) (.slice Ao104 t192.length co104) t192 255 [.int .u8 255] (fun k_ => (w.heap.size ≤ k_)) (fun _ => False) rfl rfl ?aP (fun _ hk => hk.elim) ?aF ?aO ?aB ?aS ?aL ?_; (case aP => exact rfl); (case aB => exact (hb2_ HB.out GE154.out GE156.out)); (case aF => exact (fun k_ hk => (Nat.le_trans (below_size (hb2_ HB.out GE154.out GE156.out)) hk))); (case aO => exact (kR_ HO_13.out)); (case aS => exact (below_size (hb2_ HB.out GE154.out GE156.out))); (case aL => have := LMc112.out; omega); intro v207 w114 ho hb hg hat; rw [← Ny206.out] at ho; have n0_ := Aside0.mk (Kd.R_over' (kR_ HO_15.out) (Kd.R_typed (kR_ HO_13.out)) (by decide) hg); have n1_ := Aside0.mk (Kd.N_afterv (ok := (fun k_ => (P0_ k_ ∨ w.heap.size ≤ k_) ∧ some k_ ≠ (u15 : Value).ownBlock ∧ k_ ≠ gb154 ∧ k_ ≠ gb156)) (by (with_reducible repeat (first | apply Kd.N_alloc | apply Kd.N_drewN | apply Kd.N_drew)); exact Kd.N_mono HO_157005.out (fun _ hk => ⟨⟨hk.1, ⟨hk.2.2.1, ⟨hk.2.2.2.1, hk.2.2.2.2⟩⟩⟩, hk.2.1⟩)) hg hat); have n2_ := Aside0.mk (blk_grown (g := gb154) (o := .cells #[.int .i64 0, .int .i64 0, .slice none 0 0, .slice none 0 0, .slice none 0 0, .slice none 0 0, .slice none 0 0, .bool false] 31 (0, 0)) (bk_ BK154.out) hg (Kd.R_ne HO_13.out BK154.out (by decide))); have n3_ := Aside0.mk (blk_grown (g := gb156) (o := .cells #[.int .i64 x157000_2, .int .i64 x157001_2, .slice none 0 0, .slice none 0 0, .slice none 0 0, u157005, .slice none 0 0, .bool false] 31 (0, 0)) (bk_ BK156.out) hg (Kd.R_ne HO_13.out BK156.out (by decide))); have n4_ := Aside0.mk (hb); have n5_ := Aside0.mk (ho); clear HO_15 HO_157005 BK154 BK156 HB HO_13; revert n0_ n1_ n2_ n3_ n4_ n5_; intro HO_15 HO_157005 BK154 BK156 HB HO208; clear ho hb hg hat; have hnb115 := NB156_154.out; have hnc115 := NB154_156.out; obtain ⟨hcz116_0, hcz116_1, hcz116_2, hcz116_3, hcz116_4, hcz116_5, hcz116_6, hcz116_7, hfz116_0, hfz116_1, hfz116_2, hfz116_3, hfz116_4, hfz116_5, hfz116_6, hfz116_7⟩ := bx8_ BK156.out; obtain ⟨Ao117, co117, eo117⟩ := Kd.R_slice HO208.out; subst eo117; obtain ⟨Ao118, co118, eo118⟩ := Kd.R_slice HO_15.out; subst eo118) | ((with_reducible refine gate_callee (f := 49) rfl ?_); refine goesL_ (some 131) rfl rfl Try.func49 (by kernel_rfl) rfl #[.slice Ao117 y206.length co117, .slice Ao118 x15_3.length co118] rfl (by (try simp only [List.map_toArray, List.map_cons, List.map_nil]); first | done | rfl | (simp only [List.length_drop, List.length_take]; rfl)) ?_; (with_reducible refine (mask_Clear.calls k3 _ _ y206 _ _ x15_3 t209 _ ?side1 ?side2 ?side3 ?side4 A113.out).mono ?_); (case side1 => refine (Kd.R_reads' (e := 5) (base := w.heap.size) (ok := fun k_ => (w.heap.size ≤ k_)) (n := y206.length) (c := co117) ?_).2.2; exact (by (with_reducible repeat (first | apply Kd.R_alloc | apply Kd.R_drewN | apply Kd.R_drew)); exact (Kd.R_mono (Kd.R_far (p := ⟨gb156, 0, none⟩) (Kd.R_types HO208.out BK156.out (by decide)) (fun _ hk => hk.2) (.int .i64 (wrap64 (x157000_2 + 1)))) (fun _ h_ => h_.1)))); (case side2 => exact (Kd.R_reads' HO208.out).2.1); (case side3 => refine (Kd.R_reads' (e := 3) (base := w.heap.size) (ok := fun k_ => (w.heap.size ≤ k_)) (n := x15_3.length) (c := co118) ?_).2.2; exact (by (with_reducible repeat (first | apply Kd.R_alloc | apply Kd.R_drewN | apply Kd.R_drew)); exact (Kd.R_mono (Kd.R_far (p := ⟨gb156, 0, none⟩) (Kd.R_types HO_15.out BK156.out (by decide)) (fun _ hk => hk.2) (.int .i64 (wrap64 (x157000_2 + 1)))) (fun _ h_ => h_.1)))); (case side4 => exact (Kd.R_reads' HO_15.out).2.1); rintro e w119 ⟨v210, rfl, ho0, hb⟩; refine ⟨_, rfl, ?_⟩; have n0_ := Aside0.mk (Kd.R_below (by (with_reducible repeat (first | apply Kd.R_alloc | apply Kd.R_drewN | apply Kd.R_drew)); exact (Kd.R_mono (Kd.R_far (p := ⟨gb156, 0, none⟩) (Kd.R_types HO_15.out BK156.out (by decide)) (fun _ hk => hk.2) (.int .i64 (wrap64 (x157000_2 + 1)))) (fun _ h_ => h_.1))) hb); have n1_ := Aside0.mk (Kd.N_elder' (by (with_reducible repeat (first | apply Kd.N_alloc | apply Kd.N_drewN | apply Kd.N_drew)); exact (Kd.N_mono (Kd.N_far (p := ⟨gb156, 0, none⟩) (Kd.N_mono HO_157005.out (fun k_ hk => (⟨hk, hk.1.2.2.2⟩ : _ ∧ k_ ≠ gb156))) (fun _ hk => hk.2) (.int .i64 (wrap64 (x157000_2 + 1)))) (fun _ h_ => h_.1))) (Kd.R_base ho0) hb); have n2_ := Aside0.mk (Kd.R_elder' (by (with_reducible repeat (first | apply Kd.R_alloc | apply Kd.R_drewN | apply Kd.R_drew)); exact (Kd.R_mono (Kd.R_far (p := ⟨gb156, 0, none⟩) (Kd.R_types HO208.out BK156.out (by decide)) (fun _ hk => hk.2) (.int .i64 (wrap64 (x157000_2 + 1)))) (fun _ h_ => h_.1))) (Kd.R_base ho0) hb); have n3_ := Aside0.mk (Kd.R_lower (Kd.R_new' (Kd.R_newM (M := fun k_ => (w.heap.size ≤ k_)) ho0 (below_size (hb2_ HB.out GE154.out GE156.out)) (fun k_ h_ => h_)) (Kd.R_lt (by (with_reducible repeat (first | apply Kd.R_alloc | apply Kd.R_drewN | apply Kd.R_drew)); exact (Kd.R_mono (Kd.R_far (p := ⟨gb156, 0, none⟩) (Kd.R_types HO208.out BK156.out (by decide)) (fun _ hk => hk.2) (.int .i64 (wrap64 (x157000_2 + 1)))) (fun _ h_ => h_.1))))) (below_size (hb2_ HB.out GE154.out GE156.out))); have n4_ := Aside0.mk (blk_below (g := gb154) (o := .cells #[.int .i64 0, .int .i64 0, .slice none 0 0, .slice none 0 0, .slice none 0 0, .slice none 0 0, .slice none 0 0, .bool false] 31 (0, 0)) (bf1_ BK154.out NB154_156.out) hb); have n5_ := Aside0.mk (blk_below (g := gb156) (o := .cells #[.int .i64 (wrap64 (x157000_2 + 1)), .int .i64 x157001_2, .slice none 0 0, .slice none 0 0, .slice none 0 0, u157005, .slice none 0 0, .bool false] 31 (0, 0)) (by (with_reducible repeat (first | refine blk_drewN ?_ _ | refine blk_drew ?_ | refine blk_alloc ?_ _)); refine blk_put (cs := #[.int .i64 x157000_2, .int .i64 x157001_2, .slice none 0 0, .slice none 0 0, .slice none 0 0, u157005, .slice none 0 0, .bool false]) ?_ 0 _ rfl; (with_reducible repeat (first | refine blk_drewN ?_ _ | refine blk_drew ?_ | refine blk_alloc ?_ _)); exact BK156.out) hb); have n6_ := Aside0.mk (below_step (hb2_ HB.out GE154.out GE156.out) hb); clear HO_15 HO_157005 HO208 BK154 BK156 HB; revert n0_ n1_ n2_ n3_ n4_ n5_ n6_; intro HO_15 HO_157005 HO208 HO211 BK154 BK156 HB; (try clear hb); (try clear hb2); (try clear hk); (try clear hi); (try clear ho0); obtain ⟨hcz120_0, hcz120_1, hcz120_2, hcz120_3, hcz120_4, hcz120_5, hcz120_6, hcz120_7, hfz120_0, hfz120_1, hfz120_2, hfz120_3, hfz120_4, hfz120_5, hfz120_6, hfz120_7⟩ := bx8_ BK156.out; obtain ⟨Ao121, co121, eo121⟩ := Kd.R_slice HO211.out; subst eo121; obtain ⟨hcz122_0, hcz122_1, hcz122_2, hcz122_3, hcz122_4, hcz122_5, hcz122_6, hcz122_7, hfz122_0, hfz122_1, hfz122_2, hfz122_3, hfz122_4, hfz122_5, hfz122_6, hfz122_7⟩ := bx8_ BK154.out; obtain ⟨Ao123, co123, eo123⟩ := Kd.N_slice HO_157005.out; subst eo123))
              refine bodyPost_ret (results_ct rfl _ _ gb154 31 #[.int .i64 (wrap64 (x157000_2 + 1)), .int .i64 x157001_2, .slice Ao121 t209.length co121, .slice none 0 0, .slice none 0 0, .slice Ao123 x157005_2.length co123, .slice Ao118 x15_3.length co118, .bool false] (0, 0) _ rfl (by (with_reducible repeat (first | refine blk_drewN ?_ _ | refine blk_drew ?_ | refine blk_alloc ?_ _)); refine blk_put (cs := #[.int .i64 (wrap64 (x157000_2 + 1)), .int .i64 x157001_2, .slice Ao121 t209.length co121, .slice none 0 0, .slice none 0 0, .slice Ao123 x157005_2.length co123, .slice Ao118 x15_3.length co118, .bool false]) ?_ 7 _ rfl; (with_reducible repeat (first | refine blk_drewN ?_ _ | refine blk_drew ?_ | refine blk_alloc ?_ _)); refine blk_put (cs := #[.int .i64 (wrap64 (x157000_2 + 1)), .int .i64 x157001_2, .slice Ao121 t209.length co121, .slice none 0 0, .slice none 0 0, .slice Ao123 x157005_2.length co123, .slice none 0 0, .bool false]) ?_ 6 _ rfl; (with_reducible repeat (first | refine blk_drewN ?_ _ | refine blk_drew ?_ | refine blk_alloc ?_ _)); refine blk_put (cs := #[.int .i64 (wrap64 (x157000_2 + 1)), .int .i64 x157001_2, .slice Ao121 t209.length co121, .slice none 0 0, .slice none 0 0, .slice none 0 0, .slice none 0 0, .bool false]) ?_ 5 _ rfl; (with_reducible repeat (first | refine blk_drewN ?_ _ | refine blk_drew ?_ | refine blk_alloc ?_ _)); refine blk_put (cs := #[.int .i64 (wrap64 (x157000_2 + 1)), .int .i64 x157001_2, .slice Ao121 t209.length co121, .slice none 0 0, .slice none 0 0, .slice none 0 0, .slice none 0 0, .bool false]) ?_ 4 _ rfl; (with_reducible repeat (first | refine blk_drewN ?_ _ | refine blk_drew ?_ | refine blk_alloc ?_ _)); refine blk_put (cs := #[.int .i64 (wrap64 (x157000_2 + 1)), .int .i64 x157001_2, .slice Ao121 t209.length co121, .slice none 0 0, .slice none 0 0, .slice none 0 0, .slice none 0 0, .bool false]) ?_ 3 _ rfl; (with_reducible repeat (first | refine blk_drewN ?_ _ | refine blk_drew ?_ | refine blk_alloc ?_ _)); refine blk_put (cs := #[.int .i64 (wrap64 (x157000_2 + 1)), .int .i64 x157001_2, .slice none 0 0, .slice none 0 0, .slice none 0 0, .slice none 0 0, .slice none 0 0, .bool false]) ?_ 2 _ rfl; (with_reducible repeat (first | refine blk_drewN ?_ _ | refine blk_drew ?_ | refine blk_alloc ?_ _)); refine blk_put (cs := #[.int .i64 (wrap64 (x157000_2 + 1)), .int .i64 0, .slice none 0 0, .slice none 0 0, .slice none 0 0, .slice none 0 0, .slice none 0 0, .bool false]) ?_ 1 _ rfl; (with_reducible repeat (first | refine blk_drewN ?_ _ | refine blk_drew ?_ | refine blk_alloc ?_ _)); refine blk_put (cs := #[.int .i64 0, .int .i64 0, .slice none 0 0, .slice none 0 0, .slice none 0 0, .slice none 0 0, .slice none 0 0, .bool false]) ?_ 0 _ rfl; (with_reducible repeat (first | refine blk_drewN ?_ _ | refine blk_drew ?_ | refine blk_alloc ?_ _)); refine blk_far ?_ NB154_156.out _; (with_reducible repeat (first | refine blk_drewN ?_ _ | refine blk_drew ?_ | refine blk_alloc ?_ _)); refine blk_far ?_ NB154_156.out _; (with_reducible repeat (first | refine blk_drewN ?_ _ | refine blk_drew ?_ | refine blk_alloc ?_ _)); exact BK154.out) Try.underlying31 rfl (by kernel_rfl)) rfl ?_
              exact ⟨_, _, _, _, _, by first | rfl | (simp [errW_none, errW_some] <;> rfl) | (simp [*, errW_none, errW_some] <;> rfl), by (with_reducible repeat (first | apply Kd.R_alloc | apply Kd.R_drewN | apply Kd.R_drew)); exact Kd.R_mono (Kd.R_far (p := ⟨gb154, 7, none⟩) (Kd.R_far (p := ⟨gb154, 6, none⟩) (Kd.R_far (p := ⟨gb154, 5, none⟩) (Kd.R_far (p := ⟨gb154, 4, none⟩) (Kd.R_far (p := ⟨gb154, 3, none⟩) (Kd.R_far (p := ⟨gb154, 2, none⟩) (Kd.R_far (p := ⟨gb154, 1, none⟩) (Kd.R_far (p := ⟨gb154, 0, none⟩) (Kd.R_far (p := ⟨gb156, 2, none⟩) (Kd.R_far (p := ⟨gb156, 6, none⟩) (Kd.R_types (Kd.R_types HO211.out BK156.out (by decide)) BK154.out (by decide)) (fun _ hk => hk.1.2) (.slice Ao118 x15_3.length co118)) (fun _ hk => hk.1.2) (.slice Ao121 t209.length co121)) (fun _ hk => hk.2) (.int .i64 (wrap64 (x157000_2 + 1)))) (fun _ hk => hk.2) (.int .i64 x157001_2)) (fun _ hk => hk.2) (.slice Ao121 t209.length co121)) (fun _ hk => hk.2) (.slice none 0 0)) (fun _ hk => hk.2) (.slice none 0 0)) (fun _ hk => hk.2) (.slice Ao123 x157005_2.length co123)) (fun _ hk => hk.2) (.slice Ao118 x15_3.length co118)) (fun _ hk => hk.2) (.bool false)) (fun _ hk => hk.1.1.1.1), by first | exact Kd.R_nil _ _ _ _ _ | exact Kd.N_nil _ _ _ _ _ | exact Kd.V_nil _ _ _ _ _ | exact Kd.Q_nil _ _ _ _ _ | exact Kd.S_nil _ _ _ _ _, by first | exact Kd.R_nil _ _ _ _ _ | exact Kd.N_nil _ _ _ _ _ | exact Kd.V_nil _ _ _ _ _ | exact Kd.Q_nil _ _ _ _ _ | exact Kd.S_nil _ _ _ _ _, by (with_reducible repeat (first | apply Kd.N_alloc | apply Kd.N_drewN | apply Kd.N_drew)); exact Kd.N_mono (Kd.N_far (p := ⟨gb154, 7, none⟩) (Kd.N_far (p := ⟨gb154, 6, none⟩) (Kd.N_far (p := ⟨gb154, 5, none⟩) (Kd.N_far (p := ⟨gb154, 4, none⟩) (Kd.N_far (p := ⟨gb154, 3, none⟩) (Kd.N_far (p := ⟨gb154, 2, none⟩) (Kd.N_far (p := ⟨gb154, 1, none⟩) (Kd.N_far (p := ⟨gb154, 0, none⟩) (Kd.N_far (p := ⟨gb156, 2, none⟩) (Kd.N_far (p := ⟨gb156, 6, none⟩) (Kd.N_mono (Kd.N_mono HO_157005.out (fun k_ hk => (⟨hk, hk.1.1.2.2.2⟩ : _ ∧ k_ ≠ gb156))) (fun k_ hk => (⟨hk, hk.1.1.1.2.2.1⟩ : _ ∧ k_ ≠ gb154))) (fun _ hk => hk.1.2) (.slice Ao118 x15_3.length co118)) (fun _ hk => hk.1.2) (.slice Ao121 t209.length co121)) (fun _ hk => hk.2) (.int .i64 (wrap64 (x157000_2 + 1)))) (fun _ hk => hk.2) (.int .i64 x157001_2)) (fun _ hk => hk.2) (.slice Ao121 t209.length co121)) (fun _ hk => hk.2) (.slice none 0 0)) (fun _ hk => hk.2) (.slice none 0 0)) (fun _ hk => hk.2) (.slice Ao123 x157005_2.length co123)) (fun _ hk => hk.2) (.slice Ao118 x15_3.length co118)) (fun _ hk => hk.2) (.bool false)) (fun _ hk => ⟨hk.1.1.1.1.1, ⟨hk.1.1.2, ⟨(by simp [Value.ownBlock]), ⟨(by simp [Value.ownBlock]), hk.1.1.1.1.2.1⟩⟩⟩⟩), by (with_reducible repeat (first | apply Kd.R_alloc | apply Kd.R_drewN | apply Kd.R_drew)); exact Kd.R_mono (Kd.R_far (p := ⟨gb154, 7, none⟩) (Kd.R_far (p := ⟨gb154, 6, none⟩) (Kd.R_far (p := ⟨gb154, 5, none⟩) (Kd.R_far (p := ⟨gb154, 4, none⟩) (Kd.R_far (p := ⟨gb154, 3, none⟩) (Kd.R_far (p := ⟨gb154, 2, none⟩) (Kd.R_far (p := ⟨gb154, 1, none⟩) (Kd.R_far (p := ⟨gb154, 0, none⟩) (Kd.R_far (p := ⟨gb156, 2, none⟩) (Kd.R_far (p := ⟨gb156, 6, none⟩) (Kd.R_types (Kd.R_types HO_15.out BK156.out (by decide)) BK154.out (by decide)) (fun _ hk => hk.1.2) (.slice Ao118 x15_3.length co118)) (fun _ hk => hk.1.2) (.slice Ao121 t209.length co121)) (fun _ hk => hk.2) (.int .i64 (wrap64 (x157000_2 + 1)))) (fun _ hk => hk.2) (.int .i64 x157001_2)) (fun _ hk => hk.2) (.slice Ao121 t209.length co121)) (fun _ hk => hk.2) (.slice none 0 0)) (fun _ hk => hk.2) (.slice none 0 0)) (fun _ hk => hk.2) (.slice Ao123 x157005_2.length co123)) (fun _ hk => hk.2) (.slice Ao118 x15_3.length co118)) (fun _ hk => hk.2) (.bool false)) (fun _ hk => ⟨hk.1.1, (by simp [Value.ownBlock])⟩), (hb2_ HB.out GE154.out GE156.out)⟩
             ·
              rw [if_neg c112] at H
              exact absurd H (by simp)

end Go.Proofs.Ytpcephbhnbfcmaa.G
