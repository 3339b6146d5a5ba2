-- Written by this session's program fork.py: a Lean function for each Go function and its walk. Not trusted: Lean checks it.
import Derived.Test.YtpcephbhnbfcmaaC0
import Derived.Test.YtpcephbhnbfcmaaC1
import Derived.Test.YtpcephbhnbfcmaaC2
import Derived.Test.YtpcephbhnbfcmaaC3
import Derived.Test.YtpcephbhnbfcmaaC4
namespace Go.Proofs.Ytpcephbhnbfcmaa.C
open Go.RowKit Go.Proofs.YtpcephbhnbfcmaaW.PrintWords Go.Proofs.YtpcephbhnbfcmaaW.PrintLast Go.Proofs.YtpcephbhnbfcmaaW.PrintMore
attribute [local go_sem] max2_int min2_int max_two min_two max_three min_three max_four min_four   -- for this text's walks alone
set_option linter.unusedVariables false
set_option linter.unusedSimpArgs false

open List (setIfInBounds_toArray set_cons_zero set_cons_succ)
/-! ### sum_Lay: function 36 -/
mutual
def sum_Lay.j0 : Nat → List (S31) → List ByteArray → List Bool → Bool → Option (Int × Int × List Int × List Int × (List (S101)) × (List (S79)) × List Int × Bool × Int)
 | 0, _, _, _, _ => none
 | k + 1, x0, x1, x2, x34 => if x34 = true then (some (0, 0, ([] : List Int), ([] : List Int), ([] : List (S101)), ([] : List (S79)), ([] : List Int), false, 19)) else (if (x1.length : Int) > 12 then (some (0, 0, ([] : List Int), ([] : List Int), ([] : List (S101)), ([] : List (S79)), ([] : List Int), false, 4)) else (sum_Lay.l0 k x1 x2 ([] : List (S31)) x0 (x0.length : Int) 0 0 1 ([] : List (S79)) false))
def sum_Lay.l0 : Nat → List ByteArray → List Bool → List (S31) → List (S31) → Int → Int → Int → Int → List (S79) → Bool → Option (Int × Int × List Int × List Int × (List (S101)) × (List (S79)) × List Int × Bool × Int)
 | 0, _, _, _, _, _, _, _, _, _, _ => none
 | k + 1, x1, x2, x10, x41, x42, x43, x139000, x139001, x139005, x139007 => if x43 < x42 then (if 0 ≤ x43 then (if x43 < (x41.length : Int) then (if x43 < (x1.length : Int) then (if x43 < (x2.length : Int) then ((CloneI.f ((rd_T31 x41 x43).f3)).bind fun t143 => (if x139005.length < 1759218604441 then ((some (x139005 ++ [(⟨rdOf ByteArray.empty x1 x43, rdOf false x2 x43, t143, ([] : List (S101)), (rd_T31 x41 x43).f0⟩ : S79)] : List (S79))).bind fun y146 => (if rdOf false x2 x43 = true then ((sum_Pointer.f).bind fun bt150 => (if x10.length < 977343669134 then (sum_Lay.l0 k x1 x2 (x10 ++ [(⟨bt150.1, bt150.2.1, bt150.2.2.1, bt150.2.2.2.1, bt150.2.2.2.2.1, bt150.2.2.2.2.2.1, bt150.2.2.2.2.2.2.1, bt150.2.2.2.2.2.2.2⟩ : S31)]) x41 x42 (wrap64 (x43 + 1)) (mx x139000 bt150.1) (mx x139001 bt150.2.1) y146 x139007) else (none))) else (if x10.length < 977343669134 then (sum_Lay.l0 k x1 x2 (x10 ++ [(⟨(rd_T31 x41 x43).f0, (rd_T31 x41 x43).f1, (rd_T31 x41 x43).f2, (rd_T31 x41 x43).f3, (rd_T31 x41 x43).f4, (rd_T31 x41 x43).f5, (rd_T31 x41 x43).f6, (rd_T31 x41 x43).f7⟩ : S31)]) x41 x42 (wrap64 (x43 + 1)) (mx x139000 ((rd_T31 x41 x43).f0)) (mx x139001 ((rd_T31 x41 x43).f1)) y146 x139007) else (none)))) else (none))) else (none)) else (none)) else (none)) else (none)) else ((sum_common.f k x10 x139000).bind fun t174 => ((sum_TagSize.f k (x1.length : Int)).bind fun t177 => ((mask_Bits.f k t174 t177).bind fun bt178 => (if bt178.2 = true then ((mask_Clear.f k t174 bt178.1).bind fun t182 => (some (x139000, x139001, t182, ([] : List Int), ([] : List (S101)), x139005, bt178.1, x139007, 0))) else (if x139000 = 1024 then (some (0, 0, ([] : List Int), ([] : List Int), ([] : List (S101)), ([] : List (S79)), ([] : List Int), false, 4)) else (sum_Lay.l1 k t174 ([] : List Int) t177 0 x139000 x139001 x139005 x139007))))))
def sum_Lay.l1 : Nat → List Int → List Int → Int → Int → Int → Int → List (S79) → Bool → Option (Int × Int × List Int × List Int × (List (S101)) × (List (S79)) × List Int × Bool × Int)
 | 0, _, _, _, _, _, _, _, _ => none
 | k + 1, x13, x15, x108, x109, x139000, x139001, x139005, x139007 => if x109 < x108 then (if x15.length < 17592186044416 then (sum_Lay.l1 k x13 (x15 ++ [wrap64 ((wrap64 (8 * x139000)) + x109)]) x108 (wrap64 (x109 + 1)) x139000 x139001 x139005 x139007) else (none)) else (if x13.length < 140737488355328 then ((mask_Clear.f k (x13 ++ [255]) x15).bind fun t191 => (some (wrap64 (x139000 + 1), x139001, t191, ([] : List Int), ([] : List (S101)), x139005, x15, x139007, 0))) else (none))
end
def sum_Lay.f (k : Nat) (l0 : List (S31)) (l1 : List ByteArray) (l2 : List Bool) : Option (Int × Int × List Int × List Int × (List (S101)) × (List (S79)) × List Int × Bool × Int) := (AnyBadS.f l0).bind fun t137 => (if (l0.length : Int) = (l1.length : Int) then (if (l1.length : Int) = (l2.length : Int) then (sum_Lay.j0 k l0 l1 l2 t137) else (sum_Lay.j0 k l0 l1 l2 true)) else (sum_Lay.j0 k l0 l1 l2 true))
theorem sum_Lay.mono_l : ∀ k, (∀ y0 y1 y2 y3, LeO (sum_Lay.j0 k y0 y1 y2 y3) (sum_Lay.j0 (k + 1) y0 y1 y2 y3)) ∧ (∀ y0 y1 y2 y3 y4 y5 y6 y7 y8 y9, LeO (sum_Lay.l0 k y0 y1 y2 y3 y4 y5 y6 y7 y8 y9) (sum_Lay.l0 (k + 1) y0 y1 y2 y3 y4 y5 y6 y7 y8 y9)) ∧ (∀ y0 y1 y2 y3 y4 y5 y6 y7, LeO (sum_Lay.l1 k y0 y1 y2 y3 y4 y5 y6 y7) (sum_Lay.l1 (k + 1) y0 y1 y2 y3 y4 y5 y6 y7))
 | 0 => ⟨fun _ _ _ _ r h => by simp [sum_Lay.j0] at h, fun _ _ _ _ _ _ _ _ _ _ r h => by simp [sum_Lay.l0] at h, fun _ _ _ _ _ _ _ _ r h => by simp [sum_Lay.l1] at h⟩
 | k + 1 => by
  obtain ⟨ih0, ih1, ih2⟩ := sum_Lay.mono_l k
  refine ⟨?_, ?_, ?_⟩
  ·
   intro y0 y1 y2 y3
   unfold sum_Lay.j0
   repeat' first
   | (with_reducible exact ih0 _ _ _ _)
   | (with_reducible exact ih1 _ _ _ _ _ _ _ _ _ _)
   | (with_reducible exact ih2 _ _ _ _ _ _ _ _)
   | (with_reducible exact mask_Bits.mono _ _ _)
   | (with_reducible exact mask_Clear.mono _ _ _)
   | (with_reducible exact sum_TagSize.mono _ _)
   | (with_reducible exact sum_common.mono _ _ _)
   | (with_reducible exact LeO.refl _)
   | (with_reducible exact LeO.none _)
   | (with_reducible refine LeO.ite ?_ ?_)
   | (with_reducible refine LeO.bind ?_ (fun _ => ?_))
   | exact ih0 _ _ _ _
   | exact ih1 _ _ _ _ _ _ _ _ _ _
   | exact ih2 _ _ _ _ _ _ _ _
   | exact mask_Bits.mono _ _ _
   | exact mask_Clear.mono _ _ _
   | exact sum_TagSize.mono _ _
   | exact sum_common.mono _ _ _
   | exact LeO.none _
   | refine LeO.ite ?_ ?_
   | refine LeO.bind ?_ (fun _ => ?_)
  ·
   intro y0 y1 y2 y3 y4 y5 y6 y7 y8 y9
   unfold sum_Lay.l0
   repeat' first
   | (with_reducible exact ih0 _ _ _ _)
   | (with_reducible exact ih1 _ _ _ _ _ _ _ _ _ _)
   | (with_reducible exact ih2 _ _ _ _ _ _ _ _)
   | (with_reducible exact mask_Bits.mono _ _ _)
   | (with_reducible exact mask_Clear.mono _ _ _)
   | (with_reducible exact sum_TagSize.mono _ _)
   | (with_reducible exact sum_common.mono _ _ _)
   | (with_reducible exact LeO.refl _)
   | (with_reducible exact LeO.none _)
   | (with_reducible refine LeO.ite ?_ ?_)
   | (with_reducible refine LeO.bind ?_ (fun _ => ?_))
   | exact ih0 _ _ _ _
   | exact ih1 _ _ _ _ _ _ _ _ _ _
   | exact ih2 _ _ _ _ _ _ _ _
   | exact mask_Bits.mono _ _ _
   | exact mask_Clear.mono _ _ _
   | exact sum_TagSize.mono _ _
   | exact sum_common.mono _ _ _
   | exact LeO.none _
   | refine LeO.ite ?_ ?_
   | refine LeO.bind ?_ (fun _ => ?_)
  ·
   intro y0 y1 y2 y3 y4 y5 y6 y7
   unfold sum_Lay.l1
   repeat' first
   | (with_reducible exact ih0 _ _ _ _)
   | (with_reducible exact ih1 _ _ _ _ _ _ _ _ _ _)
   | (with_reducible exact ih2 _ _ _ _ _ _ _ _)
   | (with_reducible exact mask_Bits.mono _ _ _)
   | (with_reducible exact mask_Clear.mono _ _ _)
   | (with_reducible exact sum_TagSize.mono _ _)
   | (with_reducible exact sum_common.mono _ _ _)
   | (with_reducible exact LeO.refl _)
   | (with_reducible exact LeO.none _)
   | (with_reducible refine LeO.ite ?_ ?_)
   | (with_reducible refine LeO.bind ?_ (fun _ => ?_))
   | exact ih0 _ _ _ _
   | exact ih1 _ _ _ _ _ _ _ _ _ _
   | exact ih2 _ _ _ _ _ _ _ _
   | exact mask_Bits.mono _ _ _
   | exact mask_Clear.mono _ _ _
   | exact sum_TagSize.mono _ _
   | exact sum_common.mono _ _ _
   | exact LeO.none _
   | refine LeO.ite ?_ ?_
   | refine LeO.bind ?_ (fun _ => ?_)
theorem sum_Lay.mono : ∀ a0 a1 a2 k, LeO (sum_Lay.f k a0 a1 a2) (sum_Lay.f (k + 1) a0 a1 a2) := by
 intro a0 a1 a2 k
 obtain ⟨ih0, ih1, ih2⟩ := sum_Lay.mono_l k
 unfold sum_Lay.f
 repeat' first
   | (with_reducible exact ih0 _ _ _ _)
   | (with_reducible exact ih1 _ _ _ _ _ _ _ _ _ _)
   | (with_reducible exact ih2 _ _ _ _ _ _ _ _)
   | (with_reducible exact mask_Bits.mono _ _ _)
   | (with_reducible exact mask_Clear.mono _ _ _)
   | (with_reducible exact sum_TagSize.mono _ _)
   | (with_reducible exact sum_common.mono _ _ _)
   | (with_reducible exact LeO.refl _)
   | (with_reducible exact LeO.none _)
   | (with_reducible refine LeO.ite ?_ ?_)
   | (with_reducible refine LeO.bind ?_ (fun _ => ?_))
   | exact ih0 _ _ _ _
   | exact ih1 _ _ _ _ _ _ _ _ _ _
   | exact ih2 _ _ _ _ _ _ _ _
   | exact mask_Bits.mono _ _ _
   | exact mask_Clear.mono _ _ _
   | exact sum_TagSize.mono _ _
   | exact sum_common.mono _ _ _
   | exact LeO.none _
   | refine LeO.ite ?_ ?_
   | refine LeO.bind ?_ (fun _ => ?_)
def sum_Lay.T11 : Bool × List (List Nat × List Nat) := (true, [([], []), ([0], [0]), ([], []), ([], []), ([2, 3], [2, 3]), ([4], [4]), ([], []), ([], []), ([6, 7], [6, 7]), ([8], [8]), ([], []), ([10], [10]), ([11], [11]), ([], []), ([13], [13]), ([5, 9, 12, 14], [5, 9, 12, 14]), ([15], [15]), ([1, 16, 12], [1, 16]), ([0, 1, 2, 3, 4, 5, 6, 7, 8, 9, 10, 11, 12, 13, 14, 15, 16, 17], []), ([18, 17, 17, 0, 1, 2, 3, 4, 5, 6, 7, 8, 9, 10, 11, 12, 13, 14, 15, 16, 17], [17, 18])])
def sum_Lay.B11 : List Nat := [0, 1, 0, 0, 12, 28, 0, 0, 192, 448, 0, 1024, 3072, 0, 8192, 32764, 65532, 131071, 262143, 524287]
theorem sum_Lay.tab11 : rtab .any (opsOf Try.f36 11) = sum_Lay.T11 := by kernel_rfl
theorem sum_Lay.bits11 : waitsOk sum_Lay.T11.2 sum_Lay.B11 = true := by kernel_rfl
def sum_Lay.T15 : Bool × List (List Nat × List Nat) := (true, [([], []), ([0], [0]), ([], []), ([2], [2]), ([1, 3], [1, 3]), ([], []), ([5], [5]), ([], []), ([7], [7]), ([6, 8], [6, 8]), ([0, 1, 2, 3, 4, 5, 6], []), ([10, 4, 0, 1, 2, 3, 4, 5, 6], [4, 10]), ([0, 1, 2, 3, 4, 5, 6, 7, 8, 9, 10, 11], []), ([12, 9, 11, 0, 1, 2, 3, 4, 5, 6, 7, 8, 9, 10, 11], [9, 12])])
def sum_Lay.B15 : List Nat := [0, 1, 0, 4, 15, 0, 32, 0, 128, 480, 127, 1151, 4095, 8191]
theorem sum_Lay.tab15 : rtab .any (opsOf Try.f36 15) = sum_Lay.T15 := by kernel_rfl
theorem sum_Lay.bits15 : waitsOk sum_Lay.T15.2 sum_Lay.B15 = true := by kernel_rfl
set_option maxHeartbeats 8000000 in
set_option maxRecDepth 100000 in
theorem sum_Lay.calls (k : Nat) (P0_ : Nat → Prop) (A0 : Option Addr) (c0 : Nat) (l0 : List (S31)) (A1 : Option Addr) (c1 : Nat) (l1 : List ByteArray) (A2 : Option Addr) (c2 : Nat) (l2 : List Bool) (r1 : Int) (r2 : Int) (r3 : List Int) (r4 : List Int) (r5 : List (S101)) (r6 : List (S79)) (r7 : List Int) (r8 : Bool) (r9 : Int) (w : World) (hs0 : Kd.V k31 31 w w.heap.size (fun k_ => P0_ k_) (.slice A0 l0.length c0) l0) (hr1 : Kd.C Kd.string w A1 l1.length l1) (hc1 : l1.length ≤ c1) (hr2 : Kd.C Kd.bool w A2 l2.length l2) (hc2 : l2.length ≤ c2) (h : sum_Lay.f k l0 l1 l2 = some (r1, r2, r3, r4, r5, r6, r7, r8, r9)) :
  Calls Try.prog 36 #[.slice A0 l0.length c0, .slice A1 l1.length c1, .slice A2 l2.length c2] w fun e w' => ∃ v2_ v3_ v4_ v5_ v6_ : Value, e = .returned (.tuple #[.agg #[.int .i64 r1, .int .i64 r2, v2_, v3_, v4_, v5_, v6_, .bool r8], .int .i64 r9]) ∧ Kd.R (Kd.int .u8) 5 w' w.heap.size (fun k_ => (w.heap.size ≤ k_)) v2_ r3 ∧ Kd.R (Kd.int .i64) 3 w' w.heap.size (fun k_ => (w.heap.size ≤ k_) ∧ some k_ ≠ (v6_ : Value).ownBlock) v3_ r4 ∧ Kd.N k101 101 w' w.heap.size (fun k_ => (P0_ k_ ∨ w.heap.size ≤ k_) ∧ some k_ ≠ (v2_ : Value).ownBlock ∧ some k_ ≠ (v3_ : Value).ownBlock ∧ some k_ ≠ (v5_ : Value).ownBlock ∧ some k_ ≠ (v6_ : Value).ownBlock) v4_ r5 ∧ Kd.N k79 79 w' w.heap.size (fun k_ => (P0_ k_ ∨ w.heap.size ≤ k_) ∧ some k_ ≠ (v2_ : Value).ownBlock ∧ some k_ ≠ (v3_ : Value).ownBlock ∧ some k_ ≠ (v4_ : Value).ownBlock ∧ some k_ ≠ (v6_ : Value).ownBlock) v5_ r6 ∧ Kd.R (Kd.int .i64) 3 w' w.heap.size (fun k_ => (w.heap.size ≤ k_) ∧ some k_ ≠ (v3_ : Value).ownBlock) v6_ r7 ∧ Below w.heap.size w w' := by
 have hu31 := Try.underlying31
 have hu79 := Try.underlying79
 have HO0 := Aside0.mk (show Kd.V k31 31 w w.heap.size (fun k_ => (P0_ k_ ∨ w.heap.size ≤ k_)) (.slice A0 l0.length c0) l0 from Kd.V_mono hs0 (fun k_ hk => .inl hk))
 have HR1 := Aside0.mk hr1
 have HC1 := Aside0.mk hc1
 clear hr1 hc1
 have HR2 := Aside0.mk hr2
 have HC2 := Aside0.mk hc2
 clear hr2 hc2
 have HB := Aside0.mk (Below.refl w.heap.size w)
 have H : ((AnyBadS.f l0).bind fun t137 => (if (l0.length : Int) = (l1.length : Int) then (if (l1.length : Int) = (l2.length : Int) then (sum_Lay.j0 k l0 l1 l2 t137) else (sum_Lay.j0 k l0 l1 l2 true)) else (sum_Lay.j0 k l0 l1 l2 true))) = some (r1, r2, r3, r4, r5, r6, r7, r8, r9) := h
 clear h
 replace H := Option.bind_eq_some_iff.mp H
 obtain ⟨t137, A40, H⟩ := H
 try dsimp only at H
 have A4 := Aside0.mk A40
 clear A40
 have HC5 := Aside0.mk H
 clear H
 go_enter Try.func36, Try.ntmps36
 go_upto_region 2 with (first | ((with_reducible refine gate_dst (N := 6) rfl ?_); (try (refine gate_guard (by rfl) ?_; dsimp only)); refine box_event ?hg (N := 6) ?hd (cs := #[.int .i64 0, .int .i64 0, .slice none 0 0, .slice none 0 0, .slice none 0 0, .slice none 0 0, .slice none 0 0, .bool false]) (t := 31) ?hr ?_; (case hd => rfl); (case hg => rfl); (case hr => first | (go_simp; done) | (go_simp; rfl)); intro gb136 hg w6 hbox hb; have n0_ := Aside0.mk (Kd.V_below (Kd.V_elderB (kV_ HO0.out) gb136 (Nat.le_of_eq hg.symm)) hb); have n1_ := Aside0.mk (below_step (hb0_ HB.out) hb); have n2_ := Aside0.mk (hbox); have n3_ := Aside0.mk ((by rw [hg]; exact (below_size (hb0_ HB.out)) : w.heap.size ≤ gb136)); have n4_ := Aside0.mk ((by rw [hg]; exact (below_size (hb0_ HB.out)) : w.heap.size ≤ gb136)); clear HO0 HB; have HO0 := n0_; have HB := n1_; have BK136 := n2_; have GW136 := n3_; have GE136 := n4_; clear n0_ n1_ n2_ n3_ n4_ hb hbox hg) | ((with_reducible refine gate_callee (f := 72) rfl ?_); refine goesL_ (some 19) rfl rfl Try.func72 (by kernel_rfl) rfl #[.slice A0 l0.length c0, .func (.func 77) #[] #[]] rfl (by (try simp only [List.map_toArray, List.map_cons, List.map_nil]); first | done | rfl | (simp only [List.length_drop, List.length_take]; rfl)) ?_; (with_reducible refine (AnyBadS.calls _ _ l0 t137 _ ?side1 ?side2 A4.out).mono ?_); (case side1 => repeat (first | exact (Kd.V_reads' HO0.out).2.2 | (with_reducible refine Kd.C_alloc ?_ _) | (with_reducible refine Kd.C_drewN ?_ _) | (with_reducible refine Kd.C_drew ?_))); (case side2 => exact (Kd.V_reads' HO0.out).2.1); rintro e w7 ⟨rfl, hb⟩; refine ⟨_, rfl, ?_⟩; have n0_ := Aside0.mk (Kd.V_below (kV_ HO0.out) hb); have n1_ := Aside0.mk (blk_below (g := gb136) (o := .cells #[.int .i64 0, .int .i64 0, .slice none 0 0, .slice none 0 0, .slice none 0 0, .slice none 0 0, .slice none 0 0, .bool false] 31 (0, 0)) (bk_ BK136.out) hb); have n2_ := Aside0.mk (below_step (hb1_ HB.out GE136.out) hb); clear HO0 BK136 HB; have HO0 := n0_; have BK136 := n1_; have HB := n2_; clear n0_ n1_ n2_; (try clear hb); (try clear hb2); (try clear hk); (try clear hi)))
 (try simp only [Act.put, setIfInBounds_toArray, set_cons_zero, set_cons_succ])
 go_cut [34] (fun v34 wc => ∃ (kq : Nat) (x34_4 : Bool), v34 = .bool x34_4 ∧ Aside0 (sum_Lay.j0 kq l0 l1 l2 x34_4 = some (r1, r2, r3, r4, r5, r6, r7, r8, r9)) ∧ Aside0 (kq ≤ k) ∧ Aside0 (Kd.V k31 31 wc w.heap.size (fun k_ => (P0_ k_ ∨ w.heap.size ≤ k_) ∧ k_ ≠ gb136) (.slice A0 l0.length c0) l0) ∧ Aside0 (wc.heap[gb136]? = some (.cells #[.int .i64 0, .int .i64 0, (.slice none 0 0), (.slice none 0 0), (.slice none 0 0), (.slice none 0 0), (.slice none 0 0), .bool false] 31 (0, 0))) ∧ Aside0 (Below w.heap.size w wc))
 case first =>
  have H := HC5.out
  clear HC5
  by_cases c8 : (l0.length : Int) = (l1.length : Int)
  ·
   rw [if_pos c8] at H
   have c8b0 : ((l0.length : Int) == (l1.length : Int)) = true := beq_iff_eq.mpr c8
   have c8b1 : ((l0.length : Int) != (l1.length : Int)) = false := bne_eq_false_iff_eq.mpr c8
   have c8b2 : (l0.length == l1.length) = true := by first | simpa using c8 | (simp at c8 ⊢; omega)
   clear c8
   (first | rw [c8b0] | (simp only [i64_w, i32_w]; rw [c8b0]) | skip)
   by_cases c9 : (l1.length : Int) = (l2.length : Int)
   ·
    rw [if_pos c9] at H
    have c9b0 : ((l1.length : Int) == (l2.length : Int)) = true := beq_iff_eq.mpr c9
    have c9b1 : ((l1.length : Int) != (l2.length : Int)) = false := bne_eq_false_iff_eq.mpr c9
    have c9b2 : (l1.length == l2.length) = true := by first | simpa using c9 | (simp at c9 ⊢; omega)
    clear c9
    have H' := Aside0.mk H
    clear H
    go_wp2
    go_meet
    case rel => exact ⟨_, (t137), (by first | rfl | (simp; done) | (simp [*]; done)), H', ⟨by first | omega | exact Nat.le_refl _⟩, ⟨by (with_reducible repeat (first | apply Kd.V_alloc | apply Kd.V_drewN | apply Kd.V_drew)); exact HO0.out⟩, ⟨by (with_reducible repeat (first | refine blk_drewN ?_ _ | refine blk_drew ?_ | refine blk_alloc ?_ _)); exact BK136.out⟩, ⟨by repeat (first | (with_reducible first | exact HB.out | apply below_alloc | apply pw_below_drewN | apply below_drew1 | refine below_set ?_ GE136.out) | exact HB.out)⟩⟩
   ·
    rw [if_neg c9] at H
    have c9b0 : ((l1.length : Int) == (l2.length : Int)) = false := beq_eq_false_iff_ne.mpr c9
    have c9b1 : ((l1.length : Int) != (l2.length : Int)) = true := bne_iff_ne.mpr c9
    have c9b2 : (l1.length == l2.length) = false := by first | simpa using c9 | (simp at c9 ⊢; omega)
    have H' := Aside0.mk H
    clear H
    go_wp2
    go_meet
    case rel => exact ⟨_, (true), (by first | rfl | (simp; done) | (simp [*]; done)), H', ⟨by first | omega | exact Nat.le_refl _⟩, ⟨by (with_reducible repeat (first | apply Kd.V_alloc | apply Kd.V_drewN | apply Kd.V_drew)); exact HO0.out⟩, ⟨by (with_reducible repeat (first | refine blk_drewN ?_ _ | refine blk_drew ?_ | refine blk_alloc ?_ _)); exact BK136.out⟩, ⟨by repeat (first | (with_reducible first | exact HB.out | apply below_alloc | apply pw_below_drewN | apply below_drew1 | refine below_set ?_ GE136.out) | exact HB.out)⟩⟩
  ·
   rw [if_neg c8] at H
   have c8b0 : ((l0.length : Int) == (l1.length : Int)) = false := beq_eq_false_iff_ne.mpr c8
   have c8b1 : ((l0.length : Int) != (l1.length : Int)) = true := bne_iff_ne.mpr c8
   have c8b2 : (l0.length == l1.length) = false := by first | simpa using c8 | (simp at c8 ⊢; omega)
   (first | rw [c8b0] | (simp only [i64_w, i32_w]; rw [c8b0]) | skip)
   have H' := Aside0.mk H
   clear H
   go_wp2
   go_meet
   case rel => exact ⟨_, (true), (by first | rfl | (simp; done) | (simp [*]; done)), H', ⟨by first | omega | exact Nat.le_refl _⟩, ⟨by (with_reducible repeat (first | apply Kd.V_alloc | apply Kd.V_drewN | apply Kd.V_drew)); exact HO0.out⟩, ⟨by (with_reducible repeat (first | refine blk_drewN ?_ _ | refine blk_drew ?_ | refine blk_alloc ?_ _)); exact BK136.out⟩, ⟨by repeat (first | (with_reducible first | exact HB.out | apply below_alloc | apply pw_below_drewN | apply below_drew1 | refine below_set ?_ GE136.out) | exact HB.out)⟩⟩
 case rest =>
  clear HC5
  try clear c1
  try clear c2
  try clear p2
  try clear c3
  try clear c7
  try clear c8
  try clear c8b0
  try clear c8b1
  try clear c8b2
  try clear c9
  try clear c9b0
  try clear c9b1
  try clear c9b2
  obtain ⟨kq, x34_4, rfl, HA, HJ4, HO_0, BK136, HB⟩ := hcut
  cases kq with
  | zero => exact absurd HA.out (by simp [sum_Lay.j0])
  | succ kj4 =>
   have H := HA.out
   clear HA
   simp only [sum_Lay.j0] at H
   by_cases c10 : x34_4 = true
   ·
    subst c10
    have H1 : (some (0, 0, ([] : List Int), ([] : List Int), ([] : List (S101)), ([] : List (S79)), ([] : List Int), false, 19)) = some (r1, r2, r3, r4, r5, r6, r7, r8, r9) := by rw [if_pos rfl] at H; exact H
    clear H
    have H := H1
    clear H1
    simp only [Option.some.injEq, Prod.mk.injEq] at H
    obtain ⟨rfl, rfl, rfl, rfl, rfl, rfl, rfl, rfl, rfl⟩ := H
    have hcz11_0 : wc.cell? ⟨gb136, 0, none⟩ = some (.int .i64 0) := (blk_cell BK136.out 0).trans rfl
    have hcz11_1 : wc.cell? ⟨gb136, 1, none⟩ = some (.int .i64 0) := (blk_cell BK136.out 1).trans rfl
    have hcz11_2 : wc.cell? ⟨gb136, 2, none⟩ = some (.slice none 0 0) := (blk_cell BK136.out 2).trans rfl
    have hcz11_3 : wc.cell? ⟨gb136, 3, none⟩ = some (.slice none 0 0) := (blk_cell BK136.out 3).trans rfl
    have hcz11_4 : wc.cell? ⟨gb136, 4, none⟩ = some (.slice none 0 0) := (blk_cell BK136.out 4).trans rfl
    have hcz11_5 : wc.cell? ⟨gb136, 5, none⟩ = some (.slice none 0 0) := (blk_cell BK136.out 5).trans rfl
    have hcz11_6 : wc.cell? ⟨gb136, 6, none⟩ = some (.slice none 0 0) := (blk_cell BK136.out 6).trans rfl
    have hcz11_7 : wc.cell? ⟨gb136, 7, none⟩ = some (.bool false) := (blk_cell BK136.out 7).trans rfl
    have hfz11_0 := blk_frozen BK136.out 0
    have hfz11_1 := blk_frozen BK136.out 1
    have hfz11_2 := blk_frozen BK136.out 2
    have hfz11_3 := blk_frozen BK136.out 3
    have hfz11_4 := blk_frozen BK136.out 4
    have hfz11_5 := blk_frozen BK136.out 5
    have hfz11_6 := blk_frozen BK136.out 6
    have hfz11_7 := blk_frozen BK136.out 7
    go_wp2
    refine bodyPost_ret (results_ct rfl _ _ gb136 31 #[.int .i64 0, .int .i64 0, .slice none 0 0, .slice none 0 0, .slice none 0 0, .slice none 0 0, .slice none 0 0, .bool false] (0, 0) _ rfl (by (with_reducible repeat (first | refine blk_drewN ?_ _ | refine blk_drew ?_ | refine blk_alloc ?_ _)); refine blk_put (cs := #[.int .i64 0, .int .i64 0, .slice none 0 0, .slice none 0 0, .slice none 0 0, .slice none 0 0, .slice none 0 0, .bool false]) ?_ 7 _ rfl; (with_reducible repeat (first | refine blk_drewN ?_ _ | refine blk_drew ?_ | refine blk_alloc ?_ _)); refine blk_put (cs := #[.int .i64 0, .int .i64 0, .slice none 0 0, .slice none 0 0, .slice none 0 0, .slice none 0 0, .slice none 0 0, .bool false]) ?_ 6 _ rfl; (with_reducible repeat (first | refine blk_drewN ?_ _ | refine blk_drew ?_ | refine blk_alloc ?_ _)); refine blk_put (cs := #[.int .i64 0, .int .i64 0, .slice none 0 0, .slice none 0 0, .slice none 0 0, .slice none 0 0, .slice none 0 0, .bool false]) ?_ 5 _ rfl; (with_reducible repeat (first | refine blk_drewN ?_ _ | refine blk_drew ?_ | refine blk_alloc ?_ _)); refine blk_put (cs := #[.int .i64 0, .int .i64 0, .slice none 0 0, .slice none 0 0, .slice none 0 0, .slice none 0 0, .slice none 0 0, .bool false]) ?_ 4 _ rfl; (with_reducible repeat (first | refine blk_drewN ?_ _ | refine blk_drew ?_ | refine blk_alloc ?_ _)); refine blk_put (cs := #[.int .i64 0, .int .i64 0, .slice none 0 0, .slice none 0 0, .slice none 0 0, .slice none 0 0, .slice none 0 0, .bool false]) ?_ 3 _ rfl; (with_reducible repeat (first | refine blk_drewN ?_ _ | refine blk_drew ?_ | refine blk_alloc ?_ _)); refine blk_put (cs := #[.int .i64 0, .int .i64 0, .slice none 0 0, .slice none 0 0, .slice none 0 0, .slice none 0 0, .slice none 0 0, .bool false]) ?_ 2 _ rfl; (with_reducible repeat (first | refine blk_drewN ?_ _ | refine blk_drew ?_ | refine blk_alloc ?_ _)); refine blk_put (cs := #[.int .i64 0, .int .i64 0, .slice none 0 0, .slice none 0 0, .slice none 0 0, .slice none 0 0, .slice none 0 0, .bool false]) ?_ 1 _ rfl; (with_reducible repeat (first | refine blk_drewN ?_ _ | refine blk_drew ?_ | refine blk_alloc ?_ _)); refine blk_put (cs := #[.int .i64 0, .int .i64 0, .slice none 0 0, .slice none 0 0, .slice none 0 0, .slice none 0 0, .slice none 0 0, .bool false]) ?_ 0 _ rfl; (with_reducible repeat (first | refine blk_drewN ?_ _ | refine blk_drew ?_ | refine blk_alloc ?_ _)); exact BK136.out) Try.underlying31 rfl (by kernel_rfl)) rfl ?_
    exact ⟨_, _, _, _, _, by first | rfl | (simp [errW_none, errW_some] <;> rfl) | (simp [*, errW_none, errW_some] <;> rfl), by first | exact Kd.R_nil _ _ _ _ _ | exact Kd.N_nil _ _ _ _ _ | exact Kd.V_nil _ _ _ _ _ | exact Kd.Q_nil _ _ _ _ _ | exact Kd.S_nil _ _ _ _ _, by first | exact Kd.R_nil _ _ _ _ _ | exact Kd.N_nil _ _ _ _ _ | exact Kd.V_nil _ _ _ _ _ | exact Kd.Q_nil _ _ _ _ _ | exact Kd.S_nil _ _ _ _ _, by first | exact Kd.R_nil _ _ _ _ _ | exact Kd.N_nil _ _ _ _ _ | exact Kd.V_nil _ _ _ _ _ | exact Kd.Q_nil _ _ _ _ _ | exact Kd.S_nil _ _ _ _ _, by first | exact Kd.R_nil _ _ _ _ _ | exact Kd.N_nil _ _ _ _ _ | exact Kd.V_nil _ _ _ _ _ | exact Kd.Q_nil _ _ _ _ _ | exact Kd.S_nil _ _ _ _ _, by first | exact Kd.R_nil _ _ _ _ _ | exact Kd.N_nil _ _ _ _ _ | exact Kd.V_nil _ _ _ _ _ | exact Kd.Q_nil _ _ _ _ _ | exact Kd.S_nil _ _ _ _ _, by repeat (first | (with_reducible first | exact HB.out | apply below_alloc | apply pw_below_drewN | apply below_drew1 | refine below_set ?_ GE136.out) | exact HB.out)⟩
   ·
    replace c10 := Bool.eq_false_iff.mpr c10
    subst c10
    have H1 : (if (l1.length : Int) > 12 then (some (0, 0, ([] : List Int), ([] : List Int), ([] : List (S101)), ([] : List (S79)), ([] : List Int), false, 4)) else (sum_Lay.l0 kj4 l1 l2 ([] : List (S31)) l0 (l0.length : Int) 0 0 1 ([] : List (S79)) false)) = some (r1, r2, r3, r4, r5, r6, r7, r8, r9) := by rw [if_neg (show ¬ (false = true) by decide)] at H; exact H
    clear H
    have H := H1
    clear H1
    by_cases c12 : (l1.length : Int) > 12
    ·
     rw [if_pos c12] at H
     have c12b0 : decide (12 < (l1.length : Int)) = true := decide_eq_true c12
     have c12b1 : decide (12 < l1.length) = true := decide_eq_true (by omega)
     clear c12
     simp only [Option.some.injEq, Prod.mk.injEq] at H
     obtain ⟨rfl, rfl, rfl, rfl, rfl, rfl, rfl, rfl, rfl⟩ := H
     have hcz13_0 : wc.cell? ⟨gb136, 0, none⟩ = some (.int .i64 0) := (blk_cell BK136.out 0).trans rfl
     have hcz13_1 : wc.cell? ⟨gb136, 1, none⟩ = some (.int .i64 0) := (blk_cell BK136.out 1).trans rfl
     have hcz13_2 : wc.cell? ⟨gb136, 2, none⟩ = some (.slice none 0 0) := (blk_cell BK136.out 2).trans rfl
     have hcz13_3 : wc.cell? ⟨gb136, 3, none⟩ = some (.slice none 0 0) := (blk_cell BK136.out 3).trans rfl
     have hcz13_4 : wc.cell? ⟨gb136, 4, none⟩ = some (.slice none 0 0) := (blk_cell BK136.out 4).trans rfl
     have hcz13_5 : wc.cell? ⟨gb136, 5, none⟩ = some (.slice none 0 0) := (blk_cell BK136.out 5).trans rfl
     have hcz13_6 : wc.cell? ⟨gb136, 6, none⟩ = some (.slice none 0 0) := (blk_cell BK136.out 6).trans rfl
     have hcz13_7 : wc.cell? ⟨gb136, 7, none⟩ = some (.bool false) := (blk_cell BK136.out 7).trans rfl
     have hfz13_0 := blk_frozen BK136.out 0
     have hfz13_1 := blk_frozen BK136.out 1
     have hfz13_2 := blk_frozen BK136.out 2
     have hfz13_3 := blk_frozen BK136.out 3
     have hfz13_4 := blk_frozen BK136.out 4
     have hfz13_5 := blk_frozen BK136.out 5
     have hfz13_6 := blk_frozen BK136.out 6
     have hfz13_7 := blk_frozen BK136.out 7
     go_wp2
     refine bodyPost_ret (results_ct rfl _ _ gb136 31 #[.int .i64 0, .int .i64 0, .slice none 0 0, .slice none 0 0, .slice none 0 0, .slice none 0 0, .slice none 0 0, .bool false] (0, 0) _ rfl (by (with_reducible repeat (first | refine blk_drewN ?_ _ | refine blk_drew ?_ | refine blk_alloc ?_ _)); refine blk_put (cs := #[.int .i64 0, .int .i64 0, .slice none 0 0, .slice none 0 0, .slice none 0 0, .slice none 0 0, .slice none 0 0, .bool false]) ?_ 7 _ rfl; (with_reducible repeat (first | refine blk_drewN ?_ _ | refine blk_drew ?_ | refine blk_alloc ?_ _)); refine blk_put (cs := #[.int .i64 0, .int .i64 0, .slice none 0 0, .slice none 0 0, .slice none 0 0, .slice none 0 0, .slice none 0 0, .bool false]) ?_ 6 _ rfl; (with_reducible repeat (first | refine blk_drewN ?_ _ | refine blk_drew ?_ | refine blk_alloc ?_ _)); refine blk_put (cs := #[.int .i64 0, .int .i64 0, .slice none 0 0, .slice none 0 0, .slice none 0 0, .slice none 0 0, .slice none 0 0, .bool false]) ?_ 5 _ rfl; (with_reducible repeat (first | refine blk_drewN ?_ _ | refine blk_drew ?_ | refine blk_alloc ?_ _)); refine blk_put (cs := #[.int .i64 0, .int .i64 0, .slice none 0 0, .slice none 0 0, .slice none 0 0, .slice none 0 0, .slice none 0 0, .bool false]) ?_ 4 _ rfl; (with_reducible repeat (first | refine blk_drewN ?_ _ | refine blk_drew ?_ | refine blk_alloc ?_ _)); refine blk_put (cs := #[.int .i64 0, .int .i64 0, .slice none 0 0, .slice none 0 0, .slice none 0 0, .slice none 0 0, .slice none 0 0, .bool false]) ?_ 3 _ rfl; (with_reducible repeat (first | refine blk_drewN ?_ _ | refine blk_drew ?_ | refine blk_alloc ?_ _)); refine blk_put (cs := #[.int .i64 0, .int .i64 0, .slice none 0 0, .slice none 0 0, .slice none 0 0, .slice none 0 0, .slice none 0 0, .bool false]) ?_ 2 _ rfl; (with_reducible repeat (first | refine blk_drewN ?_ _ | refine blk_drew ?_ | refine blk_alloc ?_ _)); refine blk_put (cs := #[.int .i64 0, .int .i64 0, .slice none 0 0, .slice none 0 0, .slice none 0 0, .slice none 0 0, .slice none 0 0, .bool false]) ?_ 1 _ rfl; (with_reducible repeat (first | refine blk_drewN ?_ _ | refine blk_drew ?_ | refine blk_alloc ?_ _)); refine blk_put (cs := #[.int .i64 0, .int .i64 0, .slice none 0 0, .slice none 0 0, .slice none 0 0, .slice none 0 0, .slice none 0 0, .bool false]) ?_ 0 _ rfl; (with_reducible repeat (first | refine blk_drewN ?_ _ | refine blk_drew ?_ | refine blk_alloc ?_ _)); exact BK136.out) Try.underlying31 rfl (by kernel_rfl)) rfl ?_
     exact ⟨_, _, _, _, _, by first | rfl | (simp [errW_none, errW_some] <;> rfl) | (simp [*, errW_none, errW_some] <;> rfl), by first | exact Kd.R_nil _ _ _ _ _ | exact Kd.N_nil _ _ _ _ _ | exact Kd.V_nil _ _ _ _ _ | exact Kd.Q_nil _ _ _ _ _ | exact Kd.S_nil _ _ _ _ _, by first | exact Kd.R_nil _ _ _ _ _ | exact Kd.N_nil _ _ _ _ _ | exact Kd.V_nil _ _ _ _ _ | exact Kd.Q_nil _ _ _ _ _ | exact Kd.S_nil _ _ _ _ _, by first | exact Kd.R_nil _ _ _ _ _ | exact Kd.N_nil _ _ _ _ _ | exact Kd.V_nil _ _ _ _ _ | exact Kd.Q_nil _ _ _ _ _ | exact Kd.S_nil _ _ _ _ _, by first | exact Kd.R_nil _ _ _ _ _ | exact Kd.N_nil _ _ _ _ _ | exact Kd.V_nil _ _ _ _ _ | exact Kd.Q_nil _ _ _ _ _ | exact Kd.S_nil _ _ _ _ _, by first | exact Kd.R_nil _ _ _ _ _ | exact Kd.N_nil _ _ _ _ _ | exact Kd.V_nil _ _ _ _ _ | exact Kd.Q_nil _ _ _ _ _ | exact Kd.S_nil _ _ _ _ _, by repeat (first | (with_reducible first | exact HB.out | apply below_alloc | apply pw_below_drewN | apply below_drew1 | refine below_set ?_ GE136.out) | exact HB.out)⟩
    ·
     rw [if_neg c12] at H
     have c12b0 : decide (12 < (l1.length : Int)) = false := decide_eq_false c12
     have c12b1 : decide (12 < l1.length) = false := decide_eq_false (by omega)
     clear c12
     have H' := Aside0.mk H
     clear H
     go_wp2_with (first | ((with_reducible refine gate_dst (N := 9) rfl ?_); (try (refine gate_guard (by rfl) ?_; dsimp only)); refine box_event ?hg (N := 9) ?hd (cs := #[.int .i64 0, .int .i64 0, .slice none 0 0, .slice none 0 0, .slice none 0 0, .slice none 0 0, .slice none 0 0, .bool false]) (t := 31) ?hr ?_; (case hd => rfl); (case hg => rfl); (case hr => first | (go_simp; done) | (go_simp; rfl)); intro gb138 hg w14 hbox hb; have n0_ := Aside0.mk (Kd.V_below (Kd.V_elderB (kV_ HO_0.out) gb138 (Nat.le_of_eq hg.symm)) hb); have n1_ := Aside0.mk (blk_below (g := gb136) (o := .cells #[.int .i64 0, .int .i64 0, .slice none 0 0, .slice none 0 0, .slice none 0 0, .slice none 0 0, .slice none 0 0, .bool false] 31 (0, 0)) (bk_ BK136.out) hb); have n2_ := Aside0.mk (below_step (hb1_ HB.out GE136.out) hb); have n3_ := Aside0.mk (hbox); have n4_ := Aside0.mk ((by rw [hg]; exact (below_size (hb1_ HB.out GE136.out)) : w.heap.size ≤ gb138)); have n5_ := Aside0.mk ((by rw [hg]; exact (below_size (hb1_ HB.out GE136.out)) : w.heap.size ≤ gb138)); have n6_ := Aside0.mk ((by rw [hg]; exact Nat.ne_of_lt (blk_lt (g := gb136) (o := .cells #[.int .i64 0, .int .i64 0, .slice none 0 0, .slice none 0 0, .slice none 0 0, .slice none 0 0, .slice none 0 0, .bool false] 31 (0, 0)) (bk_ BK136.out)) : gb136 ≠ gb138)); have n7_ := Aside0.mk ((by rw [hg]; exact Nat.ne_of_gt (blk_lt (g := gb136) (o := .cells #[.int .i64 0, .int .i64 0, .slice none 0 0, .slice none 0 0, .slice none 0 0, .slice none 0 0, .slice none 0 0, .bool false] 31 (0, 0)) (bk_ BK136.out)) : gb138 ≠ gb136)); clear HO_0 BK136 HB; have HO_0 := n0_; have BK136 := n1_; have HB := n2_; have BK138 := n3_; have GW138 := n4_; have GE138 := n5_; have NB136_138 := n6_; have NB138_136 := n7_; clear n0_ n1_ n2_ n3_ n4_ n5_ n6_ n7_ hb hbox hg; have hnb15 := NB138_136.out; have hnc15 := NB136_138.out; have hcz16_0 : w14.cell? ⟨gb138, 0, none⟩ = some (.int .i64 0) := (blk_cell BK138.out 0).trans rfl; have hcz16_1 : w14.cell? ⟨gb138, 1, none⟩ = some (.int .i64 0) := (blk_cell BK138.out 1).trans rfl; have hcz16_2 : w14.cell? ⟨gb138, 2, none⟩ = some (.slice none 0 0) := (blk_cell BK138.out 2).trans rfl; have hcz16_3 : w14.cell? ⟨gb138, 3, none⟩ = some (.slice none 0 0) := (blk_cell BK138.out 3).trans rfl; have hcz16_4 : w14.cell? ⟨gb138, 4, none⟩ = some (.slice none 0 0) := (blk_cell BK138.out 4).trans rfl; have hcz16_5 : w14.cell? ⟨gb138, 5, none⟩ = some (.slice none 0 0) := (blk_cell BK138.out 5).trans rfl; have hcz16_6 : w14.cell? ⟨gb138, 6, none⟩ = some (.slice none 0 0) := (blk_cell BK138.out 6).trans rfl; have hcz16_7 : w14.cell? ⟨gb138, 7, none⟩ = some (.bool false) := (blk_cell BK138.out 7).trans rfl; have hfz16_0 := blk_frozen BK138.out 0; have hfz16_1 := blk_frozen BK138.out 1; have hfz16_2 := blk_frozen BK138.out 2; have hfz16_3 := blk_frozen BK138.out 3; have hfz16_4 := blk_frozen BK138.out 4; have hfz16_5 := blk_frozen BK138.out 5; have hfz16_6 := blk_frozen BK138.out 6; have hfz16_7 := blk_frozen BK138.out 7))
     go_loopg [10, 43] kj4 (fun kq v10 v43 w' => ∃ (x10_2 : List (S31)) (x43_2 : Int) (x139000_2 : Int) (x139001_2 : Int) (x139005_2 : List (S79)) (u139005 : Value), v43 = .int .i64 x43_2 ∧ Aside0 (sum_Lay.l0 kq l1 l2 x10_2 l0 (l0.length : Int) x43_2 x139000_2 x139001_2 x139005_2 false = some (r1, r2, r3, r4, r5, r6, r7, r8, r9)) ∧ Aside0 (kq ≤ kj4) ∧ Aside0 (Kd.N k31 31 w' w.heap.size (fun k_ => (P0_ k_ ∨ w.heap.size ≤ k_) ∧ some k_ ≠ (u139005 : Value).ownBlock ∧ k_ ≠ gb136 ∧ k_ ≠ gb138) v10 x10_2) ∧ Aside0 (Kd.V k31 31 w' w.heap.size (fun k_ => (P0_ k_ ∨ w.heap.size ≤ k_) ∧ some k_ ≠ (v10 : Value).ownBlock ∧ some k_ ≠ (u139005 : Value).ownBlock ∧ k_ ≠ gb136 ∧ k_ ≠ gb138) (.slice A0 l0.length c0) l0) ∧ Aside0 (Kd.N k79 79 w' w.heap.size (fun k_ => (P0_ k_ ∨ w.heap.size ≤ k_) ∧ some k_ ≠ (v10 : Value).ownBlock ∧ k_ ≠ gb136 ∧ k_ ≠ gb138) u139005 x139005_2) ∧ Aside0 (w'.heap[gb136]? = some (.cells #[.int .i64 0, .int .i64 0, (.slice none 0 0), (.slice none 0 0), (.slice none 0 0), (.slice none 0 0), (.slice none 0 0), .bool false] 31 (0, 0))) ∧ Aside0 (w'.heap[gb138]? = some (.cells #[.int .i64 x139000_2, .int .i64 x139001_2, (.slice none 0 0), (.slice none 0 0), (.slice none 0 0), u139005, (.slice none 0 0), .bool false] 31 (0, 0))) ∧ Aside0 (Below w.heap.size w w'))
     case atStart => exact ⟨(([] : List (S31))), (0), (0), (1), (([] : List (S79))), (.slice none 0 0), (by first | rfl | (simp; done) | (simp [*]; done)), H', ⟨Nat.le_refl _⟩, ⟨by first | exact Kd.R_nil _ _ _ _ _ | exact Kd.N_nil _ _ _ _ _ | exact Kd.V_nil _ _ _ _ _ | exact Kd.Q_nil _ _ _ _ _ | exact Kd.S_nil _ _ _ _ _⟩, ⟨by (with_reducible repeat (first | apply Kd.V_alloc | apply Kd.V_drewN | apply Kd.V_drew)); exact Kd.V_mono (Kd.V_far (p := ⟨gb138, 7, none⟩) (Kd.V_far (p := ⟨gb138, 6, none⟩) (Kd.V_far (p := ⟨gb138, 5, none⟩) (Kd.V_far (p := ⟨gb138, 4, none⟩) (Kd.V_far (p := ⟨gb138, 3, none⟩) (Kd.V_far (p := ⟨gb138, 2, none⟩) (Kd.V_far (p := ⟨gb138, 1, none⟩) (Kd.V_far (p := ⟨gb138, 0, none⟩) (Kd.V_mono HO_0.out (fun k_ hk => (⟨hk, hk.2⟩ : _ ∧ k_ ≠ gb138))) (fun _ hk => hk.2) (.int .i64 0)) (fun _ hk => hk.2) (.int .i64 1)) (fun _ hk => hk.2) (.slice none 0 0)) (fun _ hk => hk.2) (.slice none 0 0)) (fun _ hk => hk.2) (.slice none 0 0)) (fun _ hk => hk.2) (.slice none 0 0)) (fun _ hk => hk.2) (.slice none 0 0)) (fun _ hk => hk.2) (.bool false)) (fun _ hk => ⟨hk.1.1.1, ⟨(by simp [Value.ownBlock]), ⟨(by simp [Value.ownBlock]), ⟨hk.1.1.2, hk.1.2⟩⟩⟩⟩)⟩, ⟨by first | exact Kd.R_nil _ _ _ _ _ | exact Kd.N_nil _ _ _ _ _ | exact Kd.V_nil _ _ _ _ _ | exact Kd.Q_nil _ _ _ _ _ | exact Kd.S_nil _ _ _ _ _⟩, ⟨by (with_reducible repeat (first | refine blk_drewN ?_ _ | refine blk_drew ?_ | refine blk_alloc ?_ _)); refine blk_far ?_ NB136_138.out _; (with_reducible repeat (first | refine blk_drewN ?_ _ | refine blk_drew ?_ | refine blk_alloc ?_ _)); refine blk_far ?_ NB136_138.out _; (with_reducible repeat (first | refine blk_drewN ?_ _ | refine blk_drew ?_ | refine blk_alloc ?_ _)); refine blk_far ?_ NB136_138.out _; (with_reducible repeat (first | refine blk_drewN ?_ _ | refine blk_drew ?_ | refine blk_alloc ?_ _)); refine blk_far ?_ NB136_138.out _; (with_reducible repeat (first | refine blk_drewN ?_ _ | refine blk_drew ?_ | refine blk_alloc ?_ _)); refine blk_far ?_ NB136_138.out _; (with_reducible repeat (first | refine blk_drewN ?_ _ | refine blk_drew ?_ | refine blk_alloc ?_ _)); refine blk_far ?_ NB136_138.out _; (with_reducible repeat (first | refine blk_drewN ?_ _ | refine blk_drew ?_ | refine blk_alloc ?_ _)); refine blk_far ?_ NB136_138.out _; (with_reducible repeat (first | refine blk_drewN ?_ _ | refine blk_drew ?_ | refine blk_alloc ?_ _)); refine blk_far ?_ NB136_138.out _; (with_reducible repeat (first | refine blk_drewN ?_ _ | refine blk_drew ?_ | refine blk_alloc ?_ _)); exact BK136.out⟩, ⟨by (with_reducible repeat (first | refine blk_drewN ?_ _ | refine blk_drew ?_ | refine blk_alloc ?_ _)); refine blk_put (cs := #[.int .i64 0, .int .i64 1, .slice none 0 0, .slice none 0 0, .slice none 0 0, .slice none 0 0, .slice none 0 0, .bool false]) ?_ 7 _ rfl; (with_reducible repeat (first | refine blk_drewN ?_ _ | refine blk_drew ?_ | refine blk_alloc ?_ _)); refine blk_put (cs := #[.int .i64 0, .int .i64 1, .slice none 0 0, .slice none 0 0, .slice none 0 0, .slice none 0 0, .slice none 0 0, .bool false]) ?_ 6 _ rfl; (with_reducible repeat (first | refine blk_drewN ?_ _ | refine blk_drew ?_ | refine blk_alloc ?_ _)); refine blk_put (cs := #[.int .i64 0, .int .i64 1, .slice none 0 0, .slice none 0 0, .slice none 0 0, .slice none 0 0, .slice none 0 0, .bool false]) ?_ 5 _ rfl; (with_reducible repeat (first | refine blk_drewN ?_ _ | refine blk_drew ?_ | refine blk_alloc ?_ _)); refine blk_put (cs := #[.int .i64 0, .int .i64 1, .slice none 0 0, .slice none 0 0, .slice none 0 0, .slice none 0 0, .slice none 0 0, .bool false]) ?_ 4 _ rfl; (with_reducible repeat (first | refine blk_drewN ?_ _ | refine blk_drew ?_ | refine blk_alloc ?_ _)); refine blk_put (cs := #[.int .i64 0, .int .i64 1, .slice none 0 0, .slice none 0 0, .slice none 0 0, .slice none 0 0, .slice none 0 0, .bool false]) ?_ 3 _ rfl; (with_reducible repeat (first | refine blk_drewN ?_ _ | refine blk_drew ?_ | refine blk_alloc ?_ _)); refine blk_put (cs := #[.int .i64 0, .int .i64 1, .slice none 0 0, .slice none 0 0, .slice none 0 0, .slice none 0 0, .slice none 0 0, .bool false]) ?_ 2 _ rfl; (with_reducible repeat (first | refine blk_drewN ?_ _ | refine blk_drew ?_ | refine blk_alloc ?_ _)); refine blk_put (cs := #[.int .i64 0, .int .i64 0, .slice none 0 0, .slice none 0 0, .slice none 0 0, .slice none 0 0, .slice none 0 0, .bool false]) ?_ 1 _ rfl; (with_reducible repeat (first | refine blk_drewN ?_ _ | refine blk_drew ?_ | refine blk_alloc ?_ _)); refine blk_put (cs := #[.int .i64 0, .int .i64 0, .slice none 0 0, .slice none 0 0, .slice none 0 0, .slice none 0 0, .slice none 0 0, .bool false]) ?_ 0 _ rfl; (with_reducible repeat (first | refine blk_drewN ?_ _ | refine blk_drew ?_ | refine blk_alloc ?_ _)); exact BK138.out⟩, ⟨by repeat (first | (with_reducible first | exact HB.out | apply below_alloc | apply pw_below_drewN | apply below_drew1 | refine below_set ?_ GE136.out | refine below_set ?_ GE138.out) | exact HB.out)⟩⟩
     case round =>
      clear H'
      try clear c1
      try clear c2
      try clear p2
      try clear c3
      try clear c7
      try clear c8
      try clear c8b0
      try clear c8b1
      try clear c8b2
      try clear c9
      try clear c9b0
      try clear c9b1
      try clear c9b2
      try clear c10
      try clear c12
      try clear c12b0
      try clear c12b1
      try clear c15
      try clear hcz11_0
      try clear hcz11_1
      try clear hcz11_2
      try clear hcz11_3
      try clear hcz11_4
      try clear hcz11_5
      try clear hcz11_6
      try clear hcz11_7
      try clear hcz13_0
      try clear hcz13_1
      try clear hcz13_2
      try clear hcz13_3
      try clear hcz13_4
      try clear hcz13_5
      try clear hcz13_6
      try clear hcz13_7
      try clear hcz16_0
      try clear hcz16_1
      try clear hcz16_2
      try clear hcz16_3
      try clear hcz16_4
      try clear hcz16_5
      try clear hcz16_6
      try clear hcz16_7
      try clear hfz11_0
      try clear hfz11_1
      try clear hfz11_2
      try clear hfz11_3
      try clear hfz11_4
      try clear hfz11_5
      try clear hfz11_6
      try clear hfz11_7
      try clear hfz13_0
      try clear hfz13_1
      try clear hfz13_2
      try clear hfz13_3
      try clear hfz13_4
      try clear hfz13_5
      try clear hfz13_6
      try clear hfz13_7
      try clear hfz16_0
      try clear hfz16_1
      try clear hfz16_2
      try clear hfz16_3
      try clear hfz16_4
      try clear hfz16_5
      try clear hfz16_6
      try clear hfz16_7
      try clear p2
      obtain ⟨x10_2, x43_2, x139000_2, x139001_2, x139005_2, u139005, rfl, HA, HK2, HO_10, HO_41, HO_139005, BK136, BK138, HB⟩ := hrel
      cases gk with
      | zero => exact absurd HA.out (by simp [sum_Lay.l0])
      | succ k2 =>
       have H := HA.out
       clear HA
       simp only [sum_Lay.l0] at H
       by_cases c17 : x43_2 < (l0.length : Int)
       ·
        rw [if_pos c17] at H
        have c17b0 : decide (x43_2 < (l0.length : Int)) = true := decide_eq_true c17
        clear c17
        by_cases c18 : 0 ≤ x43_2
        rotate_left
        ·
         rw [if_neg c18] at H
         exact absurd H (by simp)
        rw [if_pos c18] at H
        have c18b0 : decide (0 ≤ x43_2) = true := decide_eq_true c18
        clear c18
        by_cases c19 : x43_2 < (l0.length : Int)
        rotate_left
        ·
         rw [if_neg c19] at H
         exact absurd H (by simp)
        rw [if_pos c19] at H
        have c19b0 : decide (x43_2 < (l0.length : Int)) = true := decide_eq_true c19
        clear c19
        by_cases c20 : x43_2 < (l1.length : Int)
        rotate_left
        ·
         rw [if_neg c20] at H
         exact absurd H (by simp)
        rw [if_pos c20] at H
        have c20b0 : decide (x43_2 < (l1.length : Int)) = true := decide_eq_true c20
        clear c20
        by_cases c21 : x43_2 < (l2.length : Int)
        rotate_left
        ·
         rw [if_neg c21] at H
         exact absurd H (by simp)
        rw [if_pos c21] at H
        have c21b0 : decide (x43_2 < (l2.length : Int)) = true := decide_eq_true c21
        clear c21
        replace H := Option.bind_eq_some_iff.mp H
        obtain ⟨t143, A220, H⟩ := H
        try dsimp only at H
        have A22 := Aside0.mk A220
        clear A220
        by_cases c23 : x139005_2.length < 1759218604441
        rotate_left
        ·
         rw [if_neg c23] at H
         exact absurd H (by simp)
        rw [if_pos c23] at H
        have LMc23 := Aside0.mk c23
        clear c23
        obtain ⟨y146, hy146⟩ : ∃ y_ : List (S79), y_ = (x139005_2 ++ [(⟨rdOf ByteArray.empty l1 x43_2, rdOf false l2 x43_2, t143, ([] : List (S101)), (rd_T31 l0 x43_2).f0⟩ : S79)]) := ⟨_, rfl⟩
        replace H : (if rdOf false l2 x43_2 = true then ((sum_Pointer.f).bind fun bt150 => (if x10_2.length < 977343669134 then (sum_Lay.l0 k2 l1 l2 (x10_2 ++ [(⟨bt150.1, bt150.2.1, bt150.2.2.1, bt150.2.2.2.1, bt150.2.2.2.2.1, bt150.2.2.2.2.2.1, bt150.2.2.2.2.2.2.1, bt150.2.2.2.2.2.2.2⟩ : S31)]) l0 (l0.length : Int) (wrap64 (x43_2 + 1)) (mx x139000_2 bt150.1) (mx x139001_2 bt150.2.1) y146 false) else (none))) else (if x10_2.length < 977343669134 then (sum_Lay.l0 k2 l1 l2 (x10_2 ++ [(⟨(rd_T31 l0 x43_2).f0, (rd_T31 l0 x43_2).f1, (rd_T31 l0 x43_2).f2, (rd_T31 l0 x43_2).f3, (rd_T31 l0 x43_2).f4, (rd_T31 l0 x43_2).f5, (rd_T31 l0 x43_2).f6, (rd_T31 l0 x43_2).f7⟩ : S31)]) l0 (l0.length : Int) (wrap64 (x43_2 + 1)) (mx x139000_2 ((rd_T31 l0 x43_2).f0)) (mx x139001_2 ((rd_T31 l0 x43_2).f1)) y146 false) else (none))) = some (r1, r2, r3, r4, r5, r6, r7, r8, r9) := by first | (rw [hy146]; with_reducible exact H) | (have H2_ := (Option.bind_some _ _).symm.trans H; rw [hy146]; with_reducible exact H2_) | (have H2_ := (Option.bind_some _ _).symm.trans H; with_reducible exact H2_) | with_reducible exact H | (rw [hy146]; exact H) | exact H
        have Ny146 := Aside0.mk hy146
        clear hy146
        obtain ⟨bq24, hbq24⟩ : ∃ b_ : Bool, b_ = (rdOf false l2 x43_2) := ⟨_, rfl⟩
        replace H : (if bq24 = true then ((sum_Pointer.f).bind fun bt150 => (if x10_2.length < 977343669134 then (sum_Lay.l0 k2 l1 l2 (x10_2 ++ [(⟨bt150.1, bt150.2.1, bt150.2.2.1, bt150.2.2.2.1, bt150.2.2.2.2.1, bt150.2.2.2.2.2.1, bt150.2.2.2.2.2.2.1, bt150.2.2.2.2.2.2.2⟩ : S31)]) l0 (l0.length : Int) (wrap64 (x43_2 + 1)) (mx x139000_2 bt150.1) (mx x139001_2 bt150.2.1) y146 false) else (none))) else (if x10_2.length < 977343669134 then (sum_Lay.l0 k2 l1 l2 (x10_2 ++ [(⟨(rd_T31 l0 x43_2).f0, (rd_T31 l0 x43_2).f1, (rd_T31 l0 x43_2).f2, (rd_T31 l0 x43_2).f3, (rd_T31 l0 x43_2).f4, (rd_T31 l0 x43_2).f5, (rd_T31 l0 x43_2).f6, (rd_T31 l0 x43_2).f7⟩ : S31)]) l0 (l0.length : Int) (wrap64 (x43_2 + 1)) (mx x139000_2 ((rd_T31 l0 x43_2).f0)) (mx x139001_2 ((rd_T31 l0 x43_2).f1)) y146 false) else (none))) = some (r1, r2, r3, r4, r5, r6, r7, r8, r9) := by rw [← hbq24] at H; exact H
        have Nbq24 := Aside0.mk hbq24
        clear hbq24
        (try rw [← Nbq24.out] at Ny146)
        have p139 : 0 ≤ (x43_2 : Int) := od_
        have q139 : x43_2 < (l0.length : Int) := od_
        obtain ⟨ad139, A139_2, c139_2, A139_3, c139_3, A139_4, c139_4, A139_5, c139_5, A139_6, c139_6, e139, hx139_0, hx139_1, hx139_2, hx139_3, hx139_4, hx139_5, hx139_6, hx139_7, hl139_2, hi139_2, hl139_3, hi139_3, hl139_4, hi139_4, hl139_5, hi139_5, hl139_6, hi139_6⟩ := at_T31 (Kd.V_reads' HO_41.out).2.2 x43_2 p139 q139
        (try rw [← Nbq24.out] at hx139_7)
        cases e139
        obtain ⟨ce139, hce139, hMe139, hcc139⟩ := Kd.V_get HO_41.out z31 x43_2 p139 (by first | exact q139 | exact od_ | (have e_ := (Kd.V_reads' HO_41.out).1; omega))
        obtain ⟨ua139_2, uc139_2, ua139_3, uc139_3, ua139_4, uc139_4, ua139_5, uc139_5, ua139_6, uc139_6, rfl, ul139_2, ge139_2, ul139_3, ge139_3, ul139_4, ge139_4, ul139_5, ge139_5, ul139_6, ge139_6⟩ := k31_openF hMe139
        have hv139_2 := hcc139 2 _ rfl
        rw [add_field _ _ 2 (by omega)] at hv139_2
        replace hv139_2 := Option.some.inj (hv139_2.symm.trans hx139_2)
        injection hv139_2 with hva_ hvn_ hvc_
        rw [hva_] at ge139_2
        rw [hvc_] at ul139_2
        have HL139_2 := Aside0.mk (show Kd.V (Kd.int .u8) 5 _ w.heap.size _ _ ((rd_T31 l0 x43_2).f2) from Kd.V_mk ul139_2 ge139_2)
        clear hva_ hvn_ hvc_ ge139_2 ul139_2
        have hv139_3 := hcc139 3 _ rfl
        rw [add_field _ _ 3 (by omega)] at hv139_3
        replace hv139_3 := Option.some.inj (hv139_3.symm.trans hx139_3)
        injection hv139_3 with hva_ hvn_ hvc_
        rw [hva_] at ge139_3
        rw [hvc_] at ul139_3
        have HL139_3 := Aside0.mk (show Kd.V (Kd.int .i64) 3 _ w.heap.size _ _ ((rd_T31 l0 x43_2).f3) from Kd.V_mk ul139_3 ge139_3)
        clear hva_ hvn_ hvc_ ge139_3 ul139_3
        have hv139_4 := hcc139 4 _ rfl
        rw [add_field _ _ 4 (by omega)] at hv139_4
        replace hv139_4 := Option.some.inj (hv139_4.symm.trans hx139_4)
        injection hv139_4 with hva_ hvn_ hvc_
        rw [hva_] at ge139_4
        rw [hvc_] at ul139_4
        have HL139_4 := Aside0.mk (show Kd.V k101 101 _ w.heap.size _ _ ((rd_T31 l0 x43_2).f4) from Kd.V_mk ul139_4 ge139_4)
        clear hva_ hvn_ hvc_ ge139_4 ul139_4
        have hv139_5 := hcc139 5 _ rfl
        rw [add_field _ _ 5 (by omega)] at hv139_5
        replace hv139_5 := Option.some.inj (hv139_5.symm.trans hx139_5)
        injection hv139_5 with hva_ hvn_ hvc_
        rw [hva_] at ge139_5
        rw [hvc_] at ul139_5
        have HL139_5 := Aside0.mk (show Kd.V k79 79 _ w.heap.size _ _ ((rd_T31 l0 x43_2).f5) from Kd.V_mk ul139_5 ge139_5)
        clear hva_ hvn_ hvc_ ge139_5 ul139_5
        have hv139_6 := hcc139 6 _ rfl
        rw [add_field _ _ 6 (by omega)] at hv139_6
        replace hv139_6 := Option.some.inj (hv139_6.symm.trans hx139_6)
        injection hv139_6 with hva_ hvn_ hvc_
        rw [hva_] at ge139_6
        rw [hvc_] at ul139_6
        have HL139_6 := Aside0.mk (show Kd.V (Kd.int .i64) 3 _ w.heap.size _ _ ((rd_T31 l0 x43_2).f6) from Kd.V_mk ul139_6 ge139_6)
        clear hva_ hvn_ hvc_ ge139_6 ul139_6
        clear hcc139 hce139
        have HR139_2 := Aside0.mk hi139_2
        have HC139_2 := Aside0.mk hl139_2
        clear hi139_2 hl139_2
        have HR139_3 := Aside0.mk hi139_3
        have HC139_3 := Aside0.mk hl139_3
        clear hi139_3 hl139_3
        have HR139_4 := Aside0.mk hi139_4
        have HC139_4 := Aside0.mk hl139_4
        clear hi139_4 hl139_4
        have HR139_5 := Aside0.mk hi139_5
        have HC139_5 := Aside0.mk hl139_5
        clear hi139_5 hl139_5
        have HR139_6 := Aside0.mk hi139_6
        have HC139_6 := Aside0.mk hl139_6
        clear hi139_6 hl139_6
        replace p139 := eq_true p139
        replace q139 := eq_true q139
        try go_wp2_with (first | ((with_reducible refine gate_dst (N := 12) rfl ?_); (try (refine gate_guard (by rfl) ?_; dsimp only)); refine box_event ?hg (N := 12) ?hd (cs := #[.int .i64 0, .int .i64 0, .slice none 0 0, .slice none 0 0, .slice none 0 0, .slice none 0 0, .slice none 0 0, .bool false]) (t := 31) ?hr ?_; (case hd => rfl); (case hg => rfl); (case hr => first | (go_simp; done) | (go_simp; rfl)); intro gb140 hg w30 hbox hb; have n0_ := Aside0.mk (Kd.N_below (Kd.N_elderB (kN_ HO_10.out) gb140 (Nat.le_of_eq hg.symm)) hb); have n1_ := Aside0.mk (Kd.V_below (Kd.V_elderB (kV_ HO_41.out) gb140 (Nat.le_of_eq hg.symm)) hb); have n2_ := Aside0.mk (Kd.N_below (Kd.N_elderB (kN_ HO_139005.out) gb140 (Nat.le_of_eq hg.symm)) hb); have n3_ := Aside0.mk (Kd.V_below (Kd.V_elderB (kV_ HL139_2.out) gb140 (Nat.le_of_eq hg.symm)) hb); have n4_ := Aside0.mk (Kd.V_below (Kd.V_elderB (kV_ HL139_3.out) gb140 (Nat.le_of_eq hg.symm)) hb); have n5_ := Aside0.mk (Kd.V_below (Kd.V_elderB (kV_ HL139_4.out) gb140 (Nat.le_of_eq hg.symm)) hb); have n6_ := Aside0.mk (Kd.V_below (Kd.V_elderB (kV_ HL139_5.out) gb140 (Nat.le_of_eq hg.symm)) hb); have n7_ := Aside0.mk (Kd.V_below (Kd.V_elderB (kV_ HL139_6.out) gb140 (Nat.le_of_eq hg.symm)) hb); have n8_ := Aside0.mk (blk_below (g := gb136) (o := .cells #[.int .i64 0, .int .i64 0, .slice none 0 0, .slice none 0 0, .slice none 0 0, .slice none 0 0, .slice none 0 0, .bool false] 31 (0, 0)) (bk_ BK136.out) hb); have n9_ := Aside0.mk (blk_below (g := gb138) (o := .cells #[.int .i64 x139000_2, .int .i64 x139001_2, .slice none 0 0, .slice none 0 0, .slice none 0 0, u139005, .slice none 0 0, .bool false] 31 (0, 0)) (bk_ BK138.out) hb); have n10_ := Aside0.mk (Kd.C_below (kC_ HR139_2.out) hb); have n11_ := Aside0.mk (Kd.C_below (kC_ HR139_3.out) hb); have n12_ := Aside0.mk (Kd.C_below (kC_ HR139_4.out) hb); have n13_ := Aside0.mk (Kd.C_below (kC_ HR139_5.out) hb); have n14_ := Aside0.mk (Kd.C_below (kC_ HR139_6.out) hb); have n15_ := Aside0.mk (below_step (hb2_ HB.out GE136.out GE138.out) hb); have n16_ := Aside0.mk (hbox); have n17_ := Aside0.mk ((by rw [hg]; exact (below_size (hb2_ HB.out GE136.out GE138.out)) : w.heap.size ≤ gb140)); have n18_ := Aside0.mk ((by rw [hg]; exact (below_size (hb2_ HB.out GE136.out GE138.out)) : w.heap.size ≤ gb140)); have n19_ := Aside0.mk ((by rw [hg]; exact Nat.ne_of_lt (blk_lt (g := gb136) (o := .cells #[.int .i64 0, .int .i64 0, .slice none 0 0, .slice none 0 0, .slice none 0 0, .slice none 0 0, .slice none 0 0, .bool false] 31 (0, 0)) (bk_ BK136.out)) : gb136 ≠ gb140)); have n20_ := Aside0.mk ((by rw [hg]; exact Nat.ne_of_gt (blk_lt (g := gb136) (o := .cells #[.int .i64 0, .int .i64 0, .slice none 0 0, .slice none 0 0, .slice none 0 0, .slice none 0 0, .slice none 0 0, .bool false] 31 (0, 0)) (bk_ BK136.out)) : gb140 ≠ gb136)); have n21_ := Aside0.mk ((by rw [hg]; exact Nat.ne_of_lt (blk_lt (g := gb138) (o := .cells #[.int .i64 x139000_2, .int .i64 x139001_2, .slice none 0 0, .slice none 0 0, .slice none 0 0, u139005, .slice none 0 0, .bool false] 31 (0, 0)) (bk_ BK138.out)) : gb138 ≠ gb140)); have n22_ := Aside0.mk ((by rw [hg]; exact Nat.ne_of_gt (blk_lt (g := gb138) (o := .cells #[.int .i64 x139000_2, .int .i64 x139001_2, .slice none 0 0, .slice none 0 0, .slice none 0 0, u139005, .slice none 0 0, .bool false] 31 (0, 0)) (bk_ BK138.out)) : gb140 ≠ gb138)); clear HO_10 HO_41 HO_139005 HL139_2 HL139_3 HL139_4 HL139_5 HL139_6 BK136 BK138 HR139_2 HR139_3 HR139_4 HR139_5 HR139_6 HB; have HO_10 := n0_; have HO_41 := n1_; have HO_139005 := n2_; have HL139_2 := n3_; have HL139_3 := n4_; have HL139_4 := n5_; have HL139_5 := n6_; have HL139_6 := n7_; have BK136 := n8_; have BK138 := n9_; have HR139_2 := n10_; have HR139_3 := n11_; have HR139_4 := n12_; have HR139_5 := n13_; have HR139_6 := n14_; have HB := n15_; have BK140 := n16_; have GW140 := n17_; have GE140 := n18_; have NB136_140 := n19_; have NB140_136 := n20_; have NB138_140 := n21_; have NB140_138 := n22_; clear n0_ n1_ n2_ n3_ n4_ n5_ n6_ n7_ n8_ n9_ n10_ n11_ n12_ n13_ n14_ n15_ n16_ n17_ n18_ n19_ n20_ n21_ n22_ hb hbox hg; have hnb31 := NB140_136.out; have hnc31 := NB136_140.out; have hnb32 := NB140_138.out; have hnc32 := NB138_140.out; have hcz33_0 : w30.cell? ⟨gb140, 0, none⟩ = some (.int .i64 0) := (blk_cell BK140.out 0).trans rfl; have hcz33_1 : w30.cell? ⟨gb140, 1, none⟩ = some (.int .i64 0) := (blk_cell BK140.out 1).trans rfl; have hcz33_2 : w30.cell? ⟨gb140, 2, none⟩ = some (.slice none 0 0) := (blk_cell BK140.out 2).trans rfl; have hcz33_3 : w30.cell? ⟨gb140, 3, none⟩ = some (.slice none 0 0) := (blk_cell BK140.out 3).trans rfl; have hcz33_4 : w30.cell? ⟨gb140, 4, none⟩ = some (.slice none 0 0) := (blk_cell BK140.out 4).trans rfl; have hcz33_5 : w30.cell? ⟨gb140, 5, none⟩ = some (.slice none 0 0) := (blk_cell BK140.out 5).trans rfl; have hcz33_6 : w30.cell? ⟨gb140, 6, none⟩ = some (.slice none 0 0) := (blk_cell BK140.out 6).trans rfl; have hcz33_7 : w30.cell? ⟨gb140, 7, none⟩ = some (.bool false) := (blk_cell BK140.out 7).trans rfl; have hfz33_0 := blk_frozen BK140.out 0; have hfz33_1 := blk_frozen BK140.out 1; have hfz33_2 := blk_frozen BK140.out 2; have hfz33_3 := blk_frozen BK140.out 3; have hfz33_4 := blk_frozen BK140.out 4; have hfz33_5 := blk_frozen BK140.out 5; have hfz33_6 := blk_frozen BK140.out 6; have hfz33_7 := blk_frozen BK140.out 7))
        obtain ⟨w34, hW_⟩ : ∃ w_ : World, ((((((((w30.setCell ⟨gb140, 0, none⟩ (.int .i64 ((rd_T31 l0 x43_2).f0))).setCell ⟨gb140, 1, none⟩ (.int .i64 ((rd_T31 l0 x43_2).f1))).setCell ⟨gb140, 2, none⟩ (.slice A139_2 ((rd_T31 l0 x43_2).f2).length c139_2)).setCell ⟨gb140, 3, none⟩ (.slice A139_3 ((rd_T31 l0 x43_2).f3).length c139_3)).setCell ⟨gb140, 4, none⟩ (.slice A139_4 ((rd_T31 l0 x43_2).f4).length c139_4)).setCell ⟨gb140, 5, none⟩ (.slice A139_5 ((rd_T31 l0 x43_2).f5).length c139_5)).setCell ⟨gb140, 6, none⟩ (.slice A139_6 ((rd_T31 l0 x43_2).f6).length c139_6)).setCell ⟨gb140, 7, none⟩ (.bool ((rd_T31 l0 x43_2).f7))) = w_ := ⟨_, rfl⟩
        have n0_ : Aside0 (Kd.N k31 31 w34 w.heap.size (fun k_ => (P0_ k_ ∨ w.heap.size ≤ k_) ∧ some k_ ≠ (u139005 : Value).ownBlock ∧ k_ ≠ gb136 ∧ k_ ≠ gb138 ∧ k_ ≠ gb140) u10 x10_2) := ⟨by rw [← hW_]; exact by (with_reducible repeat (first | apply Kd.N_alloc | apply Kd.N_drewN | apply Kd.N_drew)); exact Kd.N_mono (Kd.N_far (p := ⟨gb140, 7, none⟩) (Kd.N_far (p := ⟨gb140, 6, none⟩) (Kd.N_far (p := ⟨gb140, 5, none⟩) (Kd.N_far (p := ⟨gb140, 4, none⟩) (Kd.N_far (p := ⟨gb140, 3, none⟩) (Kd.N_far (p := ⟨gb140, 2, none⟩) (Kd.N_far (p := ⟨gb140, 1, none⟩) (Kd.N_far (p := ⟨gb140, 0, none⟩) (Kd.N_mono HO_10.out (fun k_ hk => (⟨hk, hk.2⟩ : _ ∧ k_ ≠ gb140))) (fun _ hk => hk.2) (.int .i64 ((rd_T31 l0 x43_2).f0))) (fun _ hk => hk.2) (.int .i64 ((rd_T31 l0 x43_2).f1))) (fun _ hk => hk.2) (.slice A139_2 ((rd_T31 l0 x43_2).f2).length c139_2)) (fun _ hk => hk.2) (.slice A139_3 ((rd_T31 l0 x43_2).f3).length c139_3)) (fun _ hk => hk.2) (.slice A139_4 ((rd_T31 l0 x43_2).f4).length c139_4)) (fun _ hk => hk.2) (.slice A139_5 ((rd_T31 l0 x43_2).f5).length c139_5)) (fun _ hk => hk.2) (.slice A139_6 ((rd_T31 l0 x43_2).f6).length c139_6)) (fun _ hk => hk.2) (.bool ((rd_T31 l0 x43_2).f7))) (fun _ hk => ⟨hk.1.1.1, ⟨hk.1.1.2.1, ⟨hk.1.1.2.2.1, ⟨hk.1.1.2.2.2, hk.1.2⟩⟩⟩⟩)⟩
        have n1_ : Aside0 (Kd.V k31 31 w34 w.heap.size (fun k_ => (P0_ k_ ∨ w.heap.size ≤ k_) ∧ some k_ ≠ (u10 : Value).ownBlock ∧ some k_ ≠ (u139005 : Value).ownBlock ∧ k_ ≠ gb136 ∧ k_ ≠ gb138 ∧ k_ ≠ gb140) (.slice (some ad139) l0.length c0) l0) := ⟨by rw [← hW_]; exact by (with_reducible repeat (first | apply Kd.V_alloc | apply Kd.V_drewN | apply Kd.V_drew)); exact Kd.V_mono (Kd.V_far (p := ⟨gb140, 7, none⟩) (Kd.V_far (p := ⟨gb140, 6, none⟩) (Kd.V_far (p := ⟨gb140, 5, none⟩) (Kd.V_far (p := ⟨gb140, 4, none⟩) (Kd.V_far (p := ⟨gb140, 3, none⟩) (Kd.V_far (p := ⟨gb140, 2, none⟩) (Kd.V_far (p := ⟨gb140, 1, none⟩) (Kd.V_far (p := ⟨gb140, 0, none⟩) (Kd.V_mono HO_41.out (fun k_ hk => (⟨hk, hk.2⟩ : _ ∧ k_ ≠ gb140))) (fun _ hk => hk.2) (.int .i64 ((rd_T31 l0 x43_2).f0))) (fun _ hk => hk.2) (.int .i64 ((rd_T31 l0 x43_2).f1))) (fun _ hk => hk.2) (.slice A139_2 ((rd_T31 l0 x43_2).f2).length c139_2)) (fun _ hk => hk.2) (.slice A139_3 ((rd_T31 l0 x43_2).f3).length c139_3)) (fun _ hk => hk.2) (.slice A139_4 ((rd_T31 l0 x43_2).f4).length c139_4)) (fun _ hk => hk.2) (.slice A139_5 ((rd_T31 l0 x43_2).f5).length c139_5)) (fun _ hk => hk.2) (.slice A139_6 ((rd_T31 l0 x43_2).f6).length c139_6)) (fun _ hk => hk.2) (.bool ((rd_T31 l0 x43_2).f7))) (fun _ hk => ⟨hk.1.1.1, ⟨hk.1.1.2.1, ⟨hk.1.1.2.2.1, ⟨hk.1.1.2.2.2.1, ⟨hk.1.1.2.2.2.2, hk.1.2⟩⟩⟩⟩⟩)⟩
        have n2_ : Aside0 (Kd.N k79 79 w34 w.heap.size (fun k_ => (P0_ k_ ∨ w.heap.size ≤ k_) ∧ some k_ ≠ (u10 : Value).ownBlock ∧ k_ ≠ gb136 ∧ k_ ≠ gb138 ∧ k_ ≠ gb140) u139005 x139005_2) := ⟨by rw [← hW_]; exact by (with_reducible repeat (first | apply Kd.N_alloc | apply Kd.N_drewN | apply Kd.N_drew)); exact Kd.N_mono (Kd.N_far (p := ⟨gb140, 7, none⟩) (Kd.N_far (p := ⟨gb140, 6, none⟩) (Kd.N_far (p := ⟨gb140, 5, none⟩) (Kd.N_far (p := ⟨gb140, 4, none⟩) (Kd.N_far (p := ⟨gb140, 3, none⟩) (Kd.N_far (p := ⟨gb140, 2, none⟩) (Kd.N_far (p := ⟨gb140, 1, none⟩) (Kd.N_far (p := ⟨gb140, 0, none⟩) (Kd.N_mono HO_139005.out (fun k_ hk => (⟨hk, hk.2⟩ : _ ∧ k_ ≠ gb140))) (fun _ hk => hk.2) (.int .i64 ((rd_T31 l0 x43_2).f0))) (fun _ hk => hk.2) (.int .i64 ((rd_T31 l0 x43_2).f1))) (fun _ hk => hk.2) (.slice A139_2 ((rd_T31 l0 x43_2).f2).length c139_2)) (fun _ hk => hk.2) (.slice A139_3 ((rd_T31 l0 x43_2).f3).length c139_3)) (fun _ hk => hk.2) (.slice A139_4 ((rd_T31 l0 x43_2).f4).length c139_4)) (fun _ hk => hk.2) (.slice A139_5 ((rd_T31 l0 x43_2).f5).length c139_5)) (fun _ hk => hk.2) (.slice A139_6 ((rd_T31 l0 x43_2).f6).length c139_6)) (fun _ hk => hk.2) (.bool ((rd_T31 l0 x43_2).f7))) (fun _ hk => ⟨hk.1.1.1, ⟨hk.1.1.2.1, ⟨hk.1.1.2.2.1, ⟨hk.1.1.2.2.2, hk.1.2⟩⟩⟩⟩)⟩
        have n3_ : Aside0 (Kd.V (Kd.int .u8) 5 w34 w.heap.size (fun k_ => (P0_ k_ ∨ w.heap.size ≤ k_) ∧ some k_ ≠ (u10 : Value).ownBlock ∧ some k_ ≠ (u139005 : Value).ownBlock ∧ k_ ≠ gb136 ∧ k_ ≠ gb138 ∧ k_ ≠ gb140) (.slice A139_2 ((rd_T31 l0 x43_2).f2).length c139_2) ((rd_T31 l0 x43_2).f2)) := ⟨by rw [← hW_]; exact by (with_reducible repeat (first | apply Kd.V_alloc | apply Kd.V_drewN | apply Kd.V_drew)); exact Kd.V_mono (Kd.V_far (p := ⟨gb140, 7, none⟩) (Kd.V_far (p := ⟨gb140, 6, none⟩) (Kd.V_far (p := ⟨gb140, 5, none⟩) (Kd.V_far (p := ⟨gb140, 4, none⟩) (Kd.V_far (p := ⟨gb140, 3, none⟩) (Kd.V_far (p := ⟨gb140, 2, none⟩) (Kd.V_far (p := ⟨gb140, 1, none⟩) (Kd.V_far (p := ⟨gb140, 0, none⟩) (Kd.V_mono HL139_2.out (fun k_ hk => (⟨hk, hk.2⟩ : _ ∧ k_ ≠ gb140))) (fun _ hk => hk.2) (.int .i64 ((rd_T31 l0 x43_2).f0))) (fun _ hk => hk.2) (.int .i64 ((rd_T31 l0 x43_2).f1))) (fun _ hk => hk.2) (.slice A139_2 ((rd_T31 l0 x43_2).f2).length c139_2)) (fun _ hk => hk.2) (.slice A139_3 ((rd_T31 l0 x43_2).f3).length c139_3)) (fun _ hk => hk.2) (.slice A139_4 ((rd_T31 l0 x43_2).f4).length c139_4)) (fun _ hk => hk.2) (.slice A139_5 ((rd_T31 l0 x43_2).f5).length c139_5)) (fun _ hk => hk.2) (.slice A139_6 ((rd_T31 l0 x43_2).f6).length c139_6)) (fun _ hk => hk.2) (.bool ((rd_T31 l0 x43_2).f7))) (fun _ hk => ⟨hk.1.1.1, ⟨hk.1.1.2.1, ⟨hk.1.1.2.2.1, ⟨hk.1.1.2.2.2.1, ⟨hk.1.1.2.2.2.2, hk.1.2⟩⟩⟩⟩⟩)⟩
        have n4_ : Aside0 (Kd.V (Kd.int .i64) 3 w34 w.heap.size (fun k_ => (P0_ k_ ∨ w.heap.size ≤ k_) ∧ some k_ ≠ (u10 : Value).ownBlock ∧ some k_ ≠ (u139005 : Value).ownBlock ∧ k_ ≠ gb136 ∧ k_ ≠ gb138 ∧ k_ ≠ gb140) (.slice A139_3 ((rd_T31 l0 x43_2).f3).length c139_3) ((rd_T31 l0 x43_2).f3)) := ⟨by rw [← hW_]; exact by (with_reducible repeat (first | apply Kd.V_alloc | apply Kd.V_drewN | apply Kd.V_drew)); exact Kd.V_mono (Kd.V_far (p := ⟨gb140, 7, none⟩) (Kd.V_far (p := ⟨gb140, 6, none⟩) (Kd.V_far (p := ⟨gb140, 5, none⟩) (Kd.V_far (p := ⟨gb140, 4, none⟩) (Kd.V_far (p := ⟨gb140, 3, none⟩) (Kd.V_far (p := ⟨gb140, 2, none⟩) (Kd.V_far (p := ⟨gb140, 1, none⟩) (Kd.V_far (p := ⟨gb140, 0, none⟩) (Kd.V_mono HL139_3.out (fun k_ hk => (⟨hk, hk.2⟩ : _ ∧ k_ ≠ gb140))) (fun _ hk => hk.2) (.int .i64 ((rd_T31 l0 x43_2).f0))) (fun _ hk => hk.2) (.int .i64 ((rd_T31 l0 x43_2).f1))) (fun _ hk => hk.2) (.slice A139_2 ((rd_T31 l0 x43_2).f2).length c139_2)) (fun _ hk => hk.2) (.slice A139_3 ((rd_T31 l0 x43_2).f3).length c139_3)) (fun _ hk => hk.2) (.slice A139_4 ((rd_T31 l0 x43_2).f4).length c139_4)) (fun _ hk => hk.2) (.slice A139_5 ((rd_T31 l0 x43_2).f5).length c139_5)) (fun _ hk => hk.2) (.slice A139_6 ((rd_T31 l0 x43_2).f6).length c139_6)) (fun _ hk => hk.2) (.bool ((rd_T31 l0 x43_2).f7))) (fun _ hk => ⟨hk.1.1.1, ⟨hk.1.1.2.1, ⟨hk.1.1.2.2.1, ⟨hk.1.1.2.2.2.1, ⟨hk.1.1.2.2.2.2, hk.1.2⟩⟩⟩⟩⟩)⟩
        have n5_ : Aside0 (Kd.V k101 101 w34 w.heap.size (fun k_ => (P0_ k_ ∨ w.heap.size ≤ k_) ∧ some k_ ≠ (u10 : Value).ownBlock ∧ some k_ ≠ (u139005 : Value).ownBlock ∧ k_ ≠ gb136 ∧ k_ ≠ gb138 ∧ k_ ≠ gb140) (.slice A139_4 ((rd_T31 l0 x43_2).f4).length c139_4) ((rd_T31 l0 x43_2).f4)) := ⟨by rw [← hW_]; exact by (with_reducible repeat (first | apply Kd.V_alloc | apply Kd.V_drewN | apply Kd.V_drew)); exact Kd.V_mono (Kd.V_far (p := ⟨gb140, 7, none⟩) (Kd.V_far (p := ⟨gb140, 6, none⟩) (Kd.V_far (p := ⟨gb140, 5, none⟩) (Kd.V_far (p := ⟨gb140, 4, none⟩) (Kd.V_far (p := ⟨gb140, 3, none⟩) (Kd.V_far (p := ⟨gb140, 2, none⟩) (Kd.V_far (p := ⟨gb140, 1, none⟩) (Kd.V_far (p := ⟨gb140, 0, none⟩) (Kd.V_mono HL139_4.out (fun k_ hk => (⟨hk, hk.2⟩ : _ ∧ k_ ≠ gb140))) (fun _ hk => hk.2) (.int .i64 ((rd_T31 l0 x43_2).f0))) (fun _ hk => hk.2) (.int .i64 ((rd_T31 l0 x43_2).f1))) (fun _ hk => hk.2) (.slice A139_2 ((rd_T31 l0 x43_2).f2).length c139_2)) (fun _ hk => hk.2) (.slice A139_3 ((rd_T31 l0 x43_2).f3).length c139_3)) (fun _ hk => hk.2) (.slice A139_4 ((rd_T31 l0 x43_2).f4).length c139_4)) (fun _ hk => hk.2) (.slice A139_5 ((rd_T31 l0 x43_2).f5).length c139_5)) (fun _ hk => hk.2) (.slice A139_6 ((rd_T31 l0 x43_2).f6).length c139_6)) (fun _ hk => hk.2) (.bool ((rd_T31 l0 x43_2).f7))) (fun _ hk => ⟨hk.1.1.1, ⟨hk.1.1.2.1, ⟨hk.1.1.2.2.1, ⟨hk.1.1.2.2.2.1, ⟨hk.1.1.2.2.2.2, hk.1.2⟩⟩⟩⟩⟩)⟩
        have n6_ : Aside0 (Kd.V k79 79 w34 w.heap.size (fun k_ => (P0_ k_ ∨ w.heap.size ≤ k_) ∧ some k_ ≠ (u10 : Value).ownBlock ∧ some k_ ≠ (u139005 : Value).ownBlock ∧ k_ ≠ gb136 ∧ k_ ≠ gb138 ∧ k_ ≠ gb140) (.slice A139_5 ((rd_T31 l0 x43_2).f5).length c139_5) ((rd_T31 l0 x43_2).f5)) := ⟨by rw [← hW_]; exact by (with_reducible repeat (first | apply Kd.V_alloc | apply Kd.V_drewN | apply Kd.V_drew)); exact Kd.V_mono (Kd.V_far (p := ⟨gb140, 7, none⟩) (Kd.V_far (p := ⟨gb140, 6, none⟩) (Kd.V_far (p := ⟨gb140, 5, none⟩) (Kd.V_far (p := ⟨gb140, 4, none⟩) (Kd.V_far (p := ⟨gb140, 3, none⟩) (Kd.V_far (p := ⟨gb140, 2, none⟩) (Kd.V_far (p := ⟨gb140, 1, none⟩) (Kd.V_far (p := ⟨gb140, 0, none⟩) (Kd.V_mono HL139_5.out (fun k_ hk => (⟨hk, hk.2⟩ : _ ∧ k_ ≠ gb140))) (fun _ hk => hk.2) (.int .i64 ((rd_T31 l0 x43_2).f0))) (fun _ hk => hk.2) (.int .i64 ((rd_T31 l0 x43_2).f1))) (fun _ hk => hk.2) (.slice A139_2 ((rd_T31 l0 x43_2).f2).length c139_2)) (fun _ hk => hk.2) (.slice A139_3 ((rd_T31 l0 x43_2).f3).length c139_3)) (fun _ hk => hk.2) (.slice A139_4 ((rd_T31 l0 x43_2).f4).length c139_4)) (fun _ hk => hk.2) (.slice A139_5 ((rd_T31 l0 x43_2).f5).length c139_5)) (fun _ hk => hk.2) (.slice A139_6 ((rd_T31 l0 x43_2).f6).length c139_6)) (fun _ hk => hk.2) (.bool ((rd_T31 l0 x43_2).f7))) (fun _ hk => ⟨hk.1.1.1, ⟨hk.1.1.2.1, ⟨hk.1.1.2.2.1, ⟨hk.1.1.2.2.2.1, ⟨hk.1.1.2.2.2.2, hk.1.2⟩⟩⟩⟩⟩)⟩
        have n7_ : Aside0 (Kd.V (Kd.int .i64) 3 w34 w.heap.size (fun k_ => (P0_ k_ ∨ w.heap.size ≤ k_) ∧ some k_ ≠ (u10 : Value).ownBlock ∧ some k_ ≠ (u139005 : Value).ownBlock ∧ k_ ≠ gb136 ∧ k_ ≠ gb138 ∧ k_ ≠ gb140) (.slice A139_6 ((rd_T31 l0 x43_2).f6).length c139_6) ((rd_T31 l0 x43_2).f6)) := ⟨by rw [← hW_]; exact by (with_reducible repeat (first | apply Kd.V_alloc | apply Kd.V_drewN | apply Kd.V_drew)); exact Kd.V_mono (Kd.V_far (p := ⟨gb140, 7, none⟩) (Kd.V_far (p := ⟨gb140, 6, none⟩) (Kd.V_far (p := ⟨gb140, 5, none⟩) (Kd.V_far (p := ⟨gb140, 4, none⟩) (Kd.V_far (p := ⟨gb140, 3, none⟩) (Kd.V_far (p := ⟨gb140, 2, none⟩) (Kd.V_far (p := ⟨gb140, 1, none⟩) (Kd.V_far (p := ⟨gb140, 0, none⟩) (Kd.V_mono HL139_6.out (fun k_ hk => (⟨hk, hk.2⟩ : _ ∧ k_ ≠ gb140))) (fun _ hk => hk.2) (.int .i64 ((rd_T31 l0 x43_2).f0))) (fun _ hk => hk.2) (.int .i64 ((rd_T31 l0 x43_2).f1))) (fun _ hk => hk.2) (.slice A139_2 ((rd_T31 l0 x43_2).f2).length c139_2)) (fun _ hk => hk.2) (.slice A139_3 ((rd_T31 l0 x43_2).f3).length c139_3)) (fun _ hk => hk.2) (.slice A139_4 ((rd_T31 l0 x43_2).f4).length c139_4)) (fun _ hk => hk.2) (.slice A139_5 ((rd_T31 l0 x43_2).f5).length c139_5)) (fun _ hk => hk.2) (.slice A139_6 ((rd_T31 l0 x43_2).f6).length c139_6)) (fun _ hk => hk.2) (.bool ((rd_T31 l0 x43_2).f7))) (fun _ hk => ⟨hk.1.1.1, ⟨hk.1.1.2.1, ⟨hk.1.1.2.2.1, ⟨hk.1.1.2.2.2.1, ⟨hk.1.1.2.2.2.2, hk.1.2⟩⟩⟩⟩⟩)⟩
        have n8_ : Aside0 (w34.heap[gb136]? = some (.cells #[.int .i64 0, .int .i64 0, .slice none 0 0, .slice none 0 0, .slice none 0 0, .slice none 0 0, .slice none 0 0, .bool false] 31 (0, 0))) := ⟨by rw [← hW_]; exact by (with_reducible repeat (first | refine blk_drewN ?_ _ | refine blk_drew ?_ | refine blk_alloc ?_ _)); refine blk_far ?_ NB136_140.out _; (with_reducible repeat (first | refine blk_drewN ?_ _ | refine blk_drew ?_ | refine blk_alloc ?_ _)); refine blk_far ?_ NB136_140.out _; (with_reducible repeat (first | refine blk_drewN ?_ _ | refine blk_drew ?_ | refine blk_alloc ?_ _)); refine blk_far ?_ NB136_140.out _; (with_reducible repeat (first | refine blk_drewN ?_ _ | refine blk_drew ?_ | refine blk_alloc ?_ _)); refine blk_far ?_ NB136_140.out _; (with_reducible repeat (first | refine blk_drewN ?_ _ | refine blk_drew ?_ | refine blk_alloc ?_ _)); refine blk_far ?_ NB136_140.out _; (with_reducible repeat (first | refine blk_drewN ?_ _ | refine blk_drew ?_ | refine blk_alloc ?_ _)); refine blk_far ?_ NB136_140.out _; (with_reducible repeat (first | refine blk_drewN ?_ _ | refine blk_drew ?_ | refine blk_alloc ?_ _)); refine blk_far ?_ NB136_140.out _; (with_reducible repeat (first | refine blk_drewN ?_ _ | refine blk_drew ?_ | refine blk_alloc ?_ _)); refine blk_far ?_ NB136_140.out _; (with_reducible repeat (first | refine blk_drewN ?_ _ | refine blk_drew ?_ | refine blk_alloc ?_ _)); exact BK136.out⟩
        have n9_ : Aside0 (w34.heap[gb138]? = some (.cells #[.int .i64 x139000_2, .int .i64 x139001_2, .slice none 0 0, .slice none 0 0, .slice none 0 0, u139005, .slice none 0 0, .bool false] 31 (0, 0))) := ⟨by rw [← hW_]; exact by (with_reducible repeat (first | refine blk_drewN ?_ _ | refine blk_drew ?_ | refine blk_alloc ?_ _)); refine blk_far ?_ NB138_140.out _; (with_reducible repeat (first | refine blk_drewN ?_ _ | refine blk_drew ?_ | refine blk_alloc ?_ _)); refine blk_far ?_ NB138_140.out _; (with_reducible repeat (first | refine blk_drewN ?_ _ | refine blk_drew ?_ | refine blk_alloc ?_ _)); refine blk_far ?_ NB138_140.out _; (with_reducible repeat (first | refine blk_drewN ?_ _ | refine blk_drew ?_ | refine blk_alloc ?_ _)); refine blk_far ?_ NB138_140.out _; (with_reducible repeat (first | refine blk_drewN ?_ _ | refine blk_drew ?_ | refine blk_alloc ?_ _)); refine blk_far ?_ NB138_140.out _; (with_reducible repeat (first | refine blk_drewN ?_ _ | refine blk_drew ?_ | refine blk_alloc ?_ _)); refine blk_far ?_ NB138_140.out _; (with_reducible repeat (first | refine blk_drewN ?_ _ | refine blk_drew ?_ | refine blk_alloc ?_ _)); refine blk_far ?_ NB138_140.out _; (with_reducible repeat (first | refine blk_drewN ?_ _ | refine blk_drew ?_ | refine blk_alloc ?_ _)); refine blk_far ?_ NB138_140.out _; (with_reducible repeat (first | refine blk_drewN ?_ _ | refine blk_drew ?_ | refine blk_alloc ?_ _)); exact BK138.out⟩
        have n10_ : Aside0 (w34.heap[gb140]? = some (.cells #[.int .i64 ((rd_T31 l0 x43_2).f0), .int .i64 ((rd_T31 l0 x43_2).f1), .slice A139_2 ((rd_T31 l0 x43_2).f2).length c139_2, .slice A139_3 ((rd_T31 l0 x43_2).f3).length c139_3, .slice A139_4 ((rd_T31 l0 x43_2).f4).length c139_4, .slice A139_5 ((rd_T31 l0 x43_2).f5).length c139_5, .slice A139_6 ((rd_T31 l0 x43_2).f6).length c139_6, .bool ((rd_T31 l0 x43_2).f7)] 31 (0, 0))) := ⟨by rw [← hW_]; exact by (with_reducible repeat (first | refine blk_drewN ?_ _ | refine blk_drew ?_ | refine blk_alloc ?_ _)); refine blk_put (cs := #[.int .i64 ((rd_T31 l0 x43_2).f0), .int .i64 ((rd_T31 l0 x43_2).f1), .slice A139_2 ((rd_T31 l0 x43_2).f2).length c139_2, .slice A139_3 ((rd_T31 l0 x43_2).f3).length c139_3, .slice A139_4 ((rd_T31 l0 x43_2).f4).length c139_4, .slice A139_5 ((rd_T31 l0 x43_2).f5).length c139_5, .slice A139_6 ((rd_T31 l0 x43_2).f6).length c139_6, .bool false]) ?_ 7 _ rfl; (with_reducible repeat (first | refine blk_drewN ?_ _ | refine blk_drew ?_ | refine blk_alloc ?_ _)); refine blk_put (cs := #[.int .i64 ((rd_T31 l0 x43_2).f0), .int .i64 ((rd_T31 l0 x43_2).f1), .slice A139_2 ((rd_T31 l0 x43_2).f2).length c139_2, .slice A139_3 ((rd_T31 l0 x43_2).f3).length c139_3, .slice A139_4 ((rd_T31 l0 x43_2).f4).length c139_4, .slice A139_5 ((rd_T31 l0 x43_2).f5).length c139_5, .slice none 0 0, .bool false]) ?_ 6 _ rfl; (with_reducible repeat (first | refine blk_drewN ?_ _ | refine blk_drew ?_ | refine blk_alloc ?_ _)); refine blk_put (cs := #[.int .i64 ((rd_T31 l0 x43_2).f0), .int .i64 ((rd_T31 l0 x43_2).f1), .slice A139_2 ((rd_T31 l0 x43_2).f2).length c139_2, .slice A139_3 ((rd_T31 l0 x43_2).f3).length c139_3, .slice A139_4 ((rd_T31 l0 x43_2).f4).length c139_4, .slice none 0 0, .slice none 0 0, .bool false]) ?_ 5 _ rfl; (with_reducible repeat (first | refine blk_drewN ?_ _ | refine blk_drew ?_ | refine blk_alloc ?_ _)); refine blk_put (cs := #[.int .i64 ((rd_T31 l0 x43_2).f0), .int .i64 ((rd_T31 l0 x43_2).f1), .slice A139_2 ((rd_T31 l0 x43_2).f2).length c139_2, .slice A139_3 ((rd_T31 l0 x43_2).f3).length c139_3, .slice none 0 0, .slice none 0 0, .slice none 0 0, .bool false]) ?_ 4 _ rfl; (with_reducible repeat (first | refine blk_drewN ?_ _ | refine blk_drew ?_ | refine blk_alloc ?_ _)); refine blk_put (cs := #[.int .i64 ((rd_T31 l0 x43_2).f0), .int .i64 ((rd_T31 l0 x43_2).f1), .slice A139_2 ((rd_T31 l0 x43_2).f2).length c139_2, .slice none 0 0, .slice none 0 0, .slice none 0 0, .slice none 0 0, .bool false]) ?_ 3 _ rfl; (with_reducible repeat (first | refine blk_drewN ?_ _ | refine blk_drew ?_ | refine blk_alloc ?_ _)); refine blk_put (cs := #[.int .i64 ((rd_T31 l0 x43_2).f0), .int .i64 ((rd_T31 l0 x43_2).f1), .slice none 0 0, .slice none 0 0, .slice none 0 0, .slice none 0 0, .slice none 0 0, .bool false]) ?_ 2 _ rfl; (with_reducible repeat (first | refine blk_drewN ?_ _ | refine blk_drew ?_ | refine blk_alloc ?_ _)); refine blk_put (cs := #[.int .i64 ((rd_T31 l0 x43_2).f0), .int .i64 0, .slice none 0 0, .slice none 0 0, .slice none 0 0, .slice none 0 0, .slice none 0 0, .bool false]) ?_ 1 _ rfl; (with_reducible repeat (first | refine blk_drewN ?_ _ | refine blk_drew ?_ | refine blk_alloc ?_ _)); refine blk_put (cs := #[.int .i64 0, .int .i64 0, .slice none 0 0, .slice none 0 0, .slice none 0 0, .slice none 0 0, .slice none 0 0, .bool false]) ?_ 0 _ rfl; (with_reducible repeat (first | refine blk_drewN ?_ _ | refine blk_drew ?_ | refine blk_alloc ?_ _)); exact BK140.out⟩
        have n11_ : Aside0 (Below w.heap.size w w34) := ⟨by rw [← hW_]; exact by repeat (first | (with_reducible first | exact HB.out | apply below_alloc | apply pw_below_drewN | apply below_drew1 | refine below_set ?_ GE136.out | refine below_set ?_ GE138.out | refine below_set ?_ GE140.out) | exact HB.out)⟩
        (try clear HO_10)
        (try clear HO_41)
        (try clear HO_139005)
        (try clear HL139_2)
        (try clear HL139_3)
        (try clear HL139_4)
        (try clear HL139_5)
        (try clear HL139_6)
        (try clear BK136)
        (try clear BK138)
        (try clear BK140)
        (try clear HB)
        rw [hW_]
        clear hW_
        have HO_10 := n0_
        have HO_41 := n1_
        have HO_139005 := n2_
        have HL139_2 := n3_
        have HL139_3 := n4_
        have HL139_4 := n5_
        have HL139_5 := n6_
        have HL139_6 := n7_
        have BK136 := n8_
        have BK138 := n9_
        have BK140 := n10_
        have HB := n11_
        clear n0_ n1_ n2_ n3_ n4_ n5_ n6_ n7_ n8_ n9_ n10_ n11_
        have n0_ := Aside0.mk (Kd.N_drew HO_10.out)
        have n1_ := Aside0.mk (Kd.V_drew HO_41.out)
        have n2_ := Aside0.mk (Kd.N_drew HO_139005.out)
        have n3_ := Aside0.mk (Kd.V_drew HL139_2.out)
        have n4_ := Aside0.mk (Kd.V_drew HL139_3.out)
        have n5_ := Aside0.mk (Kd.V_drew HL139_4.out)
        have n6_ := Aside0.mk (Kd.V_drew HL139_5.out)
        have n7_ := Aside0.mk (Kd.V_drew HL139_6.out)
        have n8_ := Aside0.mk (blk_drew BK136.out)
        have n9_ := Aside0.mk (blk_drew BK138.out)
        have n10_ := Aside0.mk (blk_drew BK140.out)
        have n11_ := Aside0.mk (below_drew1 HB.out)
        clear HO_10
        clear HO_41
        clear HO_139005
        clear HL139_2
        clear HL139_3
        clear HL139_4
        clear HL139_5
        clear HL139_6
        clear BK136
        clear BK138
        clear BK140
        clear HB
        have HO_10 := n0_
        have HO_41 := n1_
        have HO_139005 := n2_
        have HL139_2 := n3_
        have HL139_3 := n4_
        have HL139_4 := n5_
        have HL139_5 := n6_
        have HL139_6 := n7_
        have BK136 := n8_
        have BK138 := n9_
        have BK140 := n10_
        have HB := n11_
        clear n0_ n1_ n2_ n3_ n4_ n5_ n6_ n7_ n8_ n9_ n10_ n11_
        have p141 : 0 ≤ (x43_2 : Int) := od_
        have q141 : x43_2 < (l1.length : Int) := od_
        obtain ⟨ad141, e141, hx141_0⟩ := Kd.at_string HR1.out x43_2 p141 q141
        have hw141_0 := hx141_0
        (try rw [← Nbq24.out] at hw141_0)
        cases e141
        replace hx141_0 := (HB.out.cell (World.block_lt_of_cell? w _ hx141_0)).trans hx141_0
        replace p141 := eq_true p141
        replace q141 := eq_true q141
        have p142 : 0 ≤ (x43_2 : Int) := od_
        have q142 : x43_2 < (l2.length : Int) := od_
        obtain ⟨ad142, e142, hx142_0⟩ := Kd.at_bool HR2.out x43_2 p142 q142
        have hw142_0 := hx142_0
        (try rw [← Nbq24.out] at hw142_0)
        (try rw [← Nbq24.out] at hx142_0)
        cases e142
        replace hx142_0 := (HB.out.cell (World.block_lt_of_cell? w _ hx142_0)).trans hx142_0
        replace p142 := eq_true p142
        replace q142 := eq_true q142
        refine start_ (n := 20) (S := fun w' => w'.cell? ⟨gb138, 0, none⟩ = some (.int .i64 x139000_2) ∧ w'.cell? ⟨gb138, 1, none⟩ = some (.int .i64 x139001_2) ∧ w'.cell? ⟨gb138, 2, none⟩ = some (.slice none 0 0) ∧ w'.cell? ⟨gb138, 3, none⟩ = some (.slice none 0 0) ∧ w'.cell? ⟨gb138, 4, none⟩ = some (.slice none 0 0) ∧ w'.cell? ⟨gb138, 5, none⟩ = some (u139005) ∧ w'.cell? ⟨gb138, 6, none⟩ = some (.slice none 0 0) ∧ w'.cell? ⟨gb138, 7, none⟩ = some (.bool false) ∧ w'.cell? ⟨gb140, 0, none⟩ = some (.int .i64 ((rd_T31 l0 x43_2).f0)) ∧ w'.cell? ⟨gb140, 1, none⟩ = some (.int .i64 ((rd_T31 l0 x43_2).f1)) ∧ w'.cell? ⟨gb140, 2, none⟩ = some (.slice A139_2 ((rd_T31 l0 x43_2).f2).length c139_2) ∧ w'.cell? ⟨gb140, 3, none⟩ = some (.slice A139_3 ((rd_T31 l0 x43_2).f3).length c139_3) ∧ w'.cell? ⟨gb140, 4, none⟩ = some (.slice A139_4 ((rd_T31 l0 x43_2).f4).length c139_4) ∧ w'.cell? ⟨gb140, 5, none⟩ = some (.slice A139_5 ((rd_T31 l0 x43_2).f5).length c139_5) ∧ w'.cell? ⟨gb140, 6, none⟩ = some (.slice A139_6 ((rd_T31 l0 x43_2).f6).length c139_6) ∧ w'.cell? ⟨gb140, 7, none⟩ = some (.bool ((rd_T31 l0 x43_2).f7)) ∧ w'.cell? (ad141.add (x43_2).toNat) = some (.string (rdOf ByteArray.empty l1 x43_2)) ∧ w'.cell? (ad142.add (x43_2).toNat) = some (.bool bq24)) (ds := [19]) #[false,false,false,false,false,false,false,false,false,false,false,false,false,false,false,false,false,false,false,false] (by kernel_rfl) rfl rfl ⟨(blk_cell BK138.out 0).trans rfl, (blk_cell BK138.out 1).trans rfl, (blk_cell BK138.out 2).trans rfl, (blk_cell BK138.out 3).trans rfl, (blk_cell BK138.out 4).trans rfl, (blk_cell BK138.out 5).trans rfl, (blk_cell BK138.out 6).trans rfl, (blk_cell BK138.out 7).trans rfl, (blk_cell BK140.out 0).trans rfl, (blk_cell BK140.out 1).trans rfl, (blk_cell BK140.out 2).trans rfl, (blk_cell BK140.out 3).trans rfl, (blk_cell BK140.out 4).trans rfl, (blk_cell BK140.out 5).trans rfl, (blk_cell BK140.out 6).trans rfl, (blk_cell BK140.out 7).trans rfl, ((HB.out.cell (World.block_lt_of_cell? w _ hw141_0)).trans hw141_0), ((HB.out.cell (World.block_lt_of_cell? w _ hw142_0)).trans hw142_0)⟩ (fun hHeld => ?_); refine with_tabW sum_Lay.tab11 sum_Lay.bits11 (fun HT_ HW_ => ?_)
        generalize w34.drew = w35 at HO_10 HO_41 HO_139005 HL139_2 HL139_3 HL139_4 HL139_5 HL139_6 BK136 BK138 BK140 HB hx141_0 hx142_0 hHeld ⊢
        refine pure_ (i := 0) (N := some 48) (v := ?_) (a' := ?_) #[true,false,false,false,false,false,false,false,false,false,false,false,false,false,false,false,false,false,false,false] rfl rfl (any_of HT_.out (by kernel_rfl)) (fun _ _ _ h => h) (Or.inl ⟨by rfl, ?_⟩) ?_ ?_
        rotate_left
        ·
         intro w'
         go_simp
         with_reducible rfl
        rotate_left
        ·
         simp only [Act.put, setIfInBounds_toArray, set_cons_zero, set_cons_succ, i64_w, i32_w]
         rfl
        refine pure_ (i := 2) (N := some 50) (v := ?_) (a' := ?_) #[true,false,true,false,false,false,false,false,false,false,false,false,false,false,false,false,false,false,false,false] rfl rfl (any_of HT_.out (by kernel_rfl)) (fun _ _ _ h => h) (Or.inl ⟨by rfl, ?_⟩) ?_ ?_
        rotate_left
        ·
         intro w'
         go_simp
         with_reducible rfl
        rotate_left
        ·
         simp only [Act.put, setIfInBounds_toArray, set_cons_zero, set_cons_succ, i64_w, i32_w]
         rfl
        refine pure_ (i := 3) (N := some 51) (v := ?_) (a' := ?_) #[true,false,true,true,false,false,false,false,false,false,false,false,false,false,false,false,false,false,false,false] rfl rfl (any_of HT_.out (by kernel_rfl)) (fun _ _ _ h => h) (Or.inl ⟨by rfl, ?_⟩) ?_ ?_
        rotate_left
        ·
         intro w'
         go_simp
         with_reducible rfl
        rotate_left
        ·
         simp only [Act.put, setIfInBounds_toArray, set_cons_zero, set_cons_succ, i64_w, i32_w]
         rfl
        refine pure_ (i := 4) (N := some 52) (v := ?_) (a' := ?_) #[true,false,true,true,true,false,false,false,false,false,false,false,false,false,false,false,false,false,false,false] rfl rfl (any_of HT_.out (by kernel_rfl)) (fun _ _ _ h => h) (Or.inl ⟨by rfl, ?_⟩) ?_ ?_
        rotate_left
        ·
         intro w'
         go_simp
         with_reducible rfl
        rotate_left
        ·
         simp only [Act.put, setIfInBounds_toArray, set_cons_zero, set_cons_succ, i64_w, i32_w]
         rfl
        refine pure_ (i := 6) (N := some 54) (v := ?_) (a' := ?_) #[true,false,true,true,true,false,true,false,false,false,false,false,false,false,false,false,false,false,false,false] rfl rfl (any_of HT_.out (by kernel_rfl)) (fun _ _ _ h => h) (Or.inl ⟨by rfl, ?_⟩) ?_ ?_
        rotate_left
        ·
         intro w'
         go_simp
         with_reducible rfl
        rotate_left
        ·
         simp only [Act.put, setIfInBounds_toArray, set_cons_zero, set_cons_succ, i64_w, i32_w]
         rfl
        refine pure_ (i := 7) (N := some 55) (v := ?_) (a' := ?_) #[true,false,true,true,true,false,true,true,false,false,false,false,false,false,false,false,false,false,false,false] rfl rfl (any_of HT_.out (by kernel_rfl)) (fun _ _ _ h => h) (Or.inl ⟨by rfl, ?_⟩) ?_ ?_
        rotate_left
        ·
         intro w'
         go_simp
         with_reducible rfl
        rotate_left
        ·
         simp only [Act.put, setIfInBounds_toArray, set_cons_zero, set_cons_succ, i64_w, i32_w]
         rfl
        refine pure_ (i := 8) (N := some 56) (v := ?_) (a' := ?_) #[true,false,true,true,true,false,true,true,true,false,false,false,false,false,false,false,false,false,false,false] rfl rfl (any_of HT_.out (by kernel_rfl)) (fun _ _ _ h => h) (Or.inl ⟨by rfl, ?_⟩) ?_ ?_
        rotate_left
        ·
         intro w'
         go_simp
         with_reducible rfl
        rotate_left
        ·
         simp only [Act.put, setIfInBounds_toArray, set_cons_zero, set_cons_succ, i64_w, i32_w]
         rfl
        refine pure_ (i := 10) (N := some 58) (v := ?_) (a' := ?_) #[true,false,true,true,true,false,true,true,true,false,true,false,false,false,false,false,false,false,false,false] rfl rfl (any_of HT_.out (by kernel_rfl)) (fun _ _ _ h => h) (Or.inl ⟨by rfl, ?_⟩) ?_ ?_
        rotate_left
        ·
         intro w'
         go_simp
         with_reducible rfl
        rotate_left
        ·
         simp only [Act.put, setIfInBounds_toArray, set_cons_zero, set_cons_succ, i64_w, i32_w]
         rfl
        refine pure_ (i := 13) (N := some 61) (v := ?_) (a' := ?_) #[true,false,true,true,true,false,true,true,true,false,true,false,false,true,false,false,false,false,false,false] rfl rfl (any_of HT_.out (by kernel_rfl)) (fun _ _ _ h => h) (Or.inl ⟨by rfl, ?_⟩) ?_ ?_
        rotate_left
        ·
         intro w'
         go_simp
         with_reducible rfl
        rotate_left
        ·
         simp only [Act.put, setIfInBounds_toArray, set_cons_zero, set_cons_succ, i64_w, i32_w]
         rfl
        refine take_ (i := 1) (N := some 49) (v := ?_) (a' := ?_) #[true,true,true,true,true,false,true,true,true,false,true,false,false,true,false,false,false,false,false,false] rfl rfl (take_ofW HT_.out HW_.out (by kernel_rfl)) (fun _ _ _ h => h) (Or.inl ⟨by rfl, ?_⟩) hHeld ?_ ?_
        rotate_left
        ·
         rintro w' ⟨s0, s1, s2, s3, s4, s5, s6, s7, s8, s9, s10, s11, s12, s13, s14, s15, s16, s17⟩
         go_simp
         with_reducible rfl
        rotate_left
        ·
         simp only [Act.put, setIfInBounds_toArray, set_cons_zero, set_cons_succ, i64_w, i32_w]
         rfl
        refine take_ (i := 5) (N := some 53) (v := ?_) (a' := ?_) #[true,true,true,true,true,true,true,true,true,false,true,false,false,true,false,false,false,false,false,false] rfl rfl (take_ofW HT_.out HW_.out (by kernel_rfl)) (fun _ _ _ h => h) (Or.inl ⟨by rfl, ?_⟩) hHeld ?_ ?_
        rotate_left
        ·
         rintro w' ⟨s0, s1, s2, s3, s4, s5, s6, s7, s8, s9, s10, s11, s12, s13, s14, s15, s16, s17⟩
         go_simp
         with_reducible rfl
        rotate_left
        ·
         simp only [Act.put, setIfInBounds_toArray, set_cons_zero, set_cons_succ, i64_w, i32_w]
         rfl
        refine take_ (i := 9) (N := some 57) (v := ?_) (a' := ?_) #[true,true,true,true,true,true,true,true,true,true,true,false,false,true,false,false,false,false,false,false] rfl rfl (take_ofW HT_.out HW_.out (by kernel_rfl)) (fun _ _ _ h => h) (Or.inl ⟨by rfl, ?_⟩) hHeld ?_ ?_
        rotate_left
        ·
         rintro w' ⟨s0, s1, s2, s3, s4, s5, s6, s7, s8, s9, s10, s11, s12, s13, s14, s15, s16, s17⟩
         go_simp
         with_reducible rfl
        rotate_left
        ·
         simp only [Act.put, setIfInBounds_toArray, set_cons_zero, set_cons_succ, i64_w, i32_w]
         rfl
        refine take_ (i := 11) (N := some 59) (v := ?_) (a' := ?_) #[true,true,true,true,true,true,true,true,true,true,true,true,false,true,false,false,false,false,false,false] rfl rfl (take_ofW HT_.out HW_.out (by kernel_rfl)) (fun _ _ _ h => h) (Or.inl ⟨by rfl, ?_⟩) hHeld ?_ ?_
        rotate_left
        ·
         rintro w' ⟨s0, s1, s2, s3, s4, s5, s6, s7, s8, s9, s10, s11, s12, s13, s14, s15, s16, s17⟩
         go_simp
         with_reducible rfl
        rotate_left
        ·
         simp only [Act.put, setIfInBounds_toArray, set_cons_zero, set_cons_succ, i64_w, i32_w]
         rfl
        refine take_ (i := 14) (N := some 62) (v := ?_) (a' := ?_) #[true,true,true,true,true,true,true,true,true,true,true,true,false,true,true,false,false,false,false,false] rfl rfl (take_ofW HT_.out HW_.out (by kernel_rfl)) (fun _ _ _ h => h) (Or.inl ⟨by rfl, ?_⟩) hHeld ?_ ?_
        rotate_left
        ·
         rintro w' ⟨s0, s1, s2, s3, s4, s5, s6, s7, s8, s9, s10, s11, s12, s13, s14, s15, s16, s17⟩
         go_simp
         with_reducible rfl
        rotate_left
        ·
         simp only [Act.put, setIfInBounds_toArray, set_cons_zero, set_cons_succ, i64_w, i32_w]
         rfl
        refine one_ (i := 12) (N := some 60) #[true,true,true,true,true,true,true,true,true,true,true,true,true,true,true,false,false,false,false,false] rfl rfl (one_of HT_.out (by kernel_rfl)) (by decide) (fun K hK => ?_)
        refine goes_ Try.func78 (by kernel_rfl) rfl #[.slice A139_3 ((rd_T31 l0 x43_2).f3).length c139_3] (by rfl) rfl rfl (by (try simp only [List.map_toArray, List.map_cons, List.map_nil]); first | done | rfl | (simp only [List.length_drop, List.length_take]; rfl)) ?_
        with_reducible refine (CloneI.calls _ _ ((rd_T31 l0 x43_2).f3) t143 _ ?side1 ?side2 A22.out).mono ?_
        (case side1 => repeat (first | exact ((Kd.V_reads' (kV_ HL139_3.out)).2.2) | (with_reducible refine Kd.C_alloc ?_ _) | (with_reducible refine Kd.C_drewN ?_ _) | (with_reducible refine Kd.C_drew ?_)))
        (case side2 => exact HC139_3.out)
        rintro e w36 ⟨v144, rfl, ho0, hb⟩
        refine ⟨_, rfl, ?_⟩
        have n0_ := Aside0.mk (Kd.N_elder' (kN_ HO_10.out) (Kd.R_base ho0) hb)
        have n1_ := Aside0.mk (Kd.V_elder' (kV_ HO_41.out) (Kd.R_base ho0) hb)
        have n2_ := Aside0.mk (Kd.N_elder' (kN_ HO_139005.out) (Kd.R_base ho0) hb)
        have n3_ := Aside0.mk (Kd.V_elder' (kV_ HL139_2.out) (Kd.R_base ho0) hb)
        have n4_ := Aside0.mk (Kd.V_elder' (kV_ HL139_3.out) (Kd.R_base ho0) hb)
        have n5_ := Aside0.mk (Kd.V_elder' (kV_ HL139_4.out) (Kd.R_base ho0) hb)
        have n6_ := Aside0.mk (Kd.V_elder' (kV_ HL139_5.out) (Kd.R_base ho0) hb)
        have n7_ := Aside0.mk (Kd.V_elder' (kV_ HL139_6.out) (Kd.R_base ho0) hb)
        have n8_ := Aside0.mk (Kd.R_lower (Kd.R_newM (M := fun k_ => (w.heap.size ≤ k_)) ho0 (below_size (hb3_ HB.out GE136.out GE138.out GE140.out)) (fun k_ h_ => h_)) (below_size (hb3_ HB.out GE136.out GE138.out GE140.out)))
        have n9_ := Aside0.mk (blk_below (g := gb136) (o := .cells #[.int .i64 0, .int .i64 0, .slice none 0 0, .slice none 0 0, .slice none 0 0, .slice none 0 0, .slice none 0 0, .bool false] 31 (0, 0)) (bk_ BK136.out) hb)
        have n10_ := Aside0.mk (blk_below (g := gb138) (o := .cells #[.int .i64 x139000_2, .int .i64 x139001_2, .slice none 0 0, .slice none 0 0, .slice none 0 0, u139005, .slice none 0 0, .bool false] 31 (0, 0)) (bk_ BK138.out) hb)
        have n11_ := Aside0.mk (blk_below (g := gb140) (o := .cells #[.int .i64 ((rd_T31 l0 x43_2).f0), .int .i64 ((rd_T31 l0 x43_2).f1), .slice A139_2 ((rd_T31 l0 x43_2).f2).length c139_2, .slice A139_3 ((rd_T31 l0 x43_2).f3).length c139_3, .slice A139_4 ((rd_T31 l0 x43_2).f4).length c139_4, .slice A139_5 ((rd_T31 l0 x43_2).f5).length c139_5, .slice A139_6 ((rd_T31 l0 x43_2).f6).length c139_6, .bool ((rd_T31 l0 x43_2).f7)] 31 (0, 0)) (bk_ BK140.out) hb)
        have n12_ := Aside0.mk (below_step (hb3_ HB.out GE136.out GE138.out GE140.out) hb)
        clear HO_10
        clear HO_41
        clear HO_139005
        clear HL139_2
        clear HL139_3
        clear HL139_4
        clear HL139_5
        clear HL139_6
        clear BK136
        clear BK138
        clear BK140
        clear HB
        have HO_10 := n0_
        have HO_41 := n1_
        have HO_139005 := n2_
        have HL139_2 := n3_
        have HL139_3 := n4_
        have HL139_4 := n5_
        have HL139_5 := n6_
        have HL139_6 := n7_
        have HO145 := n8_
        have BK136 := n9_
        have BK138 := n10_
        have BK140 := n11_
        have HB := n12_
        clear n0_ n1_ n2_ n3_ n4_ n5_ n6_ n7_ n8_ n9_ n10_ n11_ n12_
        (try clear hb)
        (try clear hb2)
        (try clear hk)
        (try clear hi)
        (try clear ho0)
        obtain ⟨Ao37, co37, eo37⟩ := Kd.R_slice HO145.out
        (first | subst eo37 | (injection eo37 with f1_ f2_ f3_; have f4_ := f1_.symm; have f5_ := f3_.symm; clear f1_ f2_ f3_; subst f4_; subst f5_))
        refine hK.out _ _ ⟨(blk_cell BK138.out 0).trans rfl, (blk_cell BK138.out 1).trans rfl, (blk_cell BK138.out 2).trans rfl, (blk_cell BK138.out 3).trans rfl, (blk_cell BK138.out 4).trans rfl, (blk_cell BK138.out 5).trans rfl, (blk_cell BK138.out 6).trans rfl, (blk_cell BK138.out 7).trans rfl, (blk_cell BK140.out 0).trans rfl, (blk_cell BK140.out 1).trans rfl, (blk_cell BK140.out 2).trans rfl, (blk_cell BK140.out 3).trans rfl, (blk_cell BK140.out 4).trans rfl, (blk_cell BK140.out 5).trans rfl, (blk_cell BK140.out 6).trans rfl, (blk_cell BK140.out 7).trans rfl, ((HB.out.cell (World.block_lt_of_cell? w _ hw141_0)).trans hw141_0), ((HB.out.cell (World.block_lt_of_cell? w _ hw142_0)).trans hw142_0)⟩ (fun hHeld => ?_)
        clear hK K
        refine norm_ (a' := ?_) ?_ ?_
        rotate_left
        ·
         show Act.put _ (some 60) _ = _
         simp only [Act.put, setIfInBounds_toArray, set_cons_zero, set_cons_succ, i64_w, i32_w]
         rfl
        refine pure_ (i := 15) (N := some 63) (v := ?_) (a' := ?_) #[true,true,true,true,true,true,true,true,true,true,true,true,true,true,true,true,false,false,false,false] rfl rfl (any_of HT_.out (by kernel_rfl)) (fun _ _ _ h => h) (Or.inl ⟨by rfl, ?_⟩) ?_ ?_
        rotate_left
        ·
         intro w'
         go_simp
         with_reducible rfl
        rotate_left
        ·
         simp only [Act.put, setIfInBounds_toArray, set_cons_zero, set_cons_succ, i64_w, i32_w]
         rfl
        refine one_ (i := 16) (N := some 64) #[true,true,true,true,true,true,true,true,true,true,true,true,true,true,true,true,true,false,false,false] rfl rfl (one_of HT_.out (by kernel_rfl)) (by decide) (fun K hK => ?_)
        refine value_ (w1 := ?_) (v := ?_) (by rfl) rfl ?_ ?_
        rotate_left 2
        ·
         go_simp
         constructor
         ·
          rfl
         ·
          rfl
        refine hK.out _ _ ⟨(blk_cell (blk_alloc BK138.out _) 0).trans rfl, (blk_cell (blk_alloc BK138.out _) 1).trans rfl, (blk_cell (blk_alloc BK138.out _) 2).trans rfl, (blk_cell (blk_alloc BK138.out _) 3).trans rfl, (blk_cell (blk_alloc BK138.out _) 4).trans rfl, (blk_cell (blk_alloc BK138.out _) 5).trans rfl, (blk_cell (blk_alloc BK138.out _) 6).trans rfl, (blk_cell (blk_alloc BK138.out _) 7).trans rfl, (blk_cell (blk_alloc BK140.out _) 0).trans rfl, (blk_cell (blk_alloc BK140.out _) 1).trans rfl, (blk_cell (blk_alloc BK140.out _) 2).trans rfl, (blk_cell (blk_alloc BK140.out _) 3).trans rfl, (blk_cell (blk_alloc BK140.out _) 4).trans rfl, (blk_cell (blk_alloc BK140.out _) 5).trans rfl, (blk_cell (blk_alloc BK140.out _) 6).trans rfl, (blk_cell (blk_alloc BK140.out _) 7).trans rfl, (World.cell?_alloc_lt _ _ _ (World.block_lt_of_cell? _ _ (((HB.out.cell (World.block_lt_of_cell? w _ hw141_0)).trans hw141_0)))).trans (((HB.out.cell (World.block_lt_of_cell? w _ hw141_0)).trans hw141_0)), (World.cell?_alloc_lt _ _ _ (World.block_lt_of_cell? _ _ (((HB.out.cell (World.block_lt_of_cell? w _ hw142_0)).trans hw142_0)))).trans (((HB.out.cell (World.block_lt_of_cell? w _ hw142_0)).trans hw142_0))⟩ (fun hHeld => ?_)
        clear hK K
        refine norm_ (a' := ?_) ?_ ?_
        rotate_left
        ·
         show Act.put _ (some 64) _ = _
         simp only [Act.put, setIfInBounds_toArray, set_cons_zero, set_cons_succ, i64_w, i32_w]
         rfl
        refine one_ (i := 17) (N := some 65) #[true,true,true,true,true,true,true,true,true,true,true,true,true,true,true,true,true,true,false,false] rfl rfl (one_of HT_.out (by kernel_rfl)) (by decide) (fun K hK => ?_)
        refine Kd.N_append_step k79 (w0 := w) w.heap.size (by rfl) (.tmp 49) (.tmp 64) 29 79 (.agg #[(.string ⟨#[]⟩), (.bool false), (.slice none 0 0), (.slice none 0 0), (.int .i64 0)]) 80 rfl Try.underlying29 info79 rfl (by decide) (by omega) u139005 x139005_2 (⟨rdOf ByteArray.empty l1 x43_2, bq24, t143, ([] : List (S101)), (rd_T31 l0 x43_2).f0⟩ : S79) [.string (rdOf ByteArray.empty l1 x43_2), .bool bq24, .slice Ao37 t143.length co37, .slice none 0 0, .int .i64 ((rd_T31 l0 x43_2).f0)] (fun k_ => (P0_ k_ ∨ w.heap.size ≤ k_) ∧ some k_ ≠ (u10 : Value).ownBlock ∧ k_ ≠ gb136 ∧ k_ ≠ gb138 ∧ k_ ≠ gb140) (fun k_ => ((fun k_ => (P0_ k_ ∨ w.heap.size ≤ k_) ∧ some k_ ≠ (u10 : Value).ownBlock ∧ k_ ≠ gb136 ∧ k_ ≠ gb138 ∧ k_ ≠ gb140)) k_ ∧ some k_ ≠ (u139005 : Value).ownBlock) rfl rfl ?aP (fun _ hk => hk) ?aF ?aO ?aB ?aS ?aL ?_
        (case aP => exact (k79_mkF _ _ (⟨rdOf ByteArray.empty l1 x43_2, bq24, t143, ([] : List (S101)), (rd_T31 l0 x43_2).f0⟩ : S79) (Kd.R_reads' (Kd.R_mono (ok' := (fun k_ => ((fun k_ => (P0_ k_ ∨ w.heap.size ≤ k_) ∧ some k_ ≠ (u10 : Value).ownBlock ∧ k_ ≠ gb136 ∧ k_ ≠ gb138 ∧ k_ ≠ gb140)) k_ ∧ some k_ ≠ (u139005 : Value).ownBlock)) (Kd.R_types (Kd.R_types (Kd.R_types (Kd.R_apart' (Kd.R_apart' (HO145.out) (Kd.N_typed HO_10.out) (by decide)) (Kd.N_typed HO_139005.out) (by decide)) BK136.out (by decide)) BK138.out (by decide)) BK140.out (by decide)) (fun k_ hk => ⟨⟨(.inr (hk.1.1.1.1.1.1)), ⟨hk.1.1.1.1.2, ⟨hk.1.1.2, ⟨hk.1.2, hk.2⟩⟩⟩⟩, hk.1.1.1.2⟩))).2.1 (Kd.R_F (Kd.R_mono (ok' := (fun k_ => ((fun k_ => (P0_ k_ ∨ w.heap.size ≤ k_) ∧ some k_ ≠ (u10 : Value).ownBlock ∧ k_ ≠ gb136 ∧ k_ ≠ gb138 ∧ k_ ≠ gb140)) k_ ∧ some k_ ≠ (u139005 : Value).ownBlock)) (Kd.R_types (Kd.R_types (Kd.R_types (Kd.R_apart' (Kd.R_apart' (HO145.out) (Kd.N_typed HO_10.out) (by decide)) (Kd.N_typed HO_139005.out) (by decide)) BK136.out (by decide)) BK138.out (by decide)) BK140.out (by decide)) (fun k_ hk => ⟨⟨(.inr (hk.1.1.1.1.1.1)), ⟨hk.1.1.1.1.2, ⟨hk.1.1.2, ⟨hk.1.2, hk.2⟩⟩⟩⟩, hk.1.1.1.2⟩))) (Nat.le_refl _) (Kd.F_nil _ _ _)))
        (case aB => exact (hb3_ HB.out GE136.out GE138.out GE140.out))
        (case aF => exact (fun k_ hk => ⟨(.inr (Nat.le_trans (below_size (hb3_ HB.out GE136.out GE138.out GE140.out)) hk)), Kd.fresh' (Kd.N_lt (kN_ HO_10.out)) k_ hk, Kd.freshB (g := gb136) (o := .cells #[.int .i64 0, .int .i64 0, .slice none 0 0, .slice none 0 0, .slice none 0 0, .slice none 0 0, .slice none 0 0, .bool false] 31 (0, 0)) (bk_ BK136.out) k_ hk, Kd.freshB (g := gb138) (o := .cells #[.int .i64 x139000_2, .int .i64 x139001_2, .slice none 0 0, .slice none 0 0, .slice none 0 0, u139005, .slice none 0 0, .bool false] 31 (0, 0)) (bk_ BK138.out) k_ hk, Kd.freshB (g := gb140) (o := .cells #[.int .i64 ((rd_T31 l0 x43_2).f0), .int .i64 ((rd_T31 l0 x43_2).f1), .slice A139_2 ((rd_T31 l0 x43_2).f2).length c139_2, .slice A139_3 ((rd_T31 l0 x43_2).f3).length c139_3, .slice A139_4 ((rd_T31 l0 x43_2).f4).length c139_4, .slice A139_5 ((rd_T31 l0 x43_2).f5).length c139_5, .slice A139_6 ((rd_T31 l0 x43_2).f6).length c139_6, .bool ((rd_T31 l0 x43_2).f7)] 31 (0, 0)) (bk_ BK140.out) k_ hk⟩))
        (case aO => exact (by (with_reducible repeat (first | apply Kd.N_alloc | apply Kd.N_drewN | apply Kd.N_drew)); exact Kd.N_mono HO_139005.out (fun _ hk => ⟨hk.1.1, ⟨hk.1.2.1, ⟨hk.1.2.2.1, ⟨hk.1.2.2.2.1, hk.1.2.2.2.2⟩⟩⟩⟩)))
        (case aS => exact (below_size (hb3_ HB.out GE136.out GE138.out GE140.out)))
        (case aL => have := LMc23.out; omega)
        intro v147 w38 ho hb hg hat
        rw [← Ny146.out] at ho
        have n0_ := Aside0.mk (Kd.N_afterv (ok := (fun k_ => (P0_ k_ ∨ w.heap.size ≤ k_) ∧ some k_ ≠ (.slice Ao37 t143.length co37 : Value).ownBlock ∧ k_ ≠ gb136 ∧ k_ ≠ gb138 ∧ k_ ≠ gb140)) (by (with_reducible repeat (first | apply Kd.N_alloc | apply Kd.N_drewN | apply Kd.N_drew)); exact Kd.N_mono HO_10.out (fun _ hk => ⟨⟨hk.1.1, ⟨hk.2, ⟨hk.1.2.2.1, ⟨hk.1.2.2.2.1, hk.1.2.2.2.2⟩⟩⟩⟩, hk.1.2.1⟩)) hg hat)
        have n1_ := Aside0.mk (Kd.V_afterv (ok := (fun k_ => (P0_ k_ ∨ w.heap.size ≤ k_) ∧ some k_ ≠ (u10 : Value).ownBlock ∧ some k_ ≠ (.slice Ao37 t143.length co37 : Value).ownBlock ∧ k_ ≠ gb136 ∧ k_ ≠ gb138 ∧ k_ ≠ gb140)) (by (with_reducible repeat (first | apply Kd.V_alloc | apply Kd.V_drewN | apply Kd.V_drew)); exact Kd.V_mono HO_41.out (fun _ hk => ⟨⟨hk.1.1, ⟨hk.1.2.1, ⟨hk.2, ⟨hk.1.2.2.2.1, ⟨hk.1.2.2.2.2.1, hk.1.2.2.2.2.2⟩⟩⟩⟩⟩, hk.1.2.2.1⟩)) hg hat)
        have n2_ := Aside0.mk (blk_grown (g := gb136) (o := .cells #[.int .i64 0, .int .i64 0, .slice none 0 0, .slice none 0 0, .slice none 0 0, .slice none 0 0, .slice none 0 0, .bool false] 31 (0, 0)) (bk_ BK136.out) hg (Kd.N_ne HO_139005.out BK136.out (by decide)))
        have n3_ := Aside0.mk (blk_grown (g := gb138) (o := .cells #[.int .i64 x139000_2, .int .i64 x139001_2, .slice none 0 0, .slice none 0 0, .slice none 0 0, u139005, .slice none 0 0, .bool false] 31 (0, 0)) (bk_ BK138.out) hg (Kd.N_ne HO_139005.out BK138.out (by decide)))
        have n4_ := Aside0.mk (Kd.V_afterv (ok := (fun k_ => (P0_ k_ ∨ w.heap.size ≤ k_) ∧ some k_ ≠ (u10 : Value).ownBlock ∧ some k_ ≠ (.slice Ao37 t143.length co37 : Value).ownBlock ∧ k_ ≠ gb136 ∧ k_ ≠ gb138 ∧ k_ ≠ gb140)) (by (with_reducible repeat (first | apply Kd.V_alloc | apply Kd.V_drewN | apply Kd.V_drew)); exact Kd.V_mono HL139_2.out (fun _ hk => ⟨⟨hk.1.1, ⟨hk.1.2.1, ⟨hk.2, ⟨hk.1.2.2.2.1, ⟨hk.1.2.2.2.2.1, hk.1.2.2.2.2.2⟩⟩⟩⟩⟩, hk.1.2.2.1⟩)) hg hat)
        have n5_ := Aside0.mk (Kd.V_afterv (ok := (fun k_ => (P0_ k_ ∨ w.heap.size ≤ k_) ∧ some k_ ≠ (u10 : Value).ownBlock ∧ some k_ ≠ (.slice Ao37 t143.length co37 : Value).ownBlock ∧ k_ ≠ gb136 ∧ k_ ≠ gb138 ∧ k_ ≠ gb140)) (by (with_reducible repeat (first | apply Kd.V_alloc | apply Kd.V_drewN | apply Kd.V_drew)); exact Kd.V_mono HL139_3.out (fun _ hk => ⟨⟨hk.1.1, ⟨hk.1.2.1, ⟨hk.2, ⟨hk.1.2.2.2.1, ⟨hk.1.2.2.2.2.1, hk.1.2.2.2.2.2⟩⟩⟩⟩⟩, hk.1.2.2.1⟩)) hg hat)
        have n6_ := Aside0.mk (Kd.V_afterv (ok := (fun k_ => (P0_ k_ ∨ w.heap.size ≤ k_) ∧ some k_ ≠ (u10 : Value).ownBlock ∧ some k_ ≠ (.slice Ao37 t143.length co37 : Value).ownBlock ∧ k_ ≠ gb136 ∧ k_ ≠ gb138 ∧ k_ ≠ gb140)) (by (with_reducible repeat (first | apply Kd.V_alloc | apply Kd.V_drewN | apply Kd.V_drew)); exact Kd.V_mono HL139_4.out (fun _ hk => ⟨⟨hk.1.1, ⟨hk.1.2.1, ⟨hk.2, ⟨hk.1.2.2.2.1, ⟨hk.1.2.2.2.2.1, hk.1.2.2.2.2.2⟩⟩⟩⟩⟩, hk.1.2.2.1⟩)) hg hat)
        have n7_ := Aside0.mk (Kd.V_afterv (ok := (fun k_ => (P0_ k_ ∨ w.heap.size ≤ k_) ∧ some k_ ≠ (u10 : Value).ownBlock ∧ some k_ ≠ (.slice Ao37 t143.length co37 : Value).ownBlock ∧ k_ ≠ gb136 ∧ k_ ≠ gb138 ∧ k_ ≠ gb140)) (by (with_reducible repeat (first | apply Kd.V_alloc | apply Kd.V_drewN | apply Kd.V_drew)); exact Kd.V_mono HL139_5.out (fun _ hk => ⟨⟨hk.1.1, ⟨hk.1.2.1, ⟨hk.2, ⟨hk.1.2.2.2.1, ⟨hk.1.2.2.2.2.1, hk.1.2.2.2.2.2⟩⟩⟩⟩⟩, hk.1.2.2.1⟩)) hg hat)
        have n8_ := Aside0.mk (Kd.V_afterv (ok := (fun k_ => (P0_ k_ ∨ w.heap.size ≤ k_) ∧ some k_ ≠ (u10 : Value).ownBlock ∧ some k_ ≠ (.slice Ao37 t143.length co37 : Value).ownBlock ∧ k_ ≠ gb136 ∧ k_ ≠ gb138 ∧ k_ ≠ gb140)) (by (with_reducible repeat (first | apply Kd.V_alloc | apply Kd.V_drewN | apply Kd.V_drew)); exact Kd.V_mono HL139_6.out (fun _ hk => ⟨⟨hk.1.1, ⟨hk.1.2.1, ⟨hk.2, ⟨hk.1.2.2.2.1, ⟨hk.1.2.2.2.2.1, hk.1.2.2.2.2.2⟩⟩⟩⟩⟩, hk.1.2.2.1⟩)) hg hat)
        have n9_ := Aside0.mk (blk_grown (g := gb140) (o := .cells #[.int .i64 ((rd_T31 l0 x43_2).f0), .int .i64 ((rd_T31 l0 x43_2).f1), .slice A139_2 ((rd_T31 l0 x43_2).f2).length c139_2, .slice A139_3 ((rd_T31 l0 x43_2).f3).length c139_3, .slice A139_4 ((rd_T31 l0 x43_2).f4).length c139_4, .slice A139_5 ((rd_T31 l0 x43_2).f5).length c139_5, .slice A139_6 ((rd_T31 l0 x43_2).f6).length c139_6, .bool ((rd_T31 l0 x43_2).f7)] 31 (0, 0)) (bk_ BK140.out) hg (Kd.N_ne HO_139005.out BK140.out (by decide)))
        have n10_ := Aside0.mk (hb)
        have n11_ := Aside0.mk (ho)
        clear HO_10
        clear HO_41
        clear BK136
        clear BK138
        clear HL139_2
        clear HL139_3
        clear HL139_4
        clear HL139_5
        clear HL139_6
        clear BK140
        clear HB
        clear HO_139005
        clear HO145
        have HO_10 := n0_
        have HO_41 := n1_
        have BK136 := n2_
        have BK138 := n3_
        have HL139_2 := n4_
        have HL139_3 := n5_
        have HL139_4 := n6_
        have HL139_5 := n7_
        have HL139_6 := n8_
        have BK140 := n9_
        have HB := n10_
        have HO148 := n11_
        clear n0_ n1_ n2_ n3_ n4_ n5_ n6_ n7_ n8_ n9_ n10_ n11_
        clear ho hb hg hat
        obtain ⟨Ao39, co39, eo39⟩ := Kd.N_slice HO148.out
        (first | subst eo39 | (injection eo39 with f1_ f2_ f3_; have f4_ := f1_.symm; have f5_ := f3_.symm; clear f1_ f2_ f3_; subst f4_; subst f5_))
        refine hK.out _ _ ⟨(blk_cell BK138.out 0).trans rfl, (blk_cell BK138.out 1).trans rfl, (blk_cell BK138.out 2).trans rfl, (blk_cell BK138.out 3).trans rfl, (blk_cell BK138.out 4).trans rfl, (blk_cell BK138.out 5).trans rfl, (blk_cell BK138.out 6).trans rfl, (blk_cell BK138.out 7).trans rfl, (blk_cell BK140.out 0).trans rfl, (blk_cell BK140.out 1).trans rfl, (blk_cell BK140.out 2).trans rfl, (blk_cell BK140.out 3).trans rfl, (blk_cell BK140.out 4).trans rfl, (blk_cell BK140.out 5).trans rfl, (blk_cell BK140.out 6).trans rfl, (blk_cell BK140.out 7).trans rfl, ((HB.out.cell (World.block_lt_of_cell? w _ hw141_0)).trans hw141_0), ((HB.out.cell (World.block_lt_of_cell? w _ hw142_0)).trans hw142_0)⟩ (fun hHeld => ?_)
        clear hK K
        refine norm_ (a' := ?_) ?_ ?_
        rotate_left
        ·
         show Act.put _ (some 65) _ = _
         simp only [Act.put, setIfInBounds_toArray, set_cons_zero, set_cons_succ, i64_w, i32_w]
         rfl
        refine pure_ (i := 18) (N := some 66) (v := ?_) (a' := ?_) #[true,true,true,true,true,true,true,true,true,true,true,true,true,true,true,true,true,true,true,false] rfl rfl (any_of HT_.out (by kernel_rfl)) (fun _ _ _ h => h) (Or.inl ⟨by rfl, ?_⟩) ?_ ?_
        rotate_left
        ·
         intro w'
         go_simp
         with_reducible rfl
        rotate_left
        ·
         simp only [Act.put, setIfInBounds_toArray, set_cons_zero, set_cons_succ, i64_w, i32_w]
         rfl
        refine last_ (i := 19) (N := none) #[true,true,true,true,true,true,true,true,true,true,true,true,true,true,true,true,true,true,true,true] rfl rfl (one_of HT_.out (by kernel_rfl)) (by decide) (fun K hK => ?_)
        have hs40 : w38.cell? ⟨gb138, 5, none⟩ = some (u139005) := (blk_cell BK138.out 5).trans rfl
        have hfs40 := blk_frozen BK138.out 5
        have hns40_0 := NB136_138.out
        have hns40_2 := NB140_138.out
        have hms40_0 := NB138_136.out
        have hms40_2 := NB138_140.out
        refine skip_ (w1 := ?_) (by rfl) rfl ?_ ?_
        rotate_left
        ·
         go_simp
         rfl
        refine hK.out _ _ ?_
        clear hK K
        refine done_ (done_of HT_.out (by kernel_rfl)) ?_
        by_cases c25 : bq24 = true
        ·
         subst c25
         have H1 : ((sum_Pointer.f).bind fun bt150 => (if x10_2.length < 977343669134 then (sum_Lay.l0 k2 l1 l2 (x10_2 ++ [(⟨bt150.1, bt150.2.1, bt150.2.2.1, bt150.2.2.2.1, bt150.2.2.2.2.1, bt150.2.2.2.2.2.1, bt150.2.2.2.2.2.2.1, bt150.2.2.2.2.2.2.2⟩ : S31)]) l0 (l0.length : Int) (wrap64 (x43_2 + 1)) (mx x139000_2 bt150.1) (mx x139001_2 bt150.2.1) y146 false) else (none))) = some (r1, r2, r3, r4, r5, r6, r7, r8, r9) := by rw [if_pos rfl] at H; exact H
         clear H
         have H := H1
         clear H1
         replace H := Option.bind_eq_some_iff.mp H
         obtain ⟨⟨t150, t151, t152, t155, t158, t161, t164, t167⟩, A260, H⟩ := H
         try dsimp only at H
         have A26 := Aside0.mk A260
         clear A260
         by_cases c27 : x10_2.length < 977343669134
         rotate_left
         ·
          rw [if_neg c27] at H
          exact absurd H (by simp)
         rw [if_pos c27] at H
         have LMc27 := Aside0.mk c27
         clear c27
         obtain ⟨y168, hy168⟩ : ∃ y_ : List (S31), y_ = (x10_2 ++ [(⟨t150, t151, t152, t155, t158, t161, t164, t167⟩ : S31)]) := ⟨_, rfl⟩
         replace H : (sum_Lay.l0 k2 l1 l2 y168 l0 (l0.length : Int) (wrap64 (x43_2 + 1)) (mx x139000_2 t150) (mx x139001_2 t151) y146 false) = some (r1, r2, r3, r4, r5, r6, r7, r8, r9) := by first | (rw [hy168]; with_reducible exact H) | (have H2_ := (Option.bind_some _ _).symm.trans H; rw [hy168]; with_reducible exact H2_) | (have H2_ := (Option.bind_some _ _).symm.trans H; with_reducible exact H2_) | with_reducible exact H | (rw [hy168]; exact H) | exact H
         have Ny168 := Aside0.mk hy168
         clear hy168
         obtain ⟨ji28, hji28⟩ : ∃ j_ : Int, (mx x139000_2 t150) = j_ := ⟨_, rfl⟩
         replace H : (sum_Lay.l0 k2 l1 l2 y168 l0 (l0.length : Int) (wrap64 (x43_2 + 1)) ji28 (mx x139001_2 t151) y146 false) = some (r1, r2, r3, r4, r5, r6, r7, r8, r9) := by first | (rw [hji28] at H; exact H) | (simp only [hji28] at H ⊢; exact H)
         (try rw [hji28] at A22)
         (try rw [hji28] at A26)
         have hji28_ : (if x139000_2 < t150 then t150 else x139000_2) = ji28 := hji28
         obtain ⟨ji29, hji29⟩ : ∃ j_ : Int, (mx x139001_2 t151) = j_ := ⟨_, rfl⟩
         replace H : (sum_Lay.l0 k2 l1 l2 y168 l0 (l0.length : Int) (wrap64 (x43_2 + 1)) ji28 ji29 y146 false) = some (r1, r2, r3, r4, r5, r6, r7, r8, r9) := by first | (rw [hji29] at H; exact H) | (simp only [hji29] at H ⊢; exact H)
         (try rw [hji29] at A22)
         (try rw [hji29] at A26)
         have hji29_ : (if x139001_2 < t151 then t151 else x139001_2) = ji29 := hji29
         have H' := Aside0.mk H
         clear H
         have p149 : 0 ≤ (x43_2 : Int) := od_
         have q149 : x43_2 < (l2.length : Int) := od_
         obtain ⟨ad149, e149, hx149_0⟩ := Kd.at_bool HR2.out x43_2 p149 q149
         (try rw [← Nbq24.out] at hx149_0)
         obtain rfl : ad142 = ad149 := (by injection e149)
         have hn149_0 : ad142.block ≠ gb138 := Nat.ne_of_lt (Nat.lt_of_lt_of_le (by have := World.block_lt_of_cell? _ _ hx149_0; first | rwa [add_block] at this | exact this) GW138.out)
         replace hx149_0 := (HB.out.cell (World.block_lt_of_cell? w _ hx149_0)).trans hx149_0
         replace hx149_0 := (cell_far (p := ⟨gb138, 5, none⟩) (by first | (rw [add_block]; exact hn149_0) | (show (Addr.add _ _).block ≠ _; rw [add_block]; exact hn149_0) | exact hn149_0) (.slice Ao39 y146.length co39)).trans hx149_0
         clear hn149_0
         replace p149 := eq_true p149
         replace q149 := eq_true q149
         try go_wp2_with (first | ((with_reducible refine gate_callee (f := 37) rfl ?_); refine goesL_ (some 71) rfl rfl Try.func37 (by kernel_rfl) rfl #[] rfl (by (try simp only [List.map_toArray, List.map_cons, List.map_nil]); first | done | rfl | (simp only [List.length_drop, List.length_take]; rfl)) ?_; (with_reducible refine (sum_Pointer.calls  t150 t151 t152 t155 t158 t161 t164 t167 _ A26.out).mono ?_); rintro e w41 ⟨v153, v156, v159, v162, v165, rfl, ho0, ho1, ho2, ho3, ho4, hb⟩; refine ⟨_, rfl, ?_⟩; have n0_ := Aside0.mk (Kd.N_mono (Kd.N_told (Kd.N_told (Kd.N_told (Kd.N_told (Kd.N_told (Kd.N_old (by (with_reducible repeat (first | apply Kd.N_alloc | apply Kd.N_drewN | apply Kd.N_drew)); exact (Kd.N_mono (Kd.N_far (p := ⟨gb138, 5, none⟩) (Kd.N_mono HO_10.out (fun k_ hk => (⟨hk, hk.1.2.2.2.1⟩ : _ ∧ k_ ≠ gb138))) (fun _ hk => hk.2) (.slice Ao39 y146.length co39)) (fun _ h_ => h_.1))) hb) (Kd.R_base ho0)) (Kd.R_base ho1)) (by first | exact Kd.N_base ho2 | exact Kd.R_base ho2)) (by first | exact Kd.N_base ho3 | exact Kd.R_base ho3)) (Kd.R_base ho4)) (fun _ h_ => h_.1)); have n1_ := Aside0.mk (Kd.V_mono (Kd.V_told (Kd.V_told (Kd.V_told (Kd.V_told (Kd.V_told (Kd.V_old (by (with_reducible repeat (first | apply Kd.V_alloc | apply Kd.V_drewN | apply Kd.V_drew)); exact (Kd.V_mono (Kd.V_far (p := ⟨gb138, 5, none⟩) (Kd.V_mono HO_41.out (fun k_ hk => (⟨hk, hk.1.2.2.2.2.1⟩ : _ ∧ k_ ≠ gb138))) (fun _ hk => hk.2) (.slice Ao39 y146.length co39)) (fun _ h_ => h_.1))) hb) (Kd.R_base ho0)) (Kd.R_base ho1)) (by first | exact Kd.N_base ho2 | exact Kd.R_base ho2)) (by first | exact Kd.N_base ho3 | exact Kd.R_base ho3)) (Kd.R_base ho4)) (fun _ h_ => h_.1)); have n2_ := Aside0.mk (Kd.V_mono (Kd.V_told (Kd.V_told (Kd.V_told (Kd.V_told (Kd.V_told (Kd.V_old (by (with_reducible repeat (first | apply Kd.V_alloc | apply Kd.V_drewN | apply Kd.V_drew)); exact (Kd.V_mono (Kd.V_far (p := ⟨gb138, 5, none⟩) (Kd.V_mono HL139_2.out (fun k_ hk => (⟨hk, hk.1.2.2.2.2.1⟩ : _ ∧ k_ ≠ gb138))) (fun _ hk => hk.2) (.slice Ao39 y146.length co39)) (fun _ h_ => h_.1))) hb) (Kd.R_base ho0)) (Kd.R_base ho1)) (by first | exact Kd.N_base ho2 | exact Kd.R_base ho2)) (by first | exact Kd.N_base ho3 | exact Kd.R_base ho3)) (Kd.R_base ho4)) (fun _ h_ => h_.1)); have n3_ := Aside0.mk (Kd.V_mono (Kd.V_told (Kd.V_told (Kd.V_told (Kd.V_told (Kd.V_told (Kd.V_old (by (with_reducible repeat (first | apply Kd.V_alloc | apply Kd.V_drewN | apply Kd.V_drew)); exact (Kd.V_mono (Kd.V_far (p := ⟨gb138, 5, none⟩) (Kd.V_mono HL139_3.out (fun k_ hk => (⟨hk, hk.1.2.2.2.2.1⟩ : _ ∧ k_ ≠ gb138))) (fun _ hk => hk.2) (.slice Ao39 y146.length co39)) (fun _ h_ => h_.1))) hb) (Kd.R_base ho0)) (Kd.R_base ho1)) (by first | exact Kd.N_base ho2 | exact Kd.R_base ho2)) (by first | exact Kd.N_base ho3 | exact Kd.R_base ho3)) (Kd.R_base ho4)) (fun _ h_ => h_.1)); have n4_ := Aside0.mk (Kd.V_mono (Kd.V_told (Kd.V_told (Kd.V_told (Kd.V_told (Kd.V_told (Kd.V_old (by (with_reducible repeat (first | apply Kd.V_alloc | apply Kd.V_drewN | apply Kd.V_drew)); exact (Kd.V_mono (Kd.V_far (p := ⟨gb138, 5, none⟩) (Kd.V_mono HL139_4.out (fun k_ hk => (⟨hk, hk.1.2.2.2.2.1⟩ : _ ∧ k_ ≠ gb138))) (fun _ hk => hk.2) (.slice Ao39 y146.length co39)) (fun _ h_ => h_.1))) hb) (Kd.R_base ho0)) (Kd.R_base ho1)) (by first | exact Kd.N_base ho2 | exact Kd.R_base ho2)) (by first | exact Kd.N_base ho3 | exact Kd.R_base ho3)) (Kd.R_base ho4)) (fun _ h_ => h_.1)); have n5_ := Aside0.mk (Kd.V_mono (Kd.V_told (Kd.V_told (Kd.V_told (Kd.V_told (Kd.V_told (Kd.V_old (by (with_reducible repeat (first | apply Kd.V_alloc | apply Kd.V_drewN | apply Kd.V_drew)); exact (Kd.V_mono (Kd.V_far (p := ⟨gb138, 5, none⟩) (Kd.V_mono HL139_5.out (fun k_ hk => (⟨hk, hk.1.2.2.2.2.1⟩ : _ ∧ k_ ≠ gb138))) (fun _ hk => hk.2) (.slice Ao39 y146.length co39)) (fun _ h_ => h_.1))) hb) (Kd.R_base ho0)) (Kd.R_base ho1)) (by first | exact Kd.N_base ho2 | exact Kd.R_base ho2)) (by first | exact Kd.N_base ho3 | exact Kd.R_base ho3)) (Kd.R_base ho4)) (fun _ h_ => h_.1)); have n6_ := Aside0.mk (Kd.V_mono (Kd.V_told (Kd.V_told (Kd.V_told (Kd.V_told (Kd.V_told (Kd.V_old (by (with_reducible repeat (first | apply Kd.V_alloc | apply Kd.V_drewN | apply Kd.V_drew)); exact (Kd.V_mono (Kd.V_far (p := ⟨gb138, 5, none⟩) (Kd.V_mono HL139_6.out (fun k_ hk => (⟨hk, hk.1.2.2.2.2.1⟩ : _ ∧ k_ ≠ gb138))) (fun _ hk => hk.2) (.slice Ao39 y146.length co39)) (fun _ h_ => h_.1))) hb) (Kd.R_base ho0)) (Kd.R_base ho1)) (by first | exact Kd.N_base ho2 | exact Kd.R_base ho2)) (by first | exact Kd.N_base ho3 | exact Kd.R_base ho3)) (Kd.R_base ho4)) (fun _ h_ => h_.1)); have n7_ := Aside0.mk (Kd.N_mono (Kd.N_told (Kd.N_told (Kd.N_told (Kd.N_told (Kd.N_told (Kd.N_old (by (with_reducible repeat (first | apply Kd.N_alloc | apply Kd.N_drewN | apply Kd.N_drew)); exact (Kd.N_mono (Kd.N_far (p := ⟨gb138, 5, none⟩) (Kd.N_mono HO148.out (fun k_ hk => (⟨hk, hk.2.2.2.1⟩ : _ ∧ k_ ≠ gb138))) (fun _ hk => hk.2) (.slice Ao39 y146.length co39)) (fun _ h_ => h_.1))) hb) (Kd.R_base ho0)) (Kd.R_base ho1)) (by first | exact Kd.N_base ho2 | exact Kd.R_base ho2)) (by first | exact Kd.N_base ho3 | exact Kd.R_base ho3)) (Kd.R_base ho4)) (fun _ h_ => h_.1)); have n8_ := Aside0.mk (Kd.R_lower (Kd.R_newM (M := fun k_ => (w.heap.size ≤ k_)) ho0 (below_size (hb3_ HB.out GE136.out GE138.out GE140.out)) (fun k_ h_ => h_)) (below_size (hb3_ HB.out GE136.out GE138.out GE140.out))); have n9_ := Aside0.mk (Kd.R_lower (Kd.R_newM (M := fun k_ => (w.heap.size ≤ k_)) ho1 (below_size (hb3_ HB.out GE136.out GE138.out GE140.out)) (fun k_ h_ => h_)) (below_size (hb3_ HB.out GE136.out GE138.out GE140.out))); have n10_ := Aside0.mk (Kd.N_lower (Kd.N_mono (ok' := fun k_ => (P0_ k_ ∨ w.heap.size ≤ k_) ∧ some k_ ≠ (v153 : Value).ownBlock ∧ some k_ ≠ (v156 : Value).ownBlock ∧ some k_ ≠ (v162 : Value).ownBlock ∧ some k_ ≠ (v165 : Value).ownBlock ∧ some k_ ≠ (u10 : Value).ownBlock ∧ some k_ ≠ (.slice Ao39 y146.length co39 : Value).ownBlock ∧ k_ ≠ gb136 ∧ k_ ≠ gb138 ∧ k_ ≠ gb140) (Kd.R_N (Kd.R_bound (Kd.R_apart' (Kd.R_apart' (Kd.R_apart' (Kd.R_apart' ho2 (Kd.R_typed ho0) (by decide)) (Kd.R_typed ho1) (by decide)) (Kd.R_typed ho3) (by decide)) (Kd.R_typed ho4) (by decide)))) (fun k_ hk_ => ⟨(.inr (Nat.le_trans (below_size (hb3_ HB.out GE136.out GE138.out GE140.out)) hk_.2.1)), hk_.1.1.1.1.2, hk_.1.1.1.2, hk_.1.1.2, hk_.1.2, (Kd.fresh' (Kd.N_lt (by (with_reducible repeat (first | apply Kd.N_alloc | apply Kd.N_drewN | apply Kd.N_drew)); exact (Kd.N_mono (Kd.N_far (p := ⟨gb138, 5, none⟩) (Kd.N_mono HO_10.out (fun k_ hk => (⟨hk, hk.1.2.2.2.1⟩ : _ ∧ k_ ≠ gb138))) (fun _ hk => hk.2) (.slice Ao39 y146.length co39)) (fun _ h_ => h_.1)))) k_ hk_.2.1), (Kd.fresh' (Kd.N_lt (by (with_reducible repeat (first | apply Kd.N_alloc | apply Kd.N_drewN | apply Kd.N_drew)); exact (Kd.N_mono (Kd.N_far (p := ⟨gb138, 5, none⟩) (Kd.N_mono HO148.out (fun k_ hk => (⟨hk, hk.2.2.2.1⟩ : _ ∧ k_ ≠ gb138))) (fun _ hk => hk.2) (.slice Ao39 y146.length co39)) (fun _ h_ => h_.1)))) k_ hk_.2.1), (Kd.freshB (g := gb136) (o := .cells #[.int .i64 0, .int .i64 0, .slice none 0 0, .slice none 0 0, .slice none 0 0, .slice none 0 0, .slice none 0 0, .bool false] 31 (0, 0)) (bf1_ BK136.out NB136_138.out) k_ hk_.2.1), (Kd.freshB (g := gb138) (o := .cells #[.int .i64 x139000_2, .int .i64 x139001_2, .slice none 0 0, .slice none 0 0, .slice none 0 0, .slice Ao39 y146.length co39, .slice none 0 0, .bool false] 31 (0, 0)) (by (with_reducible repeat (first | refine blk_drewN ?_ _ | refine blk_drew ?_ | refine blk_alloc ?_ _)); refine blk_put (cs := #[.int .i64 x139000_2, .int .i64 x139001_2, .slice none 0 0, .slice none 0 0, .slice none 0 0, u139005, .slice none 0 0, .bool false]) ?_ 5 _ rfl; (with_reducible repeat (first | refine blk_drewN ?_ _ | refine blk_drew ?_ | refine blk_alloc ?_ _)); exact BK138.out) k_ hk_.2.1), (Kd.freshB (g := gb140) (o := .cells #[.int .i64 ((rd_T31 l0 x43_2).f0), .int .i64 ((rd_T31 l0 x43_2).f1), .slice A139_2 ((rd_T31 l0 x43_2).f2).length c139_2, .slice A139_3 ((rd_T31 l0 x43_2).f3).length c139_3, .slice A139_4 ((rd_T31 l0 x43_2).f4).length c139_4, .slice A139_5 ((rd_T31 l0 x43_2).f5).length c139_5, .slice A139_6 ((rd_T31 l0 x43_2).f6).length c139_6, .bool ((rd_T31 l0 x43_2).f7)] 31 (0, 0)) (bf1_ BK140.out NB140_138.out) k_ hk_.2.1)⟩)) (below_size (hb3_ HB.out GE136.out GE138.out GE140.out))); have n11_ := Aside0.mk (Kd.N_lower (Kd.N_mono (ok' := fun k_ => (P0_ k_ ∨ w.heap.size ≤ k_) ∧ some k_ ≠ (v153 : Value).ownBlock ∧ some k_ ≠ (v156 : Value).ownBlock ∧ some k_ ≠ (v159 : Value).ownBlock ∧ some k_ ≠ (v165 : Value).ownBlock ∧ some k_ ≠ (u10 : Value).ownBlock ∧ some k_ ≠ (.slice Ao39 y146.length co39 : Value).ownBlock ∧ k_ ≠ gb136 ∧ k_ ≠ gb138 ∧ k_ ≠ gb140) (Kd.R_N (Kd.R_bound (Kd.R_apart' ho3 (Kd.R_typed ho0) (by decide)))) (fun k_ hk_ => ⟨(.inr (Nat.le_trans (below_size (hb3_ HB.out GE136.out GE138.out GE140.out)) hk_.2.1)), hk_.1.2, hk_.1.1.1, hk_.1.1.2.1, hk_.1.1.2.2, (Kd.fresh' (Kd.N_lt (by (with_reducible repeat (first | apply Kd.N_alloc | apply Kd.N_drewN | apply Kd.N_drew)); exact (Kd.N_mono (Kd.N_far (p := ⟨gb138, 5, none⟩) (Kd.N_mono HO_10.out (fun k_ hk => (⟨hk, hk.1.2.2.2.1⟩ : _ ∧ k_ ≠ gb138))) (fun _ hk => hk.2) (.slice Ao39 y146.length co39)) (fun _ h_ => h_.1)))) k_ hk_.2.1), (Kd.fresh' (Kd.N_lt (by (with_reducible repeat (first | apply Kd.N_alloc | apply Kd.N_drewN | apply Kd.N_drew)); exact (Kd.N_mono (Kd.N_far (p := ⟨gb138, 5, none⟩) (Kd.N_mono HO148.out (fun k_ hk => (⟨hk, hk.2.2.2.1⟩ : _ ∧ k_ ≠ gb138))) (fun _ hk => hk.2) (.slice Ao39 y146.length co39)) (fun _ h_ => h_.1)))) k_ hk_.2.1), (Kd.freshB (g := gb136) (o := .cells #[.int .i64 0, .int .i64 0, .slice none 0 0, .slice none 0 0, .slice none 0 0, .slice none 0 0, .slice none 0 0, .bool false] 31 (0, 0)) (bf1_ BK136.out NB136_138.out) k_ hk_.2.1), (Kd.freshB (g := gb138) (o := .cells #[.int .i64 x139000_2, .int .i64 x139001_2, .slice none 0 0, .slice none 0 0, .slice none 0 0, .slice Ao39 y146.length co39, .slice none 0 0, .bool false] 31 (0, 0)) (by (with_reducible repeat (first | refine blk_drewN ?_ _ | refine blk_drew ?_ | refine blk_alloc ?_ _)); refine blk_put (cs := #[.int .i64 x139000_2, .int .i64 x139001_2, .slice none 0 0, .slice none 0 0, .slice none 0 0, u139005, .slice none 0 0, .bool false]) ?_ 5 _ rfl; (with_reducible repeat (first | refine blk_drewN ?_ _ | refine blk_drew ?_ | refine blk_alloc ?_ _)); exact BK138.out) k_ hk_.2.1), (Kd.freshB (g := gb140) (o := .cells #[.int .i64 ((rd_T31 l0 x43_2).f0), .int .i64 ((rd_T31 l0 x43_2).f1), .slice A139_2 ((rd_T31 l0 x43_2).f2).length c139_2, .slice A139_3 ((rd_T31 l0 x43_2).f3).length c139_3, .slice A139_4 ((rd_T31 l0 x43_2).f4).length c139_4, .slice A139_5 ((rd_T31 l0 x43_2).f5).length c139_5, .slice A139_6 ((rd_T31 l0 x43_2).f6).length c139_6, .bool ((rd_T31 l0 x43_2).f7)] 31 (0, 0)) (bf1_ BK140.out NB140_138.out) k_ hk_.2.1)⟩)) (below_size (hb3_ HB.out GE136.out GE138.out GE140.out))); have n12_ := Aside0.mk (Kd.R_lower (Kd.R_newM (M := fun k_ => (w.heap.size ≤ k_)) ho4 (below_size (hb3_ HB.out GE136.out GE138.out GE140.out)) (fun k_ h_ => h_)) (below_size (hb3_ HB.out GE136.out GE138.out GE140.out))); have n13_ := Aside0.mk (blk_below (g := gb136) (o := .cells #[.int .i64 0, .int .i64 0, .slice none 0 0, .slice none 0 0, .slice none 0 0, .slice none 0 0, .slice none 0 0, .bool false] 31 (0, 0)) (bf1_ BK136.out NB136_138.out) hb); have n14_ := Aside0.mk (blk_below (g := gb138) (o := .cells #[.int .i64 x139000_2, .int .i64 x139001_2, .slice none 0 0, .slice none 0 0, .slice none 0 0, .slice Ao39 y146.length co39, .slice none 0 0, .bool false] 31 (0, 0)) (by (with_reducible repeat (first | refine blk_drewN ?_ _ | refine blk_drew ?_ | refine blk_alloc ?_ _)); refine blk_put (cs := #[.int .i64 x139000_2, .int .i64 x139001_2, .slice none 0 0, .slice none 0 0, .slice none 0 0, u139005, .slice none 0 0, .bool false]) ?_ 5 _ rfl; (with_reducible repeat (first | refine blk_drewN ?_ _ | refine blk_drew ?_ | refine blk_alloc ?_ _)); exact BK138.out) hb); have n15_ := Aside0.mk (blk_below (g := gb140) (o := .cells #[.int .i64 ((rd_T31 l0 x43_2).f0), .int .i64 ((rd_T31 l0 x43_2).f1), .slice A139_2 ((rd_T31 l0 x43_2).f2).length c139_2, .slice A139_3 ((rd_T31 l0 x43_2).f3).length c139_3, .slice A139_4 ((rd_T31 l0 x43_2).f4).length c139_4, .slice A139_5 ((rd_T31 l0 x43_2).f5).length c139_5, .slice A139_6 ((rd_T31 l0 x43_2).f6).length c139_6, .bool ((rd_T31 l0 x43_2).f7)] 31 (0, 0)) (bf1_ BK140.out NB140_138.out) hb); have n16_ := Aside0.mk (below_step (hb3_ HB.out GE136.out GE138.out GE140.out) hb); clear HO_10 HO_41 HL139_2 HL139_3 HL139_4 HL139_5 HL139_6 HO148 BK136 BK138 BK140 HB; have HO_10 := n0_; have HO_41 := n1_; have HL139_2 := n2_; have HL139_3 := n3_; have HL139_4 := n4_; have HL139_5 := n5_; have HL139_6 := n6_; have HO148 := n7_; have HO154 := n8_; have HO157 := n9_; have HO160 := n10_; have HO163 := n11_; have HO166 := n12_; have BK136 := n13_; have BK138 := n14_; have BK140 := n15_; have HB := n16_; clear n0_ n1_ n2_ n3_ n4_ n5_ n6_ n7_ n8_ n9_ n10_ n11_ n12_ n13_ n14_ n15_ n16_; (try clear hb); (try clear hb2); (try clear hk); (try clear hi); (try clear ho0); (try clear ho1); (try clear ho2); (try clear ho3); (try clear ho4); have hcz42_0 : w41.cell? ⟨gb140, 0, none⟩ = some (.int .i64 ((rd_T31 l0 x43_2).f0)) := (blk_cell BK140.out 0).trans rfl; have hcz42_1 : w41.cell? ⟨gb140, 1, none⟩ = some (.int .i64 ((rd_T31 l0 x43_2).f1)) := (blk_cell BK140.out 1).trans rfl; have hcz42_2 : w41.cell? ⟨gb140, 2, none⟩ = some (.slice A139_2 ((rd_T31 l0 x43_2).f2).length c139_2) := (blk_cell BK140.out 2).trans rfl; have hcz42_3 : w41.cell? ⟨gb140, 3, none⟩ = some (.slice A139_3 ((rd_T31 l0 x43_2).f3).length c139_3) := (blk_cell BK140.out 3).trans rfl; have hcz42_4 : w41.cell? ⟨gb140, 4, none⟩ = some (.slice A139_4 ((rd_T31 l0 x43_2).f4).length c139_4) := (blk_cell BK140.out 4).trans rfl; have hcz42_5 : w41.cell? ⟨gb140, 5, none⟩ = some (.slice A139_5 ((rd_T31 l0 x43_2).f5).length c139_5) := (blk_cell BK140.out 5).trans rfl; have hcz42_6 : w41.cell? ⟨gb140, 6, none⟩ = some (.slice A139_6 ((rd_T31 l0 x43_2).f6).length c139_6) := (blk_cell BK140.out 6).trans rfl; have hcz42_7 : w41.cell? ⟨gb140, 7, none⟩ = some (.bool ((rd_T31 l0 x43_2).f7)) := (blk_cell BK140.out 7).trans rfl; have hfz42_0 := blk_frozen BK140.out 0; have hfz42_1 := blk_frozen BK140.out 1; have hfz42_2 := blk_frozen BK140.out 2; have hfz42_3 := blk_frozen BK140.out 3; have hfz42_4 := blk_frozen BK140.out 4; have hfz42_5 := blk_frozen BK140.out 5; have hfz42_6 := blk_frozen BK140.out 6; have hfz42_7 := blk_frozen BK140.out 7; obtain ⟨Ao43, co43, eo43⟩ := Kd.R_slice HO154.out; subst eo43; obtain ⟨Ao44, co44, eo44⟩ := Kd.R_slice HO157.out; subst eo44; obtain ⟨Ao45, co45, eo45⟩ := Kd.N_slice HO160.out; subst eo45; obtain ⟨Ao46, co46, eo46⟩ := Kd.N_slice HO163.out; subst eo46; obtain ⟨Ao47, co47, eo47⟩ := Kd.R_slice HO166.out; subst eo47) | ((with_reducible refine gate_store (t := 31) (p := 12) rfl ?_); refine store_event (t := 31) (p := 12) (v := ?vo_w48) (w1 := ((((((((w41.setCell ⟨gb140, 0, none⟩ (.int .i64 t150)).setCell ⟨gb140, 1, none⟩ (.int .i64 t151)).setCell ⟨gb140, 2, none⟩ (.slice Ao43 t152.length co43)).setCell ⟨gb140, 3, none⟩ (.slice Ao44 t155.length co44)).setCell ⟨gb140, 4, none⟩ (.slice Ao45 t158.length co45)).setCell ⟨gb140, 5, none⟩ (.slice Ao46 t161.length co46)).setCell ⟨gb140, 6, none⟩ (.slice Ao47 t164.length co47)).setCell ⟨gb140, 7, none⟩ (.bool t167))) ?hg ?ho ?hn ?hr ?_; (case ho => rfl); (case hg => rfl); (case hn => rfl); (case hr => first | (go_simp; done) | (go_simp; rfl)); intro w48 hw; have n0_ : Aside0 (Kd.N k31 31 w48 w.heap.size (fun k_ => (P0_ k_ ∨ w.heap.size ≤ k_) ∧ some k_ ≠ (.slice Ao39 y146.length co39 : Value).ownBlock ∧ some k_ ≠ (.slice Ao43 t152.length co43 : Value).ownBlock ∧ some k_ ≠ (.slice Ao44 t155.length co44 : Value).ownBlock ∧ some k_ ≠ (.slice Ao45 t158.length co45 : Value).ownBlock ∧ some k_ ≠ (.slice Ao46 t161.length co46 : Value).ownBlock ∧ some k_ ≠ (.slice Ao47 t164.length co47 : Value).ownBlock ∧ k_ ≠ gb136 ∧ k_ ≠ gb138 ∧ k_ ≠ gb140) u10 x10_2) := ⟨(by rw [hw]; exact (by (with_reducible repeat (first | apply Kd.N_alloc | apply Kd.N_drewN | apply Kd.N_drew)); exact Kd.N_mono (Kd.N_far (p := ⟨gb140, 7, none⟩) (Kd.N_far (p := ⟨gb140, 6, none⟩) (Kd.N_far (p := ⟨gb140, 5, none⟩) (Kd.N_far (p := ⟨gb140, 4, none⟩) (Kd.N_far (p := ⟨gb140, 3, none⟩) (Kd.N_far (p := ⟨gb140, 2, none⟩) (Kd.N_far (p := ⟨gb140, 1, none⟩) (Kd.N_far (p := ⟨gb140, 0, none⟩) (Kd.N_mono HO_10.out (fun k_ hk => (⟨hk, hk.1.1.1.1.1.1.2.2.2.2⟩ : _ ∧ k_ ≠ gb140))) (fun _ hk => hk.2) (.int .i64 t150)) (fun _ hk => hk.2) (.int .i64 t151)) (fun _ hk => hk.2) (.slice Ao43 t152.length co43)) (fun _ hk => hk.2) (.slice Ao44 t155.length co44)) (fun _ hk => hk.2) (.slice Ao45 t158.length co45)) (fun _ hk => hk.2) (.slice Ao46 t161.length co46)) (fun _ hk => hk.2) (.slice Ao47 t164.length co47)) (fun _ hk => hk.2) (.bool t167)) (fun _ hk => ⟨hk.1.1.1.1.1.1.1.1, ⟨hk.1.1.1.1.1.1.2, ⟨hk.1.1.1.1.1.2, ⟨hk.1.1.1.1.2, ⟨hk.1.1.1.2, ⟨hk.1.1.2, ⟨hk.1.2, ⟨hk.1.1.1.1.1.1.1.2.2.1, ⟨hk.1.1.1.1.1.1.1.2.2.2.1, hk.1.1.1.1.1.1.1.2.2.2.2⟩⟩⟩⟩⟩⟩⟩⟩⟩)))⟩; have n1_ : Aside0 (Kd.V k31 31 w48 w.heap.size (fun k_ => (P0_ k_ ∨ w.heap.size ≤ k_) ∧ some k_ ≠ (u10 : Value).ownBlock ∧ some k_ ≠ (.slice Ao39 y146.length co39 : Value).ownBlock ∧ some k_ ≠ (.slice Ao43 t152.length co43 : Value).ownBlock ∧ some k_ ≠ (.slice Ao44 t155.length co44 : Value).ownBlock ∧ some k_ ≠ (.slice Ao45 t158.length co45 : Value).ownBlock ∧ some k_ ≠ (.slice Ao46 t161.length co46 : Value).ownBlock ∧ some k_ ≠ (.slice Ao47 t164.length co47 : Value).ownBlock ∧ k_ ≠ gb136 ∧ k_ ≠ gb138 ∧ k_ ≠ gb140) (.slice (some ad139) l0.length c0) l0) := ⟨(by rw [hw]; exact (by (with_reducible repeat (first | apply Kd.V_alloc | apply Kd.V_drewN | apply Kd.V_drew)); exact Kd.V_mono (Kd.V_far (p := ⟨gb140, 7, none⟩) (Kd.V_far (p := ⟨gb140, 6, none⟩) (Kd.V_far (p := ⟨gb140, 5, none⟩) (Kd.V_far (p := ⟨gb140, 4, none⟩) (Kd.V_far (p := ⟨gb140, 3, none⟩) (Kd.V_far (p := ⟨gb140, 2, none⟩) (Kd.V_far (p := ⟨gb140, 1, none⟩) (Kd.V_far (p := ⟨gb140, 0, none⟩) (Kd.V_mono HO_41.out (fun k_ hk => (⟨hk, hk.1.1.1.1.1.1.2.2.2.2.2⟩ : _ ∧ k_ ≠ gb140))) (fun _ hk => hk.2) (.int .i64 t150)) (fun _ hk => hk.2) (.int .i64 t151)) (fun _ hk => hk.2) (.slice Ao43 t152.length co43)) (fun _ hk => hk.2) (.slice Ao44 t155.length co44)) (fun _ hk => hk.2) (.slice Ao45 t158.length co45)) (fun _ hk => hk.2) (.slice Ao46 t161.length co46)) (fun _ hk => hk.2) (.slice Ao47 t164.length co47)) (fun _ hk => hk.2) (.bool t167)) (fun _ hk => ⟨hk.1.1.1.1.1.1.1.1, ⟨hk.1.1.1.1.1.1.1.2.1, ⟨hk.1.1.1.1.1.1.2, ⟨hk.1.1.1.1.1.2, ⟨hk.1.1.1.1.2, ⟨hk.1.1.1.2, ⟨hk.1.1.2, ⟨hk.1.2, ⟨hk.1.1.1.1.1.1.1.2.2.2.1, ⟨hk.1.1.1.1.1.1.1.2.2.2.2.1, hk.1.1.1.1.1.1.1.2.2.2.2.2⟩⟩⟩⟩⟩⟩⟩⟩⟩⟩)))⟩; have n2_ : Aside0 (Kd.V (Kd.int .u8) 5 w48 w.heap.size (fun k_ => (P0_ k_ ∨ w.heap.size ≤ k_) ∧ some k_ ≠ (u10 : Value).ownBlock ∧ some k_ ≠ (.slice Ao39 y146.length co39 : Value).ownBlock ∧ some k_ ≠ (.slice Ao43 t152.length co43 : Value).ownBlock ∧ some k_ ≠ (.slice Ao44 t155.length co44 : Value).ownBlock ∧ some k_ ≠ (.slice Ao45 t158.length co45 : Value).ownBlock ∧ some k_ ≠ (.slice Ao46 t161.length co46 : Value).ownBlock ∧ some k_ ≠ (.slice Ao47 t164.length co47 : Value).ownBlock ∧ k_ ≠ gb136 ∧ k_ ≠ gb138 ∧ k_ ≠ gb140) (.slice A139_2 ((rd_T31 l0 x43_2).f2).length c139_2) ((rd_T31 l0 x43_2).f2)) := ⟨(by rw [hw]; exact (by (with_reducible repeat (first | apply Kd.V_alloc | apply Kd.V_drewN | apply Kd.V_drew)); exact Kd.V_mono (Kd.V_far (p := ⟨gb140, 7, none⟩) (Kd.V_far (p := ⟨gb140, 6, none⟩) (Kd.V_far (p := ⟨gb140, 5, none⟩) (Kd.V_far (p := ⟨gb140, 4, none⟩) (Kd.V_far (p := ⟨gb140, 3, none⟩) (Kd.V_far (p := ⟨gb140, 2, none⟩) (Kd.V_far (p := ⟨gb140, 1, none⟩) (Kd.V_far (p := ⟨gb140, 0, none⟩) (Kd.V_mono HL139_2.out (fun k_ hk => (⟨hk, hk.1.1.1.1.1.1.2.2.2.2.2⟩ : _ ∧ k_ ≠ gb140))) (fun _ hk => hk.2) (.int .i64 t150)) (fun _ hk => hk.2) (.int .i64 t151)) (fun _ hk => hk.2) (.slice Ao43 t152.length co43)) (fun _ hk => hk.2) (.slice Ao44 t155.length co44)) (fun _ hk => hk.2) (.slice Ao45 t158.length co45)) (fun _ hk => hk.2) (.slice Ao46 t161.length co46)) (fun _ hk => hk.2) (.slice Ao47 t164.length co47)) (fun _ hk => hk.2) (.bool t167)) (fun _ hk => ⟨hk.1.1.1.1.1.1.1.1, ⟨hk.1.1.1.1.1.1.1.2.1, ⟨hk.1.1.1.1.1.1.2, ⟨hk.1.1.1.1.1.2, ⟨hk.1.1.1.1.2, ⟨hk.1.1.1.2, ⟨hk.1.1.2, ⟨hk.1.2, ⟨hk.1.1.1.1.1.1.1.2.2.2.1, ⟨hk.1.1.1.1.1.1.1.2.2.2.2.1, hk.1.1.1.1.1.1.1.2.2.2.2.2⟩⟩⟩⟩⟩⟩⟩⟩⟩⟩)))⟩; have n3_ : Aside0 (Kd.V (Kd.int .i64) 3 w48 w.heap.size (fun k_ => (P0_ k_ ∨ w.heap.size ≤ k_) ∧ some k_ ≠ (u10 : Value).ownBlock ∧ some k_ ≠ (.slice Ao39 y146.length co39 : Value).ownBlock ∧ some k_ ≠ (.slice Ao43 t152.length co43 : Value).ownBlock ∧ some k_ ≠ (.slice Ao44 t155.length co44 : Value).ownBlock ∧ some k_ ≠ (.slice Ao45 t158.length co45 : Value).ownBlock ∧ some k_ ≠ (.slice Ao46 t161.length co46 : Value).ownBlock ∧ some k_ ≠ (.slice Ao47 t164.length co47 : Value).ownBlock ∧ k_ ≠ gb136 ∧ k_ ≠ gb138 ∧ k_ ≠ gb140) (.slice A139_3 ((rd_T31 l0 x43_2).f3).length c139_3) ((rd_T31 l0 x43_2).f3)) := ⟨(by rw [hw]; exact (by (with_reducible repeat (first | apply Kd.V_alloc | apply Kd.V_drewN | apply Kd.V_drew)); exact Kd.V_mono (Kd.V_far (p := ⟨gb140, 7, none⟩) (Kd.V_far (p := ⟨gb140, 6, none⟩) (Kd.V_far (p := ⟨gb140, 5, none⟩) (Kd.V_far (p := ⟨gb140, 4, none⟩) (Kd.V_far (p := ⟨gb140, 3, none⟩) (Kd.V_far (p := ⟨gb140, 2, none⟩) (Kd.V_far (p := ⟨gb140, 1, none⟩) (Kd.V_far (p := ⟨gb140, 0, none⟩) (Kd.V_mono HL139_3.out (fun k_ hk => (⟨hk, hk.1.1.1.1.1.1.2.2.2.2.2⟩ : _ ∧ k_ ≠ gb140))) (fun _ hk => hk.2) (.int .i64 t150)) (fun _ hk => hk.2) (.int .i64 t151)) (fun _ hk => hk.2) (.slice Ao43 t152.length co43)) (fun _ hk => hk.2) (.slice Ao44 t155.length co44)) (fun _ hk => hk.2) (.slice Ao45 t158.length co45)) (fun _ hk => hk.2) (.slice Ao46 t161.length co46)) (fun _ hk => hk.2) (.slice Ao47 t164.length co47)) (fun _ hk => hk.2) (.bool t167)) (fun _ hk => ⟨hk.1.1.1.1.1.1.1.1, ⟨hk.1.1.1.1.1.1.1.2.1, ⟨hk.1.1.1.1.1.1.2, ⟨hk.1.1.1.1.1.2, ⟨hk.1.1.1.1.2, ⟨hk.1.1.1.2, ⟨hk.1.1.2, ⟨hk.1.2, ⟨hk.1.1.1.1.1.1.1.2.2.2.1, ⟨hk.1.1.1.1.1.1.1.2.2.2.2.1, hk.1.1.1.1.1.1.1.2.2.2.2.2⟩⟩⟩⟩⟩⟩⟩⟩⟩⟩)))⟩; have n4_ : Aside0 (Kd.V k101 101 w48 w.heap.size (fun k_ => (P0_ k_ ∨ w.heap.size ≤ k_) ∧ some k_ ≠ (u10 : Value).ownBlock ∧ some k_ ≠ (.slice Ao39 y146.length co39 : Value).ownBlock ∧ some k_ ≠ (.slice Ao43 t152.length co43 : Value).ownBlock ∧ some k_ ≠ (.slice Ao44 t155.length co44 : Value).ownBlock ∧ some k_ ≠ (.slice Ao45 t158.length co45 : Value).ownBlock ∧ some k_ ≠ (.slice Ao46 t161.length co46 : Value).ownBlock ∧ some k_ ≠ (.slice Ao47 t164.length co47 : Value).ownBlock ∧ k_ ≠ gb136 ∧ k_ ≠ gb138 ∧ k_ ≠ gb140) (.slice A139_4 ((rd_T31 l0 x43_2).f4).length c139_4) ((rd_T31 l0 x43_2).f4)) := ⟨(by rw [hw]; exact (by (with_reducible repeat (first | apply Kd.V_alloc | apply Kd.V_drewN | apply Kd.V_drew)); exact Kd.V_mono (Kd.V_far (p := ⟨gb140, 7, none⟩) (Kd.V_far (p := ⟨gb140, 6, none⟩) (Kd.V_far (p := ⟨gb140, 5, none⟩) (Kd.V_far (p := ⟨gb140, 4, none⟩) (Kd.V_far (p := ⟨gb140, 3, none⟩) (Kd.V_far (p := ⟨gb140, 2, none⟩) (Kd.V_far (p := ⟨gb140, 1, none⟩) (Kd.V_far (p := ⟨gb140, 0, none⟩) (Kd.V_mono HL139_4.out (fun k_ hk => (⟨hk, hk.1.1.1.1.1.1.2.2.2.2.2⟩ : _ ∧ k_ ≠ gb140))) (fun _ hk => hk.2) (.int .i64 t150)) (fun _ hk => hk.2) (.int .i64 t151)) (fun _ hk => hk.2) (.slice Ao43 t152.length co43)) (fun _ hk => hk.2) (.slice Ao44 t155.length co44)) (fun _ hk => hk.2) (.slice Ao45 t158.length co45)) (fun _ hk => hk.2) (.slice Ao46 t161.length co46)) (fun _ hk => hk.2) (.slice Ao47 t164.length co47)) (fun _ hk => hk.2) (.bool t167)) (fun _ hk => ⟨hk.1.1.1.1.1.1.1.1, ⟨hk.1.1.1.1.1.1.1.2.1, ⟨hk.1.1.1.1.1.1.2, ⟨hk.1.1.1.1.1.2, ⟨hk.1.1.1.1.2, ⟨hk.1.1.1.2, ⟨hk.1.1.2, ⟨hk.1.2, ⟨hk.1.1.1.1.1.1.1.2.2.2.1, ⟨hk.1.1.1.1.1.1.1.2.2.2.2.1, hk.1.1.1.1.1.1.1.2.2.2.2.2⟩⟩⟩⟩⟩⟩⟩⟩⟩⟩)))⟩; have n5_ : Aside0 (Kd.V k79 79 w48 w.heap.size (fun k_ => (P0_ k_ ∨ w.heap.size ≤ k_) ∧ some k_ ≠ (u10 : Value).ownBlock ∧ some k_ ≠ (.slice Ao39 y146.length co39 : Value).ownBlock ∧ some k_ ≠ (.slice Ao43 t152.length co43 : Value).ownBlock ∧ some k_ ≠ (.slice Ao44 t155.length co44 : Value).ownBlock ∧ some k_ ≠ (.slice Ao45 t158.length co45 : Value).ownBlock ∧ some k_ ≠ (.slice Ao46 t161.length co46 : Value).ownBlock ∧ some k_ ≠ (.slice Ao47 t164.length co47 : Value).ownBlock ∧ k_ ≠ gb136 ∧ k_ ≠ gb138 ∧ k_ ≠ gb140) (.slice A139_5 ((rd_T31 l0 x43_2).f5).length c139_5) ((rd_T31 l0 x43_2).f5)) := ⟨(by rw [hw]; exact (by (with_reducible repeat (first | apply Kd.V_alloc | apply Kd.V_drewN | apply Kd.V_drew)); exact Kd.V_mono (Kd.V_far (p := ⟨gb140, 7, none⟩) (Kd.V_far (p := ⟨gb140, 6, none⟩) (Kd.V_far (p := ⟨gb140, 5, none⟩) (Kd.V_far (p := ⟨gb140, 4, none⟩) (Kd.V_far (p := ⟨gb140, 3, none⟩) (Kd.V_far (p := ⟨gb140, 2, none⟩) (Kd.V_far (p := ⟨gb140, 1, none⟩) (Kd.V_far (p := ⟨gb140, 0, none⟩) (Kd.V_mono HL139_5.out (fun k_ hk => (⟨hk, hk.1.1.1.1.1.1.2.2.2.2.2⟩ : _ ∧ k_ ≠ gb140))) (fun _ hk => hk.2) (.int .i64 t150)) (fun _ hk => hk.2) (.int .i64 t151)) (fun _ hk => hk.2) (.slice Ao43 t152.length co43)) (fun _ hk => hk.2) (.slice Ao44 t155.length co44)) (fun _ hk => hk.2) (.slice Ao45 t158.length co45)) (fun _ hk => hk.2) (.slice Ao46 t161.length co46)) (fun _ hk => hk.2) (.slice Ao47 t164.length co47)) (fun _ hk => hk.2) (.bool t167)) (fun _ hk => ⟨hk.1.1.1.1.1.1.1.1, ⟨hk.1.1.1.1.1.1.1.2.1, ⟨hk.1.1.1.1.1.1.2, ⟨hk.1.1.1.1.1.2, ⟨hk.1.1.1.1.2, ⟨hk.1.1.1.2, ⟨hk.1.1.2, ⟨hk.1.2, ⟨hk.1.1.1.1.1.1.1.2.2.2.1, ⟨hk.1.1.1.1.1.1.1.2.2.2.2.1, hk.1.1.1.1.1.1.1.2.2.2.2.2⟩⟩⟩⟩⟩⟩⟩⟩⟩⟩)))⟩; have n6_ : Aside0 (Kd.V (Kd.int .i64) 3 w48 w.heap.size (fun k_ => (P0_ k_ ∨ w.heap.size ≤ k_) ∧ some k_ ≠ (u10 : Value).ownBlock ∧ some k_ ≠ (.slice Ao39 y146.length co39 : Value).ownBlock ∧ some k_ ≠ (.slice Ao43 t152.length co43 : Value).ownBlock ∧ some k_ ≠ (.slice Ao44 t155.length co44 : Value).ownBlock ∧ some k_ ≠ (.slice Ao45 t158.length co45 : Value).ownBlock ∧ some k_ ≠ (.slice Ao46 t161.length co46 : Value).ownBlock ∧ some k_ ≠ (.slice Ao47 t164.length co47 : Value).ownBlock ∧ k_ ≠ gb136 ∧ k_ ≠ gb138 ∧ k_ ≠ gb140) (.slice A139_6 ((rd_T31 l0 x43_2).f6).length c139_6) ((rd_T31 l0 x43_2).f6)) := ⟨(by rw [hw]; exact (by (with_reducible repeat (first | apply Kd.V_alloc | apply Kd.V_drewN | apply Kd.V_drew)); exact Kd.V_mono (Kd.V_far (p := ⟨gb140, 7, none⟩) (Kd.V_far (p := ⟨gb140, 6, none⟩) (Kd.V_far (p := ⟨gb140, 5, none⟩) (Kd.V_far (p := ⟨gb140, 4, none⟩) (Kd.V_far (p := ⟨gb140, 3, none⟩) (Kd.V_far (p := ⟨gb140, 2, none⟩) (Kd.V_far (p := ⟨gb140, 1, none⟩) (Kd.V_far (p := ⟨gb140, 0, none⟩) (Kd.V_mono HL139_6.out (fun k_ hk => (⟨hk, hk.1.1.1.1.1.1.2.2.2.2.2⟩ : _ ∧ k_ ≠ gb140))) (fun _ hk => hk.2) (.int .i64 t150)) (fun _ hk => hk.2) (.int .i64 t151)) (fun _ hk => hk.2) (.slice Ao43 t152.length co43)) (fun _ hk => hk.2) (.slice Ao44 t155.length co44)) (fun _ hk => hk.2) (.slice Ao45 t158.length co45)) (fun _ hk => hk.2) (.slice Ao46 t161.length co46)) (fun _ hk => hk.2) (.slice Ao47 t164.length co47)) (fun _ hk => hk.2) (.bool t167)) (fun _ hk => ⟨hk.1.1.1.1.1.1.1.1, ⟨hk.1.1.1.1.1.1.1.2.1, ⟨hk.1.1.1.1.1.1.2, ⟨hk.1.1.1.1.1.2, ⟨hk.1.1.1.1.2, ⟨hk.1.1.1.2, ⟨hk.1.1.2, ⟨hk.1.2, ⟨hk.1.1.1.1.1.1.1.2.2.2.1, ⟨hk.1.1.1.1.1.1.1.2.2.2.2.1, hk.1.1.1.1.1.1.1.2.2.2.2.2⟩⟩⟩⟩⟩⟩⟩⟩⟩⟩)))⟩; have n7_ : Aside0 (Kd.N k79 79 w48 w.heap.size (fun k_ => (P0_ k_ ∨ w.heap.size ≤ k_) ∧ some k_ ≠ (u10 : Value).ownBlock ∧ some k_ ≠ (.slice Ao43 t152.length co43 : Value).ownBlock ∧ some k_ ≠ (.slice Ao44 t155.length co44 : Value).ownBlock ∧ some k_ ≠ (.slice Ao45 t158.length co45 : Value).ownBlock ∧ some k_ ≠ (.slice Ao46 t161.length co46 : Value).ownBlock ∧ some k_ ≠ (.slice Ao47 t164.length co47 : Value).ownBlock ∧ k_ ≠ gb136 ∧ k_ ≠ gb138 ∧ k_ ≠ gb140) (.slice Ao39 y146.length co39) y146) := ⟨(by rw [hw]; exact (by (with_reducible repeat (first | apply Kd.N_alloc | apply Kd.N_drewN | apply Kd.N_drew)); exact Kd.N_mono (Kd.N_far (p := ⟨gb140, 7, none⟩) (Kd.N_far (p := ⟨gb140, 6, none⟩) (Kd.N_far (p := ⟨gb140, 5, none⟩) (Kd.N_far (p := ⟨gb140, 4, none⟩) (Kd.N_far (p := ⟨gb140, 3, none⟩) (Kd.N_far (p := ⟨gb140, 2, none⟩) (Kd.N_far (p := ⟨gb140, 1, none⟩) (Kd.N_far (p := ⟨gb140, 0, none⟩) (Kd.N_mono HO148.out (fun k_ hk => (⟨hk, hk.1.1.1.1.1.2.2.2.2⟩ : _ ∧ k_ ≠ gb140))) (fun _ hk => hk.2) (.int .i64 t150)) (fun _ hk => hk.2) (.int .i64 t151)) (fun _ hk => hk.2) (.slice Ao43 t152.length co43)) (fun _ hk => hk.2) (.slice Ao44 t155.length co44)) (fun _ hk => hk.2) (.slice Ao45 t158.length co45)) (fun _ hk => hk.2) (.slice Ao46 t161.length co46)) (fun _ hk => hk.2) (.slice Ao47 t164.length co47)) (fun _ hk => hk.2) (.bool t167)) (fun _ hk => ⟨hk.1.1.1.1.1.1.1, ⟨hk.1.1.1.1.1.1.2.1, ⟨hk.1.1.1.1.1.2, ⟨hk.1.1.1.1.2, ⟨hk.1.1.1.2, ⟨hk.1.1.2, ⟨hk.1.2, ⟨hk.1.1.1.1.1.1.2.2.1, ⟨hk.1.1.1.1.1.1.2.2.2.1, hk.1.1.1.1.1.1.2.2.2.2⟩⟩⟩⟩⟩⟩⟩⟩⟩)))⟩; have n8_ : Aside0 (Kd.R (Kd.int .u8) 5 w48 w.heap.size (fun k_ => (w.heap.size ≤ k_)) (.slice Ao43 t152.length co43) t152) := ⟨(by rw [hw]; exact (by (with_reducible repeat (first | apply Kd.R_alloc | apply Kd.R_drewN | apply Kd.R_drew)); exact Kd.R_mono (Kd.R_far (p := ⟨gb140, 7, none⟩) (Kd.R_far (p := ⟨gb140, 6, none⟩) (Kd.R_far (p := ⟨gb140, 5, none⟩) (Kd.R_far (p := ⟨gb140, 4, none⟩) (Kd.R_far (p := ⟨gb140, 3, none⟩) (Kd.R_far (p := ⟨gb140, 2, none⟩) (Kd.R_far (p := ⟨gb140, 1, none⟩) (Kd.R_far (p := ⟨gb140, 0, none⟩) (Kd.R_types HO154.out BK140.out (by decide)) (fun _ hk => hk.2) (.int .i64 t150)) (fun _ hk => hk.2) (.int .i64 t151)) (fun _ hk => hk.2) (.slice Ao43 t152.length co43)) (fun _ hk => hk.2) (.slice Ao44 t155.length co44)) (fun _ hk => hk.2) (.slice Ao45 t158.length co45)) (fun _ hk => hk.2) (.slice Ao46 t161.length co46)) (fun _ hk => hk.2) (.slice Ao47 t164.length co47)) (fun _ hk => hk.2) (.bool t167)) (fun _ hk => hk.1.1)))⟩; have n9_ : Aside0 (Kd.R (Kd.int .i64) 3 w48 w.heap.size (fun k_ => (w.heap.size ≤ k_) ∧ some k_ ≠ (.slice Ao47 t164.length co47 : Value).ownBlock) (.slice Ao44 t155.length co44) t155) := ⟨(by rw [hw]; exact (by (with_reducible repeat (first | apply Kd.R_alloc | apply Kd.R_drewN | apply Kd.R_drew)); exact Kd.R_mono (Kd.R_far (p := ⟨gb140, 7, none⟩) (Kd.R_far (p := ⟨gb140, 6, none⟩) (Kd.R_far (p := ⟨gb140, 5, none⟩) (Kd.R_far (p := ⟨gb140, 4, none⟩) (Kd.R_far (p := ⟨gb140, 3, none⟩) (Kd.R_far (p := ⟨gb140, 2, none⟩) (Kd.R_far (p := ⟨gb140, 1, none⟩) (Kd.R_far (p := ⟨gb140, 0, none⟩) (Kd.R_types HO157.out BK140.out (by decide)) (fun _ hk => hk.2) (.int .i64 t150)) (fun _ hk => hk.2) (.int .i64 t151)) (fun _ hk => hk.2) (.slice Ao43 t152.length co43)) (fun _ hk => hk.2) (.slice Ao44 t155.length co44)) (fun _ hk => hk.2) (.slice Ao45 t158.length co45)) (fun _ hk => hk.2) (.slice Ao46 t161.length co46)) (fun _ hk => hk.2) (.slice Ao47 t164.length co47)) (fun _ hk => hk.2) (.bool t167)) (fun _ hk => ⟨hk.1.1, hk.1.2⟩)))⟩; have n10_ : Aside0 (Kd.N k101 101 w48 w.heap.size (fun k_ => (P0_ k_ ∨ w.heap.size ≤ k_) ∧ some k_ ≠ (u10 : Value).ownBlock ∧ some k_ ≠ (.slice Ao39 y146.length co39 : Value).ownBlock ∧ some k_ ≠ (.slice Ao43 t152.length co43 : Value).ownBlock ∧ some k_ ≠ (.slice Ao44 t155.length co44 : Value).ownBlock ∧ some k_ ≠ (.slice Ao46 t161.length co46 : Value).ownBlock ∧ some k_ ≠ (.slice Ao47 t164.length co47 : Value).ownBlock ∧ k_ ≠ gb136 ∧ k_ ≠ gb138 ∧ k_ ≠ gb140) (.slice Ao45 t158.length co45) t158) := ⟨(by rw [hw]; exact (by (with_reducible repeat (first | apply Kd.N_alloc | apply Kd.N_drewN | apply Kd.N_drew)); exact Kd.N_mono (Kd.N_far (p := ⟨gb140, 7, none⟩) (Kd.N_far (p := ⟨gb140, 6, none⟩) (Kd.N_far (p := ⟨gb140, 5, none⟩) (Kd.N_far (p := ⟨gb140, 4, none⟩) (Kd.N_far (p := ⟨gb140, 3, none⟩) (Kd.N_far (p := ⟨gb140, 2, none⟩) (Kd.N_far (p := ⟨gb140, 1, none⟩) (Kd.N_far (p := ⟨gb140, 0, none⟩) (Kd.N_mono HO160.out (fun k_ hk => (⟨hk, hk.2.2.2.2.2.2.2.2.2⟩ : _ ∧ k_ ≠ gb140))) (fun _ hk => hk.2) (.int .i64 t150)) (fun _ hk => hk.2) (.int .i64 t151)) (fun _ hk => hk.2) (.slice Ao43 t152.length co43)) (fun _ hk => hk.2) (.slice Ao44 t155.length co44)) (fun _ hk => hk.2) (.slice Ao45 t158.length co45)) (fun _ hk => hk.2) (.slice Ao46 t161.length co46)) (fun _ hk => hk.2) (.slice Ao47 t164.length co47)) (fun _ hk => hk.2) (.bool t167)) (fun _ hk => ⟨hk.1.1, ⟨hk.1.2.2.2.2.2.1, ⟨hk.1.2.2.2.2.2.2.1, ⟨hk.1.2.1, ⟨hk.1.2.2.1, ⟨hk.1.2.2.2.1, ⟨hk.1.2.2.2.2.1, ⟨hk.1.2.2.2.2.2.2.2.1, ⟨hk.1.2.2.2.2.2.2.2.2.1, hk.1.2.2.2.2.2.2.2.2.2⟩⟩⟩⟩⟩⟩⟩⟩⟩)))⟩; have n11_ : Aside0 (Kd.N k79 79 w48 w.heap.size (fun k_ => (P0_ k_ ∨ w.heap.size ≤ k_) ∧ some k_ ≠ (u10 : Value).ownBlock ∧ some k_ ≠ (.slice Ao39 y146.length co39 : Value).ownBlock ∧ some k_ ≠ (.slice Ao43 t152.length co43 : Value).ownBlock ∧ some k_ ≠ (.slice Ao44 t155.length co44 : Value).ownBlock ∧ some k_ ≠ (.slice Ao45 t158.length co45 : Value).ownBlock ∧ some k_ ≠ (.slice Ao47 t164.length co47 : Value).ownBlock ∧ k_ ≠ gb136 ∧ k_ ≠ gb138 ∧ k_ ≠ gb140) (.slice Ao46 t161.length co46) t161) := ⟨(by rw [hw]; exact (by (with_reducible repeat (first | apply Kd.N_alloc | apply Kd.N_drewN | apply Kd.N_drew)); exact Kd.N_mono (Kd.N_far (p := ⟨gb140, 7, none⟩) (Kd.N_far (p := ⟨gb140, 6, none⟩) (Kd.N_far (p := ⟨gb140, 5, none⟩) (Kd.N_far (p := ⟨gb140, 4, none⟩) (Kd.N_far (p := ⟨gb140, 3, none⟩) (Kd.N_far (p := ⟨gb140, 2, none⟩) (Kd.N_far (p := ⟨gb140, 1, none⟩) (Kd.N_far (p := ⟨gb140, 0, none⟩) (Kd.N_mono HO163.out (fun k_ hk => (⟨hk, hk.2.2.2.2.2.2.2.2.2⟩ : _ ∧ k_ ≠ gb140))) (fun _ hk => hk.2) (.int .i64 t150)) (fun _ hk => hk.2) (.int .i64 t151)) (fun _ hk => hk.2) (.slice Ao43 t152.length co43)) (fun _ hk => hk.2) (.slice Ao44 t155.length co44)) (fun _ hk => hk.2) (.slice Ao45 t158.length co45)) (fun _ hk => hk.2) (.slice Ao46 t161.length co46)) (fun _ hk => hk.2) (.slice Ao47 t164.length co47)) (fun _ hk => hk.2) (.bool t167)) (fun _ hk => ⟨hk.1.1, ⟨hk.1.2.2.2.2.2.1, ⟨hk.1.2.2.2.2.2.2.1, ⟨hk.1.2.1, ⟨hk.1.2.2.1, ⟨hk.1.2.2.2.1, ⟨hk.1.2.2.2.2.1, ⟨hk.1.2.2.2.2.2.2.2.1, ⟨hk.1.2.2.2.2.2.2.2.2.1, hk.1.2.2.2.2.2.2.2.2.2⟩⟩⟩⟩⟩⟩⟩⟩⟩)))⟩; have n12_ : Aside0 (Kd.R (Kd.int .i64) 3 w48 w.heap.size (fun k_ => (w.heap.size ≤ k_) ∧ some k_ ≠ (.slice Ao44 t155.length co44 : Value).ownBlock) (.slice Ao47 t164.length co47) t164) := ⟨(by rw [hw]; exact (by (with_reducible repeat (first | apply Kd.R_alloc | apply Kd.R_drewN | apply Kd.R_drew)); exact Kd.R_mono (Kd.R_far (p := ⟨gb140, 7, none⟩) (Kd.R_far (p := ⟨gb140, 6, none⟩) (Kd.R_far (p := ⟨gb140, 5, none⟩) (Kd.R_far (p := ⟨gb140, 4, none⟩) (Kd.R_far (p := ⟨gb140, 3, none⟩) (Kd.R_far (p := ⟨gb140, 2, none⟩) (Kd.R_far (p := ⟨gb140, 1, none⟩) (Kd.R_far (p := ⟨gb140, 0, none⟩) (Kd.R_types HO166.out BK140.out (by decide)) (fun _ hk => hk.2) (.int .i64 t150)) (fun _ hk => hk.2) (.int .i64 t151)) (fun _ hk => hk.2) (.slice Ao43 t152.length co43)) (fun _ hk => hk.2) (.slice Ao44 t155.length co44)) (fun _ hk => hk.2) (.slice Ao45 t158.length co45)) (fun _ hk => hk.2) (.slice Ao46 t161.length co46)) (fun _ hk => hk.2) (.slice Ao47 t164.length co47)) (fun _ hk => hk.2) (.bool t167)) (fun _ hk => ⟨hk.1.1, hk.1.2⟩)))⟩; have n13_ : Aside0 (w48.heap[gb136]? = some (.cells #[.int .i64 0, .int .i64 0, .slice none 0 0, .slice none 0 0, .slice none 0 0, .slice none 0 0, .slice none 0 0, .bool false] 31 (0, 0))) := ⟨(by rw [hw]; exact (bf1_ BK136.out NB136_140.out))⟩; have n14_ : Aside0 (w48.heap[gb138]? = some (.cells #[.int .i64 x139000_2, .int .i64 x139001_2, .slice none 0 0, .slice none 0 0, .slice none 0 0, .slice Ao39 y146.length co39, .slice none 0 0, .bool false] 31 (0, 0))) := ⟨(by rw [hw]; exact (bf1_ BK138.out NB138_140.out))⟩; have n15_ : Aside0 (w48.heap[gb140]? = some (.cells #[.int .i64 t150, .int .i64 t151, .slice Ao43 t152.length co43, .slice Ao44 t155.length co44, .slice Ao45 t158.length co45, .slice Ao46 t161.length co46, .slice Ao47 t164.length co47, .bool t167] 31 (0, 0))) := ⟨(by rw [hw]; exact (by (with_reducible repeat (first | refine blk_drewN ?_ _ | refine blk_drew ?_ | refine blk_alloc ?_ _)); refine blk_put (cs := #[.int .i64 t150, .int .i64 t151, .slice Ao43 t152.length co43, .slice Ao44 t155.length co44, .slice Ao45 t158.length co45, .slice Ao46 t161.length co46, .slice Ao47 t164.length co47, .bool ((rd_T31 l0 x43_2).f7)]) ?_ 7 _ rfl; (with_reducible repeat (first | refine blk_drewN ?_ _ | refine blk_drew ?_ | refine blk_alloc ?_ _)); refine blk_put (cs := #[.int .i64 t150, .int .i64 t151, .slice Ao43 t152.length co43, .slice Ao44 t155.length co44, .slice Ao45 t158.length co45, .slice Ao46 t161.length co46, .slice A139_6 ((rd_T31 l0 x43_2).f6).length c139_6, .bool ((rd_T31 l0 x43_2).f7)]) ?_ 6 _ rfl; (with_reducible repeat (first | refine blk_drewN ?_ _ | refine blk_drew ?_ | refine blk_alloc ?_ _)); refine blk_put (cs := #[.int .i64 t150, .int .i64 t151, .slice Ao43 t152.length co43, .slice Ao44 t155.length co44, .slice Ao45 t158.length co45, .slice A139_5 ((rd_T31 l0 x43_2).f5).length c139_5, .slice A139_6 ((rd_T31 l0 x43_2).f6).length c139_6, .bool ((rd_T31 l0 x43_2).f7)]) ?_ 5 _ rfl; (with_reducible repeat (first | refine blk_drewN ?_ _ | refine blk_drew ?_ | refine blk_alloc ?_ _)); refine blk_put (cs := #[.int .i64 t150, .int .i64 t151, .slice Ao43 t152.length co43, .slice Ao44 t155.length co44, .slice A139_4 ((rd_T31 l0 x43_2).f4).length c139_4, .slice A139_5 ((rd_T31 l0 x43_2).f5).length c139_5, .slice A139_6 ((rd_T31 l0 x43_2).f6).length c139_6, .bool ((rd_T31 l0 x43_2).f7)]) ?_ 4 _ rfl; (with_reducible repeat (first | refine blk_drewN ?_ _ | refine blk_drew ?_ | refine blk_alloc ?_ _)); refine blk_put (cs := #[.int .i64 t150, .int .i64 t151, .slice Ao43 t152.length co43, .slice A139_3 ((rd_T31 l0 x43_2).f3).length c139_3, .slice A139_4 ((rd_T31 l0 x43_2).f4).length c139_4, .slice A139_5 ((rd_T31 l0 x43_2).f5).length c139_5, .slice A139_6 ((rd_T31 l0 x43_2).f6).length c139_6, .bool ((rd_T31 l0 x43_2).f7)]) ?_ 3 _ rfl; (with_reducible repeat (first | refine blk_drewN ?_ _ | refine blk_drew ?_ | refine blk_alloc ?_ _)); refine blk_put (cs := #[.int .i64 t150, .int .i64 t151, .slice A139_2 ((rd_T31 l0 x43_2).f2).length c139_2, .slice A139_3 ((rd_T31 l0 x43_2).f3).length c139_3, .slice A139_4 ((rd_T31 l0 x43_2).f4).length c139_4, .slice A139_5 ((rd_T31 l0 x43_2).f5).length c139_5, .slice A139_6 ((rd_T31 l0 x43_2).f6).length c139_6, .bool ((rd_T31 l0 x43_2).f7)]) ?_ 2 _ rfl; (with_reducible repeat (first | refine blk_drewN ?_ _ | refine blk_drew ?_ | refine blk_alloc ?_ _)); refine blk_put (cs := #[.int .i64 t150, .int .i64 ((rd_T31 l0 x43_2).f1), .slice A139_2 ((rd_T31 l0 x43_2).f2).length c139_2, .slice A139_3 ((rd_T31 l0 x43_2).f3).length c139_3, .slice A139_4 ((rd_T31 l0 x43_2).f4).length c139_4, .slice A139_5 ((rd_T31 l0 x43_2).f5).length c139_5, .slice A139_6 ((rd_T31 l0 x43_2).f6).length c139_6, .bool ((rd_T31 l0 x43_2).f7)]) ?_ 1 _ rfl; (with_reducible repeat (first | refine blk_drewN ?_ _ | refine blk_drew ?_ | refine blk_alloc ?_ _)); refine blk_put (cs := #[.int .i64 ((rd_T31 l0 x43_2).f0), .int .i64 ((rd_T31 l0 x43_2).f1), .slice A139_2 ((rd_T31 l0 x43_2).f2).length c139_2, .slice A139_3 ((rd_T31 l0 x43_2).f3).length c139_3, .slice A139_4 ((rd_T31 l0 x43_2).f4).length c139_4, .slice A139_5 ((rd_T31 l0 x43_2).f5).length c139_5, .slice A139_6 ((rd_T31 l0 x43_2).f6).length c139_6, .bool ((rd_T31 l0 x43_2).f7)]) ?_ 0 _ rfl; (with_reducible repeat (first | refine blk_drewN ?_ _ | refine blk_drew ?_ | refine blk_alloc ?_ _)); exact BK140.out))⟩; have n16_ : Aside0 (Below w.heap.size w w48) := ⟨(by rw [hw]; exact (hb3_ HB.out GE136.out GE138.out GE140.out))⟩; clear hw HO_10 HO_41 HL139_2 HL139_3 HL139_4 HL139_5 HL139_6 HO148 HO154 HO157 HO160 HO163 HO166 BK136 BK138 BK140 HB; have HO_10 := n0_; have HO_41 := n1_; have HL139_2 := n2_; have HL139_3 := n3_; have HL139_4 := n4_; have HL139_5 := n5_; have HL139_6 := n6_; have HO148 := n7_; have HO154 := n8_; have HO157 := n9_; have HO160 := n10_; have HO163 := n11_; have HO166 := n12_; have BK136 := n13_; have BK138 := n14_; have BK140 := n15_; have HB := n16_; clear n0_ n1_ n2_ n3_ n4_ n5_ n6_ n7_ n8_ n9_ n10_ n11_ n12_ n13_ n14_ n15_ n16_; have hcz49_0 : w48.cell? ⟨gb140, 0, none⟩ = some (.int .i64 t150) := (blk_cell BK140.out 0).trans rfl; have hcz49_1 : w48.cell? ⟨gb140, 1, none⟩ = some (.int .i64 t151) := (blk_cell BK140.out 1).trans rfl; have hcz49_2 : w48.cell? ⟨gb140, 2, none⟩ = some (.slice Ao43 t152.length co43) := (blk_cell BK140.out 2).trans rfl; have hcz49_3 : w48.cell? ⟨gb140, 3, none⟩ = some (.slice Ao44 t155.length co44) := (blk_cell BK140.out 3).trans rfl; have hcz49_4 : w48.cell? ⟨gb140, 4, none⟩ = some (.slice Ao45 t158.length co45) := (blk_cell BK140.out 4).trans rfl; have hcz49_5 : w48.cell? ⟨gb140, 5, none⟩ = some (.slice Ao46 t161.length co46) := (blk_cell BK140.out 5).trans rfl; have hcz49_6 : w48.cell? ⟨gb140, 6, none⟩ = some (.slice Ao47 t164.length co47) := (blk_cell BK140.out 6).trans rfl; have hcz49_7 : w48.cell? ⟨gb140, 7, none⟩ = some (.bool t167) := (blk_cell BK140.out 7).trans rfl; have hfz49_0 := blk_frozen BK140.out 0; have hfz49_1 := blk_frozen BK140.out 1; have hfz49_2 := blk_frozen BK140.out 2; have hfz49_3 := blk_frozen BK140.out 3; have hfz49_4 := blk_frozen BK140.out 4; have hfz49_5 := blk_frozen BK140.out 5; have hfz49_6 := blk_frozen BK140.out 6; have hfz49_7 := blk_frozen BK140.out 7) | ((with_reducible refine gate_builtin (b := .append) (xs := #[.tmp 72, .tmp 74]) rfl ?_); (try (refine gate_guard (by rfl) ?_; dsimp only)); at_builtin; refine Kd.N_append k31 (w0 := w) w.heap.size rfl (.tmp 72) (.tmp 74) 22 31 (.agg #[(.int .i64 0), (.int .i64 0), (.slice none 0 0), (.slice none 0 0), (.slice none 0 0), (.slice none 0 0), (.slice none 0 0), (.bool false)]) 144 rfl Try.underlying22 info31 rfl (by decide) (by omega) u10 x10_2 (⟨t150, t151, t152, t155, t158, t161, t164, t167⟩ : S31) [.int .i64 t150, .int .i64 t151, .slice Ao43 t152.length co43, .slice Ao44 t155.length co44, .slice Ao45 t158.length co45, .slice Ao46 t161.length co46, .slice Ao47 t164.length co47, .bool t167] (fun k_ => (P0_ k_ ∨ w.heap.size ≤ k_) ∧ some k_ ≠ (.slice Ao39 y146.length co39 : Value).ownBlock ∧ k_ ≠ gb136 ∧ k_ ≠ gb138 ∧ k_ ≠ gb140) (fun k_ => ((fun k_ => (P0_ k_ ∨ w.heap.size ≤ k_) ∧ some k_ ≠ (.slice Ao39 y146.length co39 : Value).ownBlock ∧ k_ ≠ gb136 ∧ k_ ≠ gb138 ∧ k_ ≠ gb140)) k_ ∧ some k_ ≠ (u10 : Value).ownBlock) rfl rfl ?aP (fun _ hk => hk) ?aF ?aO ?aB ?aS ?aL ?_; (case aP => exact (k31_mkF _ _ (⟨t150, t151, t152, t155, t158, t161, t164, t167⟩ : S31) (Kd.R_reads' (Kd.R_mono (ok' := (fun k_ => ((fun k_ => (P0_ k_ ∨ w.heap.size ≤ k_) ∧ some k_ ≠ (.slice Ao39 y146.length co39 : Value).ownBlock ∧ k_ ≠ gb136 ∧ k_ ≠ gb138 ∧ k_ ≠ gb140)) k_ ∧ some k_ ≠ (u10 : Value).ownBlock)) (Kd.R_types (Kd.R_types (Kd.R_types (Kd.R_apart' (Kd.R_apart' (HO154.out) (Kd.N_typed HO148.out) (by decide)) (Kd.N_typed HO_10.out) (by decide)) BK136.out (by decide)) BK138.out (by decide)) BK140.out (by decide)) (fun k_ hk => ⟨⟨(.inr (hk.1.1.1.1.1)), ⟨hk.1.1.1.1.2, ⟨hk.1.1.2, ⟨hk.1.2, hk.2⟩⟩⟩⟩, hk.1.1.1.2⟩))).2.1 (Kd.R_F (Kd.R_mono (ok' := (fun k_ => ((fun k_ => (P0_ k_ ∨ w.heap.size ≤ k_) ∧ some k_ ≠ (.slice Ao39 y146.length co39 : Value).ownBlock ∧ k_ ≠ gb136 ∧ k_ ≠ gb138 ∧ k_ ≠ gb140)) k_ ∧ some k_ ≠ (u10 : Value).ownBlock)) (Kd.R_types (Kd.R_types (Kd.R_types (Kd.R_apart' (Kd.R_apart' (HO154.out) (Kd.N_typed HO148.out) (by decide)) (Kd.N_typed HO_10.out) (by decide)) BK136.out (by decide)) BK138.out (by decide)) BK140.out (by decide)) (fun k_ hk => ⟨⟨(.inr (hk.1.1.1.1.1)), ⟨hk.1.1.1.1.2, ⟨hk.1.1.2, ⟨hk.1.2, hk.2⟩⟩⟩⟩, hk.1.1.1.2⟩))) (Kd.R_reads' (Kd.R_mono (ok' := (fun k_ => ((fun k_ => (P0_ k_ ∨ w.heap.size ≤ k_) ∧ some k_ ≠ (.slice Ao39 y146.length co39 : Value).ownBlock ∧ k_ ≠ gb136 ∧ k_ ≠ gb138 ∧ k_ ≠ gb140)) k_ ∧ some k_ ≠ (u10 : Value).ownBlock)) (Kd.R_types (Kd.R_types (Kd.R_types (Kd.R_apart' (Kd.R_apart' (HO157.out) (Kd.N_typed HO148.out) (by decide)) (Kd.N_typed HO_10.out) (by decide)) BK136.out (by decide)) BK138.out (by decide)) BK140.out (by decide)) (fun k_ hk => ⟨⟨(.inr (hk.1.1.1.1.1.1)), ⟨hk.1.1.1.1.2, ⟨hk.1.1.2, ⟨hk.1.2, hk.2⟩⟩⟩⟩, hk.1.1.1.2⟩))).2.1 (Kd.R_F (Kd.R_mono (ok' := (fun k_ => ((fun k_ => (P0_ k_ ∨ w.heap.size ≤ k_) ∧ some k_ ≠ (.slice Ao39 y146.length co39 : Value).ownBlock ∧ k_ ≠ gb136 ∧ k_ ≠ gb138 ∧ k_ ≠ gb140)) k_ ∧ some k_ ≠ (u10 : Value).ownBlock)) (Kd.R_types (Kd.R_types (Kd.R_types (Kd.R_apart' (Kd.R_apart' (HO157.out) (Kd.N_typed HO148.out) (by decide)) (Kd.N_typed HO_10.out) (by decide)) BK136.out (by decide)) BK138.out (by decide)) BK140.out (by decide)) (fun k_ hk => ⟨⟨(.inr (hk.1.1.1.1.1.1)), ⟨hk.1.1.1.1.2, ⟨hk.1.1.2, ⟨hk.1.2, hk.2⟩⟩⟩⟩, hk.1.1.1.2⟩))) (Kd.N_reads' (Kd.N_mono (ok' := (fun k_ => ((fun k_ => (P0_ k_ ∨ w.heap.size ≤ k_) ∧ some k_ ≠ (.slice Ao39 y146.length co39 : Value).ownBlock ∧ k_ ≠ gb136 ∧ k_ ≠ gb138 ∧ k_ ≠ gb140)) k_ ∧ some k_ ≠ (u10 : Value).ownBlock)) (HO160.out) (fun k_ hk => ⟨⟨hk.1, ⟨hk.2.2.1, ⟨hk.2.2.2.2.2.2.2.1, ⟨hk.2.2.2.2.2.2.2.2.1, hk.2.2.2.2.2.2.2.2.2⟩⟩⟩⟩, hk.2.1⟩))).2.1 (Kd.N_F (Kd.N_mono (ok' := (fun k_ => ((fun k_ => (P0_ k_ ∨ w.heap.size ≤ k_) ∧ some k_ ≠ (.slice Ao39 y146.length co39 : Value).ownBlock ∧ k_ ≠ gb136 ∧ k_ ≠ gb138 ∧ k_ ≠ gb140)) k_ ∧ some k_ ≠ (u10 : Value).ownBlock)) (HO160.out) (fun k_ hk => ⟨⟨hk.1, ⟨hk.2.2.1, ⟨hk.2.2.2.2.2.2.2.1, ⟨hk.2.2.2.2.2.2.2.2.1, hk.2.2.2.2.2.2.2.2.2⟩⟩⟩⟩, hk.2.1⟩))) (Kd.N_reads' (Kd.N_mono (ok' := (fun k_ => ((fun k_ => (P0_ k_ ∨ w.heap.size ≤ k_) ∧ some k_ ≠ (.slice Ao39 y146.length co39 : Value).ownBlock ∧ k_ ≠ gb136 ∧ k_ ≠ gb138 ∧ k_ ≠ gb140)) k_ ∧ some k_ ≠ (u10 : Value).ownBlock)) (HO163.out) (fun k_ hk => ⟨⟨hk.1, ⟨hk.2.2.1, ⟨hk.2.2.2.2.2.2.2.1, ⟨hk.2.2.2.2.2.2.2.2.1, hk.2.2.2.2.2.2.2.2.2⟩⟩⟩⟩, hk.2.1⟩))).2.1 (Kd.N_F (Kd.N_mono (ok' := (fun k_ => ((fun k_ => (P0_ k_ ∨ w.heap.size ≤ k_) ∧ some k_ ≠ (.slice Ao39 y146.length co39 : Value).ownBlock ∧ k_ ≠ gb136 ∧ k_ ≠ gb138 ∧ k_ ≠ gb140)) k_ ∧ some k_ ≠ (u10 : Value).ownBlock)) (HO163.out) (fun k_ hk => ⟨⟨hk.1, ⟨hk.2.2.1, ⟨hk.2.2.2.2.2.2.2.1, ⟨hk.2.2.2.2.2.2.2.2.1, hk.2.2.2.2.2.2.2.2.2⟩⟩⟩⟩, hk.2.1⟩))) (Kd.R_reads' (Kd.R_mono (ok' := (fun k_ => ((fun k_ => (P0_ k_ ∨ w.heap.size ≤ k_) ∧ some k_ ≠ (.slice Ao39 y146.length co39 : Value).ownBlock ∧ k_ ≠ gb136 ∧ k_ ≠ gb138 ∧ k_ ≠ gb140)) k_ ∧ some k_ ≠ (u10 : Value).ownBlock)) (Kd.R_types (Kd.R_types (Kd.R_types (Kd.R_apart' (Kd.R_apart' (HO166.out) (Kd.N_typed HO148.out) (by decide)) (Kd.N_typed HO_10.out) (by decide)) BK136.out (by decide)) BK138.out (by decide)) BK140.out (by decide)) (fun k_ hk => ⟨⟨(.inr (hk.1.1.1.1.1.1)), ⟨hk.1.1.1.1.2, ⟨hk.1.1.2, ⟨hk.1.2, hk.2⟩⟩⟩⟩, hk.1.1.1.2⟩))).2.1 (Kd.R_F (Kd.R_mono (ok' := (fun k_ => ((fun k_ => (P0_ k_ ∨ w.heap.size ≤ k_) ∧ some k_ ≠ (.slice Ao39 y146.length co39 : Value).ownBlock ∧ k_ ≠ gb136 ∧ k_ ≠ gb138 ∧ k_ ≠ gb140)) k_ ∧ some k_ ≠ (u10 : Value).ownBlock)) (Kd.R_types (Kd.R_types (Kd.R_types (Kd.R_apart' (Kd.R_apart' (HO166.out) (Kd.N_typed HO148.out) (by decide)) (Kd.N_typed HO_10.out) (by decide)) BK136.out (by decide)) BK138.out (by decide)) BK140.out (by decide)) (fun k_ hk => ⟨⟨(.inr (hk.1.1.1.1.1.1)), ⟨hk.1.1.1.1.2, ⟨hk.1.1.2, ⟨hk.1.2, hk.2⟩⟩⟩⟩, hk.1.1.1.2⟩))))); (case aB => exact (hb3_ HB.out GE136.out GE138.out GE140.out)); (case aF => exact (fun k_ hk => ⟨(.inr (Nat.le_trans (below_size (hb3_ HB.out GE136.out GE138.out GE140.out)) hk)), Kd.fresh' (Kd.N_lt (kN_ HO148.out)) k_ hk, Kd.freshB (g := gb136) (o := .cells #[.int .i64 0, .int .i64 0, .slice none 0 0, .slice none 0 0, .slice none 0 0, .slice none 0 0, .slice none 0 0, .bool false] 31 (0, 0)) (bk_ BK136.out) k_ hk, Kd.freshB (g := gb138) (o := .cells #[.int .i64 x139000_2, .int .i64 x139001_2, .slice none 0 0, .slice none 0 0, .slice none 0 0, .slice Ao39 y146.length co39, .slice none 0 0, .bool false] 31 (0, 0)) (bk_ BK138.out) k_ hk, Kd.freshB (g := gb140) (o := .cells #[.int .i64 t150, .int .i64 t151, .slice Ao43 t152.length co43, .slice Ao44 t155.length co44, .slice Ao45 t158.length co45, .slice Ao46 t161.length co46, .slice Ao47 t164.length co47, .bool t167] 31 (0, 0)) (bk_ BK140.out) k_ hk⟩)); (case aO => exact (by (with_reducible repeat (first | apply Kd.N_alloc | apply Kd.N_drewN | apply Kd.N_drew)); exact Kd.N_mono HO_10.out (fun _ hk => ⟨hk.1, ⟨hk.2.1, ⟨hk.2.2.2.2.2.2.2.1, ⟨hk.2.2.2.2.2.2.2.2.1, hk.2.2.2.2.2.2.2.2.2⟩⟩⟩⟩))); (case aS => exact (below_size (hb3_ HB.out GE136.out GE138.out GE140.out))); (case aL => have := LMc27.out; omega); intro v169 w50 ho hb hg hat; rw [← Ny168.out] at ho; have n0_ := Aside0.mk (Kd.V_afterv (ok := (fun k_ => (P0_ k_ ∨ w.heap.size ≤ k_) ∧ some k_ ≠ (.slice Ao39 y146.length co39 : Value).ownBlock ∧ some k_ ≠ (.slice Ao43 t152.length co43 : Value).ownBlock ∧ some k_ ≠ (.slice Ao44 t155.length co44 : Value).ownBlock ∧ some k_ ≠ (.slice Ao45 t158.length co45 : Value).ownBlock ∧ some k_ ≠ (.slice Ao46 t161.length co46 : Value).ownBlock ∧ some k_ ≠ (.slice Ao47 t164.length co47 : Value).ownBlock ∧ k_ ≠ gb136 ∧ k_ ≠ gb138 ∧ k_ ≠ gb140)) (by (with_reducible repeat (first | apply Kd.V_alloc | apply Kd.V_drewN | apply Kd.V_drew)); exact Kd.V_mono HO_41.out (fun _ hk => ⟨⟨hk.1, ⟨hk.2.2.1, ⟨hk.2.2.2.1, ⟨hk.2.2.2.2.1, ⟨hk.2.2.2.2.2.1, ⟨hk.2.2.2.2.2.2.1, ⟨hk.2.2.2.2.2.2.2.1, ⟨hk.2.2.2.2.2.2.2.2.1, ⟨hk.2.2.2.2.2.2.2.2.2.1, hk.2.2.2.2.2.2.2.2.2.2⟩⟩⟩⟩⟩⟩⟩⟩⟩, hk.2.1⟩)) hg hat); have n1_ := Aside0.mk (blk_grown (g := gb136) (o := .cells #[.int .i64 0, .int .i64 0, .slice none 0 0, .slice none 0 0, .slice none 0 0, .slice none 0 0, .slice none 0 0, .bool false] 31 (0, 0)) (bk_ BK136.out) hg (Kd.N_away HO_10.out (fun _ hk => hk.2.2.2.2.2.2.2.1))); have n2_ := Aside0.mk (blk_grown (g := gb138) (o := .cells #[.int .i64 x139000_2, .int .i64 x139001_2, .slice none 0 0, .slice none 0 0, .slice none 0 0, .slice Ao39 y146.length co39, .slice none 0 0, .bool false] 31 (0, 0)) (bk_ BK138.out) hg (Kd.N_away HO_10.out (fun _ hk => hk.2.2.2.2.2.2.2.2.1))); have n3_ := Aside0.mk (Kd.V_afterv (ok := (fun k_ => (P0_ k_ ∨ w.heap.size ≤ k_) ∧ some k_ ≠ (.slice Ao39 y146.length co39 : Value).ownBlock ∧ some k_ ≠ (.slice Ao43 t152.length co43 : Value).ownBlock ∧ some k_ ≠ (.slice Ao44 t155.length co44 : Value).ownBlock ∧ some k_ ≠ (.slice Ao45 t158.length co45 : Value).ownBlock ∧ some k_ ≠ (.slice Ao46 t161.length co46 : Value).ownBlock ∧ some k_ ≠ (.slice Ao47 t164.length co47 : Value).ownBlock ∧ k_ ≠ gb136 ∧ k_ ≠ gb138 ∧ k_ ≠ gb140)) (by (with_reducible repeat (first | apply Kd.V_alloc | apply Kd.V_drewN | apply Kd.V_drew)); exact Kd.V_mono HL139_2.out (fun _ hk => ⟨⟨hk.1, ⟨hk.2.2.1, ⟨hk.2.2.2.1, ⟨hk.2.2.2.2.1, ⟨hk.2.2.2.2.2.1, ⟨hk.2.2.2.2.2.2.1, ⟨hk.2.2.2.2.2.2.2.1, ⟨hk.2.2.2.2.2.2.2.2.1, ⟨hk.2.2.2.2.2.2.2.2.2.1, hk.2.2.2.2.2.2.2.2.2.2⟩⟩⟩⟩⟩⟩⟩⟩⟩, hk.2.1⟩)) hg hat); have n4_ := Aside0.mk (Kd.V_afterv (ok := (fun k_ => (P0_ k_ ∨ w.heap.size ≤ k_) ∧ some k_ ≠ (.slice Ao39 y146.length co39 : Value).ownBlock ∧ some k_ ≠ (.slice Ao43 t152.length co43 : Value).ownBlock ∧ some k_ ≠ (.slice Ao44 t155.length co44 : Value).ownBlock ∧ some k_ ≠ (.slice Ao45 t158.length co45 : Value).ownBlock ∧ some k_ ≠ (.slice Ao46 t161.length co46 : Value).ownBlock ∧ some k_ ≠ (.slice Ao47 t164.length co47 : Value).ownBlock ∧ k_ ≠ gb136 ∧ k_ ≠ gb138 ∧ k_ ≠ gb140)) (by (with_reducible repeat (first | apply Kd.V_alloc | apply Kd.V_drewN | apply Kd.V_drew)); exact Kd.V_mono HL139_3.out (fun _ hk => ⟨⟨hk.1, ⟨hk.2.2.1, ⟨hk.2.2.2.1, ⟨hk.2.2.2.2.1, ⟨hk.2.2.2.2.2.1, ⟨hk.2.2.2.2.2.2.1, ⟨hk.2.2.2.2.2.2.2.1, ⟨hk.2.2.2.2.2.2.2.2.1, ⟨hk.2.2.2.2.2.2.2.2.2.1, hk.2.2.2.2.2.2.2.2.2.2⟩⟩⟩⟩⟩⟩⟩⟩⟩, hk.2.1⟩)) hg hat); have n5_ := Aside0.mk (Kd.V_afterv (ok := (fun k_ => (P0_ k_ ∨ w.heap.size ≤ k_) ∧ some k_ ≠ (.slice Ao39 y146.length co39 : Value).ownBlock ∧ some k_ ≠ (.slice Ao43 t152.length co43 : Value).ownBlock ∧ some k_ ≠ (.slice Ao44 t155.length co44 : Value).ownBlock ∧ some k_ ≠ (.slice Ao45 t158.length co45 : Value).ownBlock ∧ some k_ ≠ (.slice Ao46 t161.length co46 : Value).ownBlock ∧ some k_ ≠ (.slice Ao47 t164.length co47 : Value).ownBlock ∧ k_ ≠ gb136 ∧ k_ ≠ gb138 ∧ k_ ≠ gb140)) (by (with_reducible repeat (first | apply Kd.V_alloc | apply Kd.V_drewN | apply Kd.V_drew)); exact Kd.V_mono HL139_4.out (fun _ hk => ⟨⟨hk.1, ⟨hk.2.2.1, ⟨hk.2.2.2.1, ⟨hk.2.2.2.2.1, ⟨hk.2.2.2.2.2.1, ⟨hk.2.2.2.2.2.2.1, ⟨hk.2.2.2.2.2.2.2.1, ⟨hk.2.2.2.2.2.2.2.2.1, ⟨hk.2.2.2.2.2.2.2.2.2.1, hk.2.2.2.2.2.2.2.2.2.2⟩⟩⟩⟩⟩⟩⟩⟩⟩, hk.2.1⟩)) hg hat); have n6_ := Aside0.mk (Kd.V_afterv (ok := (fun k_ => (P0_ k_ ∨ w.heap.size ≤ k_) ∧ some k_ ≠ (.slice Ao39 y146.length co39 : Value).ownBlock ∧ some k_ ≠ (.slice Ao43 t152.length co43 : Value).ownBlock ∧ some k_ ≠ (.slice Ao44 t155.length co44 : Value).ownBlock ∧ some k_ ≠ (.slice Ao45 t158.length co45 : Value).ownBlock ∧ some k_ ≠ (.slice Ao46 t161.length co46 : Value).ownBlock ∧ some k_ ≠ (.slice Ao47 t164.length co47 : Value).ownBlock ∧ k_ ≠ gb136 ∧ k_ ≠ gb138 ∧ k_ ≠ gb140)) (by (with_reducible repeat (first | apply Kd.V_alloc | apply Kd.V_drewN | apply Kd.V_drew)); exact Kd.V_mono HL139_5.out (fun _ hk => ⟨⟨hk.1, ⟨hk.2.2.1, ⟨hk.2.2.2.1, ⟨hk.2.2.2.2.1, ⟨hk.2.2.2.2.2.1, ⟨hk.2.2.2.2.2.2.1, ⟨hk.2.2.2.2.2.2.2.1, ⟨hk.2.2.2.2.2.2.2.2.1, ⟨hk.2.2.2.2.2.2.2.2.2.1, hk.2.2.2.2.2.2.2.2.2.2⟩⟩⟩⟩⟩⟩⟩⟩⟩, hk.2.1⟩)) hg hat); have n7_ := Aside0.mk (Kd.V_afterv (ok := (fun k_ => (P0_ k_ ∨ w.heap.size ≤ k_) ∧ some k_ ≠ (.slice Ao39 y146.length co39 : Value).ownBlock ∧ some k_ ≠ (.slice Ao43 t152.length co43 : Value).ownBlock ∧ some k_ ≠ (.slice Ao44 t155.length co44 : Value).ownBlock ∧ some k_ ≠ (.slice Ao45 t158.length co45 : Value).ownBlock ∧ some k_ ≠ (.slice Ao46 t161.length co46 : Value).ownBlock ∧ some k_ ≠ (.slice Ao47 t164.length co47 : Value).ownBlock ∧ k_ ≠ gb136 ∧ k_ ≠ gb138 ∧ k_ ≠ gb140)) (by (with_reducible repeat (first | apply Kd.V_alloc | apply Kd.V_drewN | apply Kd.V_drew)); exact Kd.V_mono HL139_6.out (fun _ hk => ⟨⟨hk.1, ⟨hk.2.2.1, ⟨hk.2.2.2.1, ⟨hk.2.2.2.2.1, ⟨hk.2.2.2.2.2.1, ⟨hk.2.2.2.2.2.2.1, ⟨hk.2.2.2.2.2.2.2.1, ⟨hk.2.2.2.2.2.2.2.2.1, ⟨hk.2.2.2.2.2.2.2.2.2.1, hk.2.2.2.2.2.2.2.2.2.2⟩⟩⟩⟩⟩⟩⟩⟩⟩, hk.2.1⟩)) hg hat); have n8_ := Aside0.mk (blk_grown (g := gb140) (o := .cells #[.int .i64 t150, .int .i64 t151, .slice Ao43 t152.length co43, .slice Ao44 t155.length co44, .slice Ao45 t158.length co45, .slice Ao46 t161.length co46, .slice Ao47 t164.length co47, .bool t167] 31 (0, 0)) (bk_ BK140.out) hg (Kd.N_away HO_10.out (fun _ hk => hk.2.2.2.2.2.2.2.2.2))); have n9_ := Aside0.mk (Kd.N_afterv (ok := (fun k_ => (P0_ k_ ∨ w.heap.size ≤ k_) ∧ some k_ ≠ (.slice Ao43 t152.length co43 : Value).ownBlock ∧ some k_ ≠ (.slice Ao44 t155.length co44 : Value).ownBlock ∧ some k_ ≠ (.slice Ao45 t158.length co45 : Value).ownBlock ∧ some k_ ≠ (.slice Ao46 t161.length co46 : Value).ownBlock ∧ some k_ ≠ (.slice Ao47 t164.length co47 : Value).ownBlock ∧ k_ ≠ gb136 ∧ k_ ≠ gb138 ∧ k_ ≠ gb140)) (by (with_reducible repeat (first | apply Kd.N_alloc | apply Kd.N_drewN | apply Kd.N_drew)); exact Kd.N_mono HO148.out (fun _ hk => ⟨⟨hk.1, ⟨hk.2.2.1, ⟨hk.2.2.2.1, ⟨hk.2.2.2.2.1, ⟨hk.2.2.2.2.2.1, ⟨hk.2.2.2.2.2.2.1, ⟨hk.2.2.2.2.2.2.2.1, ⟨hk.2.2.2.2.2.2.2.2.1, hk.2.2.2.2.2.2.2.2.2⟩⟩⟩⟩⟩⟩⟩⟩, hk.2.1⟩)) hg hat); have n10_ := Aside0.mk (hb); have n11_ := Aside0.mk (ho); clear HO_41 BK136 BK138 HL139_2 HL139_3 HL139_4 HL139_5 HL139_6 BK140 HO148 HB HO_10 HO154 HO157 HO160 HO163 HO166; have HO_41 := n0_; have BK136 := n1_; have BK138 := n2_; have HL139_2 := n3_; have HL139_3 := n4_; have HL139_4 := n5_; have HL139_5 := n6_; have HL139_6 := n7_; have BK140 := n8_; have HO148 := n9_; have HB := n10_; have HO170 := n11_; clear n0_ n1_ n2_ n3_ n4_ n5_ n6_ n7_ n8_ n9_ n10_ n11_ ho hb hg hat))
         have n0_ := Aside0.mk (Kd.V_drew HO_41.out)
         have n1_ := Aside0.mk (Kd.V_drew HL139_2.out)
         have n2_ := Aside0.mk (Kd.V_drew HL139_3.out)
         have n3_ := Aside0.mk (Kd.V_drew HL139_4.out)
         have n4_ := Aside0.mk (Kd.V_drew HL139_5.out)
         have n5_ := Aside0.mk (Kd.V_drew HL139_6.out)
         have n6_ := Aside0.mk (Kd.N_drew HO148.out)
         have n7_ := Aside0.mk (Kd.N_drew HO170.out)
         have n8_ := Aside0.mk (blk_drew BK136.out)
         have n9_ := Aside0.mk (blk_drew BK138.out)
         have n10_ := Aside0.mk (blk_drew BK140.out)
         have n11_ := Aside0.mk (below_drew1 HB.out)
         clear HO_41
         clear HL139_2
         clear HL139_3
         clear HL139_4
         clear HL139_5
         clear HL139_6
         clear HO148
         clear HO170
         clear BK136
         clear BK138
         clear BK140
         clear HB
         have HO_41 := n0_
         have HL139_2 := n1_
         have HL139_3 := n2_
         have HL139_4 := n3_
         have HL139_5 := n4_
         have HL139_6 := n5_
         have HO148 := n6_
         have HO170 := n7_
         have BK136 := n8_
         have BK138 := n9_
         have BK140 := n10_
         have HB := n11_
         clear n0_ n1_ n2_ n3_ n4_ n5_ n6_ n7_ n8_ n9_ n10_ n11_
         refine start_ (n := 14) (S := fun w' => w'.cell? ⟨gb138, 1, none⟩ = some (.int .i64 x139001_2) ∧ w'.cell? ⟨gb140, 0, none⟩ = some (.int .i64 t150) ∧ w'.cell? ⟨gb140, 1, none⟩ = some (.int .i64 t151)) (ds := [13]) #[false,false,false,false,false,false,false,false,false,false,false,false,false,false] (by kernel_rfl) rfl rfl ⟨(blk_cell BK138.out 1).trans rfl, (blk_cell BK140.out 0).trans rfl, (blk_cell BK140.out 1).trans rfl⟩ (fun hHeld => ?_); refine with_tabW sum_Lay.tab15 sum_Lay.bits15 (fun HT_ HW_ => ?_)
         generalize w50.drew = w51 at HO_41 HL139_2 HL139_3 HL139_4 HL139_5 HL139_6 HO148 HO170 BK136 BK138 BK140 HB hHeld ⊢
         have hLd0_0 := (blk_cell BK138.out 0).trans (rfl : _ = some ((.int .i64 x139000_2) : Value))
         refine pure_ (i := 0) (N := some 76) (v := ?_) (a' := ?_) #[true,false,false,false,false,false,false,false,false,false,false,false,false,false] rfl rfl (any_of HT_.out (by kernel_rfl)) (fun _ _ _ h => h) (Or.inl ⟨by rfl, ?_⟩) ?_ ?_
         rotate_left
         ·
          intro w'
          go_simp
          with_reducible rfl
         rotate_left
         ·
          simp only [Act.put, setIfInBounds_toArray, set_cons_zero, set_cons_succ, i64_w, i32_w]
          rfl
         refine pure_ (i := 2) (N := some 78) (v := ?_) (a' := ?_) #[true,false,true,false,false,false,false,false,false,false,false,false,false,false] rfl rfl (any_of HT_.out (by kernel_rfl)) (fun _ _ _ h => h) (Or.inl ⟨by rfl, ?_⟩) ?_ ?_
         rotate_left
         ·
          intro w'
          go_simp
          with_reducible rfl
         rotate_left
         ·
          simp only [Act.put, setIfInBounds_toArray, set_cons_zero, set_cons_succ, i64_w, i32_w]
          rfl
         refine pure_ (i := 5) (N := some 81) (v := ?_) (a' := ?_) #[true,false,true,false,false,true,false,false,false,false,false,false,false,false] rfl rfl (any_of HT_.out (by kernel_rfl)) (fun _ _ _ h => h) (Or.inl ⟨by rfl, ?_⟩) ?_ ?_
         rotate_left
         ·
          intro w'
          go_simp
          with_reducible rfl
         rotate_left
         ·
          simp only [Act.put, setIfInBounds_toArray, set_cons_zero, set_cons_succ, i64_w, i32_w]
          rfl
         refine pure_ (i := 7) (N := some 83) (v := ?_) (a' := ?_) #[true,false,true,false,false,true,false,true,false,false,false,false,false,false] rfl rfl (any_of HT_.out (by kernel_rfl)) (fun _ _ _ h => h) (Or.inl ⟨by rfl, ?_⟩) ?_ ?_
         rotate_left
         ·
          intro w'
          go_simp
          with_reducible rfl
         rotate_left
         ·
          simp only [Act.put, setIfInBounds_toArray, set_cons_zero, set_cons_succ, i64_w, i32_w]
          rfl
         refine take_ (i := 3) (N := some 79) (v := ?_) (a' := ?_) #[true,false,true,true,false,true,false,true,false,false,false,false,false,false] rfl rfl (take_ofW HT_.out HW_.out (by kernel_rfl)) (fun _ _ _ h => h) (Or.inl ⟨by rfl, ?_⟩) hHeld ?_ ?_
         rotate_left
         ·
          rintro w' ⟨s0, s1, s2⟩
          go_simp
          with_reducible rfl
         rotate_left
         ·
          simp only [Act.put, setIfInBounds_toArray, set_cons_zero, set_cons_succ, i64_w, i32_w]
          rfl
         refine take_ (i := 6) (N := some 82) (v := ?_) (a' := ?_) #[true,false,true,true,false,true,true,true,false,false,false,false,false,false] rfl rfl (take_ofW HT_.out HW_.out (by kernel_rfl)) (fun _ _ _ h => h) (Or.inl ⟨by rfl, ?_⟩) hHeld ?_ ?_
         rotate_left
         ·
          rintro w' ⟨s0, s1, s2⟩
          go_simp
          with_reducible rfl
         rotate_left
         ·
          simp only [Act.put, setIfInBounds_toArray, set_cons_zero, set_cons_succ, i64_w, i32_w]
          rfl
         refine take_ (i := 8) (N := some 84) (v := ?_) (a' := ?_) #[true,false,true,true,false,true,true,true,true,false,false,false,false,false] rfl rfl (take_ofW HT_.out HW_.out (by kernel_rfl)) (fun _ _ _ h => h) (Or.inl ⟨by rfl, ?_⟩) hHeld ?_ ?_
         rotate_left
         ·
          rintro w' ⟨s0, s1, s2⟩
          go_simp
          with_reducible rfl
         rotate_left
         ·
          simp only [Act.put, setIfInBounds_toArray, set_cons_zero, set_cons_succ, i64_w, i32_w]
          rfl
         refine pure_ (i := 9) (N := some 85) (v := ?_) (a' := ?_) #[true,false,true,true,false,true,true,true,true,true,false,false,false,false] rfl rfl (any_of HT_.out (by kernel_rfl)) (fun _ _ _ h => h) (Or.inl ⟨by rfl, ?_⟩) ?_ ?_
         rotate_left
         ·
          intro w'
          go_simp
          with_reducible rfl
         rotate_left
         ·
          simp only [Act.put, setIfInBounds_toArray, set_cons_zero, set_cons_succ, i64_w, i32_w]
          rfl
         refine one_ (i := 1) (N := some 77) #[true,true,true,true,false,true,true,true,true,true,false,false,false,false] rfl rfl (one_of HT_.out (by kernel_rfl)) (by decide) (fun K hK => ?_)
         refine value_ (w1 := ?_) (v := ?_) (by rfl) rfl ?_ ?_
         rotate_left 2
         ·
          go_simp
          constructor
          ·
           rfl
          ·
           rfl
         refine hK.out _ _ ⟨hHeld.1, hHeld.2.1, hHeld.2.2⟩ (fun hHeld => ?_)
         clear hK K
         refine norm_ (a' := ?_) ?_ ?_
         rotate_left
         ·
          show Act.put _ (some 77) _ = _
          simp only [Act.put, setIfInBounds_toArray, set_cons_zero, set_cons_succ, i64_w, i32_w]
          rfl
         refine pure_ (i := 4) (N := some 80) (v := ?_) (a' := ?_) #[true,true,true,true,true,true,true,true,true,true,false,false,false,false] rfl rfl (any_of HT_.out (by kernel_rfl)) (fun _ _ _ h => h) (Or.inl ⟨by rfl, ?_⟩) ?_ ?_
         rotate_left
         ·
          intro w'
          go_simp
          with_reducible rfl
         rotate_left
         ·
          simp only [Act.put, setIfInBounds_toArray, set_cons_zero, set_cons_succ, i64_w, i32_w]
          rfl
         refine pure_ (i := 10) (N := some 86) (v := ?_) (a' := ?_) #[true,true,true,true,true,true,true,true,true,true,true,false,false,false] rfl rfl (any_of HT_.out (by kernel_rfl)) (fun _ _ _ h => h) (Or.inl ⟨by rfl, ?_⟩) ?_ ?_
         rotate_left
         ·
          intro w'
          go_simp
          with_reducible rfl
         rotate_left
         ·
          simp only [Act.put, setIfInBounds_toArray, set_cons_zero, set_cons_succ, i64_w, i32_w]
          rfl
         refine one_ (i := 11) (N := none) #[true,true,true,true,true,true,true,true,true,true,true,true,false,false] rfl rfl (one_of HT_.out (by kernel_rfl)) (by decide) (fun K hK => ?_)
         have hs52 : w51.cell? ⟨gb138, 0, none⟩ = some (.int .i64 x139000_2) := (blk_cell BK138.out 0).trans rfl
         have hfs52 := blk_frozen BK138.out 0
         have hns52_0 := NB136_138.out
         have hns52_2 := NB140_138.out
         have hms52_0 := NB138_136.out
         have hms52_2 := NB138_140.out
         refine skip_ (w1 := ?_) (by rfl) rfl ?_ ?_
         rotate_left
         ·
          go_simp
          rfl
         refine hK.out _ _ ⟨((World.cell?_setCell_other _ ⟨gb138, 0, none⟩ ⟨gb138, 1, none⟩ _ (by simp)).trans (hHeld.1)), ((cell_far (p := ⟨gb138, _, none⟩) NB140_138.out _).trans (hHeld.2.1)), ((cell_far (p := ⟨gb138, _, none⟩) NB140_138.out _).trans (hHeld.2.2))⟩ (fun hHeld => ?_)
         clear hK K
         refine pure_ (i := 12) (N := some 87) (v := ?_) (a' := ?_) #[true,true,true,true,true,true,true,true,true,true,true,true,true,false] rfl rfl (any_of HT_.out (by kernel_rfl)) (fun _ _ _ h => h) (Or.inl ⟨by rfl, ?_⟩) ?_ ?_
         rotate_left
         ·
          intro w'
          go_simp
          with_reducible rfl
         rotate_left
         ·
          simp only [Act.put, setIfInBounds_toArray, set_cons_zero, set_cons_succ, i64_w, i32_w]
          rfl
         refine last_ (i := 13) (N := none) #[true,true,true,true,true,true,true,true,true,true,true,true,true,true] rfl rfl (one_of HT_.out (by kernel_rfl)) (by decide) (fun K hK => ?_)
         have hs53 : w51.cell? ⟨gb138, 1, none⟩ = some (.int .i64 x139001_2) := (blk_cell BK138.out 1).trans rfl
         have hfs53 := blk_frozen BK138.out 1
         have hns53_0 := NB136_138.out
         have hns53_2 := NB140_138.out
         have hms53_0 := NB138_136.out
         have hms53_2 := NB138_140.out
         refine skip_ (w1 := ?_) (by rfl) rfl ?_ ?_
         rotate_left
         ·
          go_simp
          rfl
         refine hK.out _ _ ?_
         clear hK K
         refine done_ (done_of HT_.out (by kernel_rfl)) ?_
         try go_wp2
         go_roundg k2
         case measure => have := HJ4.out; have := HK2.out; omega
         case rel => exact ⟨(y168), (wrap64 (x43_2 + 1)), (ji28), (ji29), (y146), (.slice Ao39 y146.length co39), (by first | rfl | (simp; done) | (simp [*]; done)), H', ⟨by have := HJ4.out; have := HK2.out; omega⟩, ⟨by (with_reducible repeat (first | apply Kd.N_alloc | apply Kd.N_drewN | apply Kd.N_drew)); exact Kd.N_mono (Kd.N_far (p := ⟨gb138, 1, none⟩) (Kd.N_far (p := ⟨gb138, 0, none⟩) (Kd.N_mono HO170.out (fun k_ hk => (⟨hk, hk.2.2.2.1⟩ : _ ∧ k_ ≠ gb138))) (fun _ hk => hk.2) (.int .i64 ji28)) (fun _ hk => hk.2) (.int .i64 ji29)) (fun _ hk => ⟨hk.1.1, ⟨hk.1.2.1, ⟨hk.1.2.2.1, hk.1.2.2.2.1⟩⟩⟩)⟩, ⟨by (with_reducible repeat (first | apply Kd.V_alloc | apply Kd.V_drewN | apply Kd.V_drew)); exact Kd.V_mono (Kd.V_far (p := ⟨gb138, 1, none⟩) (Kd.V_far (p := ⟨gb138, 0, none⟩) (Kd.V_mono HO_41.out (fun k_ hk => (⟨hk, hk.1.2.2.2.2.2.2.2.2.1⟩ : _ ∧ k_ ≠ gb138))) (fun _ hk => hk.2) (.int .i64 ji28)) (fun _ hk => hk.2) (.int .i64 ji29)) (fun _ hk => ⟨hk.1.1.1, ⟨hk.1.2, ⟨hk.1.1.2.1, ⟨hk.1.1.2.2.2.2.2.2.2.1, hk.1.1.2.2.2.2.2.2.2.2.1⟩⟩⟩⟩)⟩, ⟨by (with_reducible repeat (first | apply Kd.N_alloc | apply Kd.N_drewN | apply Kd.N_drew)); exact Kd.N_mono (Kd.N_far (p := ⟨gb138, 1, none⟩) (Kd.N_far (p := ⟨gb138, 0, none⟩) (Kd.N_mono HO148.out (fun k_ hk => (⟨hk, hk.1.2.2.2.2.2.2.2.1⟩ : _ ∧ k_ ≠ gb138))) (fun _ hk => hk.2) (.int .i64 ji28)) (fun _ hk => hk.2) (.int .i64 ji29)) (fun _ hk => ⟨hk.1.1.1, ⟨hk.1.2, ⟨hk.1.1.2.2.2.2.2.2.1, hk.1.1.2.2.2.2.2.2.2.1⟩⟩⟩)⟩, ⟨by (with_reducible repeat (first | refine blk_drewN ?_ _ | refine blk_drew ?_ | refine blk_alloc ?_ _)); refine blk_far ?_ NB136_138.out _; (with_reducible repeat (first | refine blk_drewN ?_ _ | refine blk_drew ?_ | refine blk_alloc ?_ _)); refine blk_far ?_ NB136_138.out _; (with_reducible repeat (first | refine blk_drewN ?_ _ | refine blk_drew ?_ | refine blk_alloc ?_ _)); exact BK136.out⟩, ⟨by (with_reducible repeat (first | refine blk_drewN ?_ _ | refine blk_drew ?_ | refine blk_alloc ?_ _)); refine blk_put (cs := #[.int .i64 ji28, .int .i64 x139001_2, .slice none 0 0, .slice none 0 0, .slice none 0 0, .slice Ao39 y146.length co39, .slice none 0 0, .bool false]) ?_ 1 _ rfl; (with_reducible repeat (first | refine blk_drewN ?_ _ | refine blk_drew ?_ | refine blk_alloc ?_ _)); refine blk_put (cs := #[.int .i64 x139000_2, .int .i64 x139001_2, .slice none 0 0, .slice none 0 0, .slice none 0 0, .slice Ao39 y146.length co39, .slice none 0 0, .bool false]) ?_ 0 _ rfl; (with_reducible repeat (first | refine blk_drewN ?_ _ | refine blk_drew ?_ | refine blk_alloc ?_ _)); exact BK138.out⟩, ⟨by repeat (first | (with_reducible first | exact HB.out | apply below_alloc | apply pw_below_drewN | apply below_drew1 | refine below_set ?_ GE136.out | refine below_set ?_ GE138.out | refine below_set ?_ GE140.out) | exact HB.out)⟩⟩
        ·
         replace c25 := Bool.eq_false_iff.mpr c25
         subst c25
         have H1 : (if x10_2.length < 977343669134 then (sum_Lay.l0 k2 l1 l2 (x10_2 ++ [(⟨(rd_T31 l0 x43_2).f0, (rd_T31 l0 x43_2).f1, (rd_T31 l0 x43_2).f2, (rd_T31 l0 x43_2).f3, (rd_T31 l0 x43_2).f4, (rd_T31 l0 x43_2).f5, (rd_T31 l0 x43_2).f6, (rd_T31 l0 x43_2).f7⟩ : S31)]) l0 (l0.length : Int) (wrap64 (x43_2 + 1)) (mx x139000_2 ((rd_T31 l0 x43_2).f0)) (mx x139001_2 ((rd_T31 l0 x43_2).f1)) y146 false) else (none)) = some (r1, r2, r3, r4, r5, r6, r7, r8, r9) := by rw [if_neg (show ¬ (false = true) by decide)] at H; exact H
         clear H
         have H := H1
         clear H1
         by_cases c54 : x10_2.length < 977343669134
         rotate_left
         ·
          rw [if_neg c54] at H
          exact absurd H (by simp)
         rw [if_pos c54] at H
         have LMc54 := Aside0.mk c54
         clear c54
         obtain ⟨y171, hy171⟩ : ∃ y_ : List (S31), y_ = (x10_2 ++ [(⟨(rd_T31 l0 x43_2).f0, (rd_T31 l0 x43_2).f1, (rd_T31 l0 x43_2).f2, (rd_T31 l0 x43_2).f3, (rd_T31 l0 x43_2).f4, (rd_T31 l0 x43_2).f5, (rd_T31 l0 x43_2).f6, (rd_T31 l0 x43_2).f7⟩ : S31)]) := ⟨_, rfl⟩
         replace H : (sum_Lay.l0 k2 l1 l2 y171 l0 (l0.length : Int) (wrap64 (x43_2 + 1)) (mx x139000_2 ((rd_T31 l0 x43_2).f0)) (mx x139001_2 ((rd_T31 l0 x43_2).f1)) y146 false) = some (r1, r2, r3, r4, r5, r6, r7, r8, r9) := by first | (rw [hy171]; with_reducible exact H) | (have H2_ := (Option.bind_some _ _).symm.trans H; rw [hy171]; with_reducible exact H2_) | (have H2_ := (Option.bind_some _ _).symm.trans H; with_reducible exact H2_) | with_reducible exact H | (rw [hy171]; exact H) | exact H
         have Ny171 := Aside0.mk hy171
         clear hy171
         obtain ⟨ji55, hji55⟩ : ∃ j_ : Int, (mx x139000_2 ((rd_T31 l0 x43_2).f0)) = j_ := ⟨_, rfl⟩
         replace H : (sum_Lay.l0 k2 l1 l2 y171 l0 (l0.length : Int) (wrap64 (x43_2 + 1)) ji55 (mx x139001_2 ((rd_T31 l0 x43_2).f1)) y146 false) = some (r1, r2, r3, r4, r5, r6, r7, r8, r9) := by first | (rw [hji55] at H; exact H) | (simp only [hji55] at H ⊢; exact H)
         (try rw [hji55] at A22)
         have hji55_ : (if x139000_2 < ((rd_T31 l0 x43_2).f0) then ((rd_T31 l0 x43_2).f0) else x139000_2) = ji55 := hji55
         obtain ⟨ji56, hji56⟩ : ∃ j_ : Int, (mx x139001_2 ((rd_T31 l0 x43_2).f1)) = j_ := ⟨_, rfl⟩
         replace H : (sum_Lay.l0 k2 l1 l2 y171 l0 (l0.length : Int) (wrap64 (x43_2 + 1)) ji55 ji56 y146 false) = some (r1, r2, r3, r4, r5, r6, r7, r8, r9) := by first | (rw [hji56] at H; exact H) | (simp only [hji56] at H ⊢; exact H)
         (try rw [hji56] at A22)
         have hji56_ : (if x139001_2 < ((rd_T31 l0 x43_2).f1) then ((rd_T31 l0 x43_2).f1) else x139001_2) = ji56 := hji56
         have H' := Aside0.mk H
         clear H
         have n0_ : Aside0 (Kd.N k31 31 (w38.setCell ⟨gb138, 5, none⟩ (.slice Ao39 y146.length co39)) w.heap.size (fun k_ => (P0_ k_ ∨ w.heap.size ≤ k_) ∧ some k_ ≠ (.slice Ao39 y146.length co39 : Value).ownBlock ∧ k_ ≠ gb136 ∧ k_ ≠ gb138 ∧ k_ ≠ gb140) u10 x10_2) := ⟨by (with_reducible repeat (first | apply Kd.N_alloc | apply Kd.N_drewN | apply Kd.N_drew)); exact Kd.N_mono (Kd.N_far (p := ⟨gb138, 5, none⟩) (Kd.N_mono HO_10.out (fun k_ hk => (⟨hk, hk.1.2.2.2.1⟩ : _ ∧ k_ ≠ gb138))) (fun _ hk => hk.2) (.slice Ao39 y146.length co39)) (fun _ hk => ⟨hk.1.1.1, ⟨hk.1.2, ⟨hk.1.1.2.2.1, ⟨hk.1.1.2.2.2.1, hk.1.1.2.2.2.2⟩⟩⟩⟩)⟩
         have n1_ : Aside0 (Kd.V k31 31 (w38.setCell ⟨gb138, 5, none⟩ (.slice Ao39 y146.length co39)) w.heap.size (fun k_ => (P0_ k_ ∨ w.heap.size ≤ k_) ∧ some k_ ≠ (u10 : Value).ownBlock ∧ some k_ ≠ (.slice Ao39 y146.length co39 : Value).ownBlock ∧ k_ ≠ gb136 ∧ k_ ≠ gb138 ∧ k_ ≠ gb140) (.slice (some ad139) l0.length c0) l0) := ⟨by (with_reducible repeat (first | apply Kd.V_alloc | apply Kd.V_drewN | apply Kd.V_drew)); exact Kd.V_mono (Kd.V_far (p := ⟨gb138, 5, none⟩) (Kd.V_mono HO_41.out (fun k_ hk => (⟨hk, hk.1.2.2.2.2.1⟩ : _ ∧ k_ ≠ gb138))) (fun _ hk => hk.2) (.slice Ao39 y146.length co39)) (fun _ hk => ⟨hk.1.1.1, ⟨hk.1.1.2.1, ⟨hk.1.2, ⟨hk.1.1.2.2.2.1, ⟨hk.1.1.2.2.2.2.1, hk.1.1.2.2.2.2.2⟩⟩⟩⟩⟩)⟩
         have n2_ : Aside0 (Kd.V (Kd.int .u8) 5 (w38.setCell ⟨gb138, 5, none⟩ (.slice Ao39 y146.length co39)) w.heap.size (fun k_ => (P0_ k_ ∨ w.heap.size ≤ k_) ∧ some k_ ≠ (u10 : Value).ownBlock ∧ some k_ ≠ (.slice Ao39 y146.length co39 : Value).ownBlock ∧ k_ ≠ gb136 ∧ k_ ≠ gb138 ∧ k_ ≠ gb140) (.slice A139_2 ((rd_T31 l0 x43_2).f2).length c139_2) ((rd_T31 l0 x43_2).f2)) := ⟨by (with_reducible repeat (first | apply Kd.V_alloc | apply Kd.V_drewN | apply Kd.V_drew)); exact Kd.V_mono (Kd.V_far (p := ⟨gb138, 5, none⟩) (Kd.V_mono HL139_2.out (fun k_ hk => (⟨hk, hk.1.2.2.2.2.1⟩ : _ ∧ k_ ≠ gb138))) (fun _ hk => hk.2) (.slice Ao39 y146.length co39)) (fun _ hk => ⟨hk.1.1.1, ⟨hk.1.1.2.1, ⟨hk.1.2, ⟨hk.1.1.2.2.2.1, ⟨hk.1.1.2.2.2.2.1, hk.1.1.2.2.2.2.2⟩⟩⟩⟩⟩)⟩
         have n3_ : Aside0 (Kd.V (Kd.int .i64) 3 (w38.setCell ⟨gb138, 5, none⟩ (.slice Ao39 y146.length co39)) w.heap.size (fun k_ => (P0_ k_ ∨ w.heap.size ≤ k_) ∧ some k_ ≠ (u10 : Value).ownBlock ∧ some k_ ≠ (.slice Ao39 y146.length co39 : Value).ownBlock ∧ k_ ≠ gb136 ∧ k_ ≠ gb138 ∧ k_ ≠ gb140) (.slice A139_3 ((rd_T31 l0 x43_2).f3).length c139_3) ((rd_T31 l0 x43_2).f3)) := ⟨by (with_reducible repeat (first | apply Kd.V_alloc | apply Kd.V_drewN | apply Kd.V_drew)); exact Kd.V_mono (Kd.V_far (p := ⟨gb138, 5, none⟩) (Kd.V_mono HL139_3.out (fun k_ hk => (⟨hk, hk.1.2.2.2.2.1⟩ : _ ∧ k_ ≠ gb138))) (fun _ hk => hk.2) (.slice Ao39 y146.length co39)) (fun _ hk => ⟨hk.1.1.1, ⟨hk.1.1.2.1, ⟨hk.1.2, ⟨hk.1.1.2.2.2.1, ⟨hk.1.1.2.2.2.2.1, hk.1.1.2.2.2.2.2⟩⟩⟩⟩⟩)⟩
         have n4_ : Aside0 (Kd.V k101 101 (w38.setCell ⟨gb138, 5, none⟩ (.slice Ao39 y146.length co39)) w.heap.size (fun k_ => (P0_ k_ ∨ w.heap.size ≤ k_) ∧ some k_ ≠ (u10 : Value).ownBlock ∧ some k_ ≠ (.slice Ao39 y146.length co39 : Value).ownBlock ∧ k_ ≠ gb136 ∧ k_ ≠ gb138 ∧ k_ ≠ gb140) (.slice A139_4 ((rd_T31 l0 x43_2).f4).length c139_4) ((rd_T31 l0 x43_2).f4)) := ⟨by (with_reducible repeat (first | apply Kd.V_alloc | apply Kd.V_drewN | apply Kd.V_drew)); exact Kd.V_mono (Kd.V_far (p := ⟨gb138, 5, none⟩) (Kd.V_mono HL139_4.out (fun k_ hk => (⟨hk, hk.1.2.2.2.2.1⟩ : _ ∧ k_ ≠ gb138))) (fun _ hk => hk.2) (.slice Ao39 y146.length co39)) (fun _ hk => ⟨hk.1.1.1, ⟨hk.1.1.2.1, ⟨hk.1.2, ⟨hk.1.1.2.2.2.1, ⟨hk.1.1.2.2.2.2.1, hk.1.1.2.2.2.2.2⟩⟩⟩⟩⟩)⟩
         have n5_ : Aside0 (Kd.V k79 79 (w38.setCell ⟨gb138, 5, none⟩ (.slice Ao39 y146.length co39)) w.heap.size (fun k_ => (P0_ k_ ∨ w.heap.size ≤ k_) ∧ some k_ ≠ (u10 : Value).ownBlock ∧ some k_ ≠ (.slice Ao39 y146.length co39 : Value).ownBlock ∧ k_ ≠ gb136 ∧ k_ ≠ gb138 ∧ k_ ≠ gb140) (.slice A139_5 ((rd_T31 l0 x43_2).f5).length c139_5) ((rd_T31 l0 x43_2).f5)) := ⟨by (with_reducible repeat (first | apply Kd.V_alloc | apply Kd.V_drewN | apply Kd.V_drew)); exact Kd.V_mono (Kd.V_far (p := ⟨gb138, 5, none⟩) (Kd.V_mono HL139_5.out (fun k_ hk => (⟨hk, hk.1.2.2.2.2.1⟩ : _ ∧ k_ ≠ gb138))) (fun _ hk => hk.2) (.slice Ao39 y146.length co39)) (fun _ hk => ⟨hk.1.1.1, ⟨hk.1.1.2.1, ⟨hk.1.2, ⟨hk.1.1.2.2.2.1, ⟨hk.1.1.2.2.2.2.1, hk.1.1.2.2.2.2.2⟩⟩⟩⟩⟩)⟩
         have n6_ : Aside0 (Kd.V (Kd.int .i64) 3 (w38.setCell ⟨gb138, 5, none⟩ (.slice Ao39 y146.length co39)) w.heap.size (fun k_ => (P0_ k_ ∨ w.heap.size ≤ k_) ∧ some k_ ≠ (u10 : Value).ownBlock ∧ some k_ ≠ (.slice Ao39 y146.length co39 : Value).ownBlock ∧ k_ ≠ gb136 ∧ k_ ≠ gb138 ∧ k_ ≠ gb140) (.slice A139_6 ((rd_T31 l0 x43_2).f6).length c139_6) ((rd_T31 l0 x43_2).f6)) := ⟨by (with_reducible repeat (first | apply Kd.V_alloc | apply Kd.V_drewN | apply Kd.V_drew)); exact Kd.V_mono (Kd.V_far (p := ⟨gb138, 5, none⟩) (Kd.V_mono HL139_6.out (fun k_ hk => (⟨hk, hk.1.2.2.2.2.1⟩ : _ ∧ k_ ≠ gb138))) (fun _ hk => hk.2) (.slice Ao39 y146.length co39)) (fun _ hk => ⟨hk.1.1.1, ⟨hk.1.1.2.1, ⟨hk.1.2, ⟨hk.1.1.2.2.2.1, ⟨hk.1.1.2.2.2.2.1, hk.1.1.2.2.2.2.2⟩⟩⟩⟩⟩)⟩
         have n7_ : Aside0 (Kd.N k79 79 (w38.setCell ⟨gb138, 5, none⟩ (.slice Ao39 y146.length co39)) w.heap.size (fun k_ => (P0_ k_ ∨ w.heap.size ≤ k_) ∧ some k_ ≠ (u10 : Value).ownBlock ∧ k_ ≠ gb136 ∧ k_ ≠ gb138 ∧ k_ ≠ gb140) (.slice Ao39 y146.length co39) y146) := ⟨by (with_reducible repeat (first | apply Kd.N_alloc | apply Kd.N_drewN | apply Kd.N_drew)); exact Kd.N_mono (Kd.N_far (p := ⟨gb138, 5, none⟩) (Kd.N_mono HO148.out (fun k_ hk => (⟨hk, hk.2.2.2.1⟩ : _ ∧ k_ ≠ gb138))) (fun _ hk => hk.2) (.slice Ao39 y146.length co39)) (fun _ hk => ⟨hk.1.1, ⟨hk.1.2.1, ⟨hk.1.2.2.1, ⟨hk.1.2.2.2.1, hk.1.2.2.2.2⟩⟩⟩⟩)⟩
         have n8_ : Aside0 ((w38.setCell ⟨gb138, 5, none⟩ (.slice Ao39 y146.length co39)).heap[gb136]? = some (.cells #[.int .i64 0, .int .i64 0, .slice none 0 0, .slice none 0 0, .slice none 0 0, .slice none 0 0, .slice none 0 0, .bool false] 31 (0, 0))) := ⟨by (with_reducible repeat (first | refine blk_drewN ?_ _ | refine blk_drew ?_ | refine blk_alloc ?_ _)); refine blk_far ?_ NB136_138.out _; (with_reducible repeat (first | refine blk_drewN ?_ _ | refine blk_drew ?_ | refine blk_alloc ?_ _)); exact BK136.out⟩
         have n9_ : Aside0 ((w38.setCell ⟨gb138, 5, none⟩ (.slice Ao39 y146.length co39)).heap[gb138]? = some (.cells #[.int .i64 x139000_2, .int .i64 x139001_2, .slice none 0 0, .slice none 0 0, .slice none 0 0, .slice Ao39 y146.length co39, .slice none 0 0, .bool false] 31 (0, 0))) := ⟨by (with_reducible repeat (first | refine blk_drewN ?_ _ | refine blk_drew ?_ | refine blk_alloc ?_ _)); refine blk_put (cs := #[.int .i64 x139000_2, .int .i64 x139001_2, .slice none 0 0, .slice none 0 0, .slice none 0 0, u139005, .slice none 0 0, .bool false]) ?_ 5 _ rfl; (with_reducible repeat (first | refine blk_drewN ?_ _ | refine blk_drew ?_ | refine blk_alloc ?_ _)); exact BK138.out⟩
         have n10_ : Aside0 ((w38.setCell ⟨gb138, 5, none⟩ (.slice Ao39 y146.length co39)).heap[gb140]? = some (.cells #[.int .i64 ((rd_T31 l0 x43_2).f0), .int .i64 ((rd_T31 l0 x43_2).f1), .slice A139_2 ((rd_T31 l0 x43_2).f2).length c139_2, .slice A139_3 ((rd_T31 l0 x43_2).f3).length c139_3, .slice A139_4 ((rd_T31 l0 x43_2).f4).length c139_4, .slice A139_5 ((rd_T31 l0 x43_2).f5).length c139_5, .slice A139_6 ((rd_T31 l0 x43_2).f6).length c139_6, .bool ((rd_T31 l0 x43_2).f7)] 31 (0, 0))) := ⟨by (with_reducible repeat (first | refine blk_drewN ?_ _ | refine blk_drew ?_ | refine blk_alloc ?_ _)); refine blk_far ?_ NB140_138.out _; (with_reducible repeat (first | refine blk_drewN ?_ _ | refine blk_drew ?_ | refine blk_alloc ?_ _)); exact BK140.out⟩
         have n11_ : Aside0 (Below w.heap.size w (w38.setCell ⟨gb138, 5, none⟩ (.slice Ao39 y146.length co39))) := ⟨by repeat (first | (with_reducible first | exact HB.out | apply below_alloc | apply pw_below_drewN | apply below_drew1 | refine below_set ?_ GE136.out | refine below_set ?_ GE138.out | refine below_set ?_ GE140.out) | exact HB.out)⟩
         (try clear HO_10)
         (try clear HO_41)
         (try clear HL139_2)
         (try clear HL139_3)
         (try clear HL139_4)
         (try clear HL139_5)
         (try clear HL139_6)
         (try clear HO148)
         (try clear BK136)
         (try clear BK138)
         (try clear BK140)
         (try clear HB)
         generalize (w38.setCell ⟨gb138, 5, none⟩ (.slice Ao39 y146.length co39)) = w68 at n0_ n1_ n2_ n3_ n4_ n5_ n6_ n7_ n8_ n9_ n10_ n11_ ⊢
         have HO_10 := n0_
         have HO_41 := n1_
         have HL139_2 := n2_
         have HL139_3 := n3_
         have HL139_4 := n4_
         have HL139_5 := n5_
         have HL139_6 := n6_
         have HO148 := n7_
         have BK136 := n8_
         have BK138 := n9_
         have BK140 := n10_
         have HB := n11_
         clear n0_ n1_ n2_ n3_ n4_ n5_ n6_ n7_ n8_ n9_ n10_ n11_
         have p149 : 0 ≤ (x43_2 : Int) := od_
         have q149 : x43_2 < (l2.length : Int) := od_
         obtain ⟨ad149, e149, hx149_0⟩ := Kd.at_bool HR2.out x43_2 p149 q149
         (try rw [← Nbq24.out] at hx149_0)
         obtain rfl : ad142 = ad149 := (by injection e149)
         replace hx149_0 := (HB.out.cell (World.block_lt_of_cell? w _ hx149_0)).trans hx149_0
         replace p149 := eq_true p149
         replace q149 := eq_true q149
         have hcz69_0 : w68.cell? ⟨gb140, 0, none⟩ = some (.int .i64 ((rd_T31 l0 x43_2).f0)) := (blk_cell BK140.out 0).trans rfl
         have hcz69_1 : w68.cell? ⟨gb140, 1, none⟩ = some (.int .i64 ((rd_T31 l0 x43_2).f1)) := (blk_cell BK140.out 1).trans rfl
         have hcz69_2 : w68.cell? ⟨gb140, 2, none⟩ = some (.slice A139_2 ((rd_T31 l0 x43_2).f2).length c139_2) := (blk_cell BK140.out 2).trans rfl
         have hcz69_3 : w68.cell? ⟨gb140, 3, none⟩ = some (.slice A139_3 ((rd_T31 l0 x43_2).f3).length c139_3) := (blk_cell BK140.out 3).trans rfl
         have hcz69_4 : w68.cell? ⟨gb140, 4, none⟩ = some (.slice A139_4 ((rd_T31 l0 x43_2).f4).length c139_4) := (blk_cell BK140.out 4).trans rfl
         have hcz69_5 : w68.cell? ⟨gb140, 5, none⟩ = some (.slice A139_5 ((rd_T31 l0 x43_2).f5).length c139_5) := (blk_cell BK140.out 5).trans rfl
         have hcz69_6 : w68.cell? ⟨gb140, 6, none⟩ = some (.slice A139_6 ((rd_T31 l0 x43_2).f6).length c139_6) := (blk_cell BK140.out 6).trans rfl
         have hcz69_7 : w68.cell? ⟨gb140, 7, none⟩ = some (.bool ((rd_T31 l0 x43_2).f7)) := (blk_cell BK140.out 7).trans rfl
         have hfz69_0 := blk_frozen BK140.out 0
         have hfz69_1 := blk_frozen BK140.out 1
         have hfz69_2 := blk_frozen BK140.out 2
         have hfz69_3 := blk_frozen BK140.out 3
         have hfz69_4 := blk_frozen BK140.out 4
         have hfz69_5 := blk_frozen BK140.out 5
         have hfz69_6 := blk_frozen BK140.out 6
         have hfz69_7 := blk_frozen BK140.out 7
         try go_wp2_with (first | ((with_reducible refine gate_builtin (b := .append) (xs := #[.tmp 72, .tmp 74]) rfl ?_); (try (refine gate_guard (by rfl) ?_; dsimp only)); at_builtin; refine Kd.N_append k31 (w0 := w) w.heap.size rfl (.tmp 72) (.tmp 74) 22 31 (.agg #[(.int .i64 0), (.int .i64 0), (.slice none 0 0), (.slice none 0 0), (.slice none 0 0), (.slice none 0 0), (.slice none 0 0), (.bool false)]) 144 rfl Try.underlying22 info31 rfl (by decide) (by omega) u10 x10_2 (⟨(rd_T31 l0 x43_2).f0, (rd_T31 l0 x43_2).f1, (rd_T31 l0 x43_2).f2, (rd_T31 l0 x43_2).f3, (rd_T31 l0 x43_2).f4, (rd_T31 l0 x43_2).f5, (rd_T31 l0 x43_2).f6, (rd_T31 l0 x43_2).f7⟩ : S31) [.int .i64 ((rd_T31 l0 x43_2).f0), .int .i64 ((rd_T31 l0 x43_2).f1), .slice A139_2 ((rd_T31 l0 x43_2).f2).length c139_2, .slice A139_3 ((rd_T31 l0 x43_2).f3).length c139_3, .slice A139_4 ((rd_T31 l0 x43_2).f4).length c139_4, .slice A139_5 ((rd_T31 l0 x43_2).f5).length c139_5, .slice A139_6 ((rd_T31 l0 x43_2).f6).length c139_6, .bool ((rd_T31 l0 x43_2).f7)] (fun k_ => (P0_ k_ ∨ w.heap.size ≤ k_) ∧ some k_ ≠ (.slice Ao39 y146.length co39 : Value).ownBlock ∧ k_ ≠ gb136 ∧ k_ ≠ gb138 ∧ k_ ≠ gb140) (fun k_ => ((fun k_ => (P0_ k_ ∨ w.heap.size ≤ k_) ∧ some k_ ≠ (.slice Ao39 y146.length co39 : Value).ownBlock ∧ k_ ≠ gb136 ∧ k_ ≠ gb138 ∧ k_ ≠ gb140)) k_ ∧ some k_ ≠ (u10 : Value).ownBlock) rfl rfl ?aP (fun _ hk => hk) ?aF ?aO ?aB ?aS ?aL ?_; (case aP => exact (k31_mkF _ _ (⟨(rd_T31 l0 x43_2).f0, (rd_T31 l0 x43_2).f1, (rd_T31 l0 x43_2).f2, (rd_T31 l0 x43_2).f3, (rd_T31 l0 x43_2).f4, (rd_T31 l0 x43_2).f5, (rd_T31 l0 x43_2).f6, (rd_T31 l0 x43_2).f7⟩ : S31) (Kd.V_reads' (Kd.V_mono (ok' := (fun k_ => ((fun k_ => (P0_ k_ ∨ w.heap.size ≤ k_) ∧ some k_ ≠ (.slice Ao39 y146.length co39 : Value).ownBlock ∧ k_ ≠ gb136 ∧ k_ ≠ gb138 ∧ k_ ≠ gb140)) k_ ∧ some k_ ≠ (u10 : Value).ownBlock)) (HL139_2.out) (fun k_ hk => ⟨⟨hk.1, ⟨hk.2.2.1, ⟨hk.2.2.2.1, ⟨hk.2.2.2.2.1, hk.2.2.2.2.2⟩⟩⟩⟩, hk.2.1⟩))).2.1 (Kd.V_F (Kd.V_mono (ok' := (fun k_ => ((fun k_ => (P0_ k_ ∨ w.heap.size ≤ k_) ∧ some k_ ≠ (.slice Ao39 y146.length co39 : Value).ownBlock ∧ k_ ≠ gb136 ∧ k_ ≠ gb138 ∧ k_ ≠ gb140)) k_ ∧ some k_ ≠ (u10 : Value).ownBlock)) (HL139_2.out) (fun k_ hk => ⟨⟨hk.1, ⟨hk.2.2.1, ⟨hk.2.2.2.1, ⟨hk.2.2.2.2.1, hk.2.2.2.2.2⟩⟩⟩⟩, hk.2.1⟩))) (Kd.V_reads' (Kd.V_mono (ok' := (fun k_ => ((fun k_ => (P0_ k_ ∨ w.heap.size ≤ k_) ∧ some k_ ≠ (.slice Ao39 y146.length co39 : Value).ownBlock ∧ k_ ≠ gb136 ∧ k_ ≠ gb138 ∧ k_ ≠ gb140)) k_ ∧ some k_ ≠ (u10 : Value).ownBlock)) (HL139_3.out) (fun k_ hk => ⟨⟨hk.1, ⟨hk.2.2.1, ⟨hk.2.2.2.1, ⟨hk.2.2.2.2.1, hk.2.2.2.2.2⟩⟩⟩⟩, hk.2.1⟩))).2.1 (Kd.V_F (Kd.V_mono (ok' := (fun k_ => ((fun k_ => (P0_ k_ ∨ w.heap.size ≤ k_) ∧ some k_ ≠ (.slice Ao39 y146.length co39 : Value).ownBlock ∧ k_ ≠ gb136 ∧ k_ ≠ gb138 ∧ k_ ≠ gb140)) k_ ∧ some k_ ≠ (u10 : Value).ownBlock)) (HL139_3.out) (fun k_ hk => ⟨⟨hk.1, ⟨hk.2.2.1, ⟨hk.2.2.2.1, ⟨hk.2.2.2.2.1, hk.2.2.2.2.2⟩⟩⟩⟩, hk.2.1⟩))) (Kd.V_reads' (Kd.V_mono (ok' := (fun k_ => ((fun k_ => (P0_ k_ ∨ w.heap.size ≤ k_) ∧ some k_ ≠ (.slice Ao39 y146.length co39 : Value).ownBlock ∧ k_ ≠ gb136 ∧ k_ ≠ gb138 ∧ k_ ≠ gb140)) k_ ∧ some k_ ≠ (u10 : Value).ownBlock)) (HL139_4.out) (fun k_ hk => ⟨⟨hk.1, ⟨hk.2.2.1, ⟨hk.2.2.2.1, ⟨hk.2.2.2.2.1, hk.2.2.2.2.2⟩⟩⟩⟩, hk.2.1⟩))).2.1 (Kd.V_F (Kd.V_mono (ok' := (fun k_ => ((fun k_ => (P0_ k_ ∨ w.heap.size ≤ k_) ∧ some k_ ≠ (.slice Ao39 y146.length co39 : Value).ownBlock ∧ k_ ≠ gb136 ∧ k_ ≠ gb138 ∧ k_ ≠ gb140)) k_ ∧ some k_ ≠ (u10 : Value).ownBlock)) (HL139_4.out) (fun k_ hk => ⟨⟨hk.1, ⟨hk.2.2.1, ⟨hk.2.2.2.1, ⟨hk.2.2.2.2.1, hk.2.2.2.2.2⟩⟩⟩⟩, hk.2.1⟩))) (Kd.V_reads' (Kd.V_mono (ok' := (fun k_ => ((fun k_ => (P0_ k_ ∨ w.heap.size ≤ k_) ∧ some k_ ≠ (.slice Ao39 y146.length co39 : Value).ownBlock ∧ k_ ≠ gb136 ∧ k_ ≠ gb138 ∧ k_ ≠ gb140)) k_ ∧ some k_ ≠ (u10 : Value).ownBlock)) (HL139_5.out) (fun k_ hk => ⟨⟨hk.1, ⟨hk.2.2.1, ⟨hk.2.2.2.1, ⟨hk.2.2.2.2.1, hk.2.2.2.2.2⟩⟩⟩⟩, hk.2.1⟩))).2.1 (Kd.V_F (Kd.V_mono (ok' := (fun k_ => ((fun k_ => (P0_ k_ ∨ w.heap.size ≤ k_) ∧ some k_ ≠ (.slice Ao39 y146.length co39 : Value).ownBlock ∧ k_ ≠ gb136 ∧ k_ ≠ gb138 ∧ k_ ≠ gb140)) k_ ∧ some k_ ≠ (u10 : Value).ownBlock)) (HL139_5.out) (fun k_ hk => ⟨⟨hk.1, ⟨hk.2.2.1, ⟨hk.2.2.2.1, ⟨hk.2.2.2.2.1, hk.2.2.2.2.2⟩⟩⟩⟩, hk.2.1⟩))) (Kd.V_reads' (Kd.V_mono (ok' := (fun k_ => ((fun k_ => (P0_ k_ ∨ w.heap.size ≤ k_) ∧ some k_ ≠ (.slice Ao39 y146.length co39 : Value).ownBlock ∧ k_ ≠ gb136 ∧ k_ ≠ gb138 ∧ k_ ≠ gb140)) k_ ∧ some k_ ≠ (u10 : Value).ownBlock)) (HL139_6.out) (fun k_ hk => ⟨⟨hk.1, ⟨hk.2.2.1, ⟨hk.2.2.2.1, ⟨hk.2.2.2.2.1, hk.2.2.2.2.2⟩⟩⟩⟩, hk.2.1⟩))).2.1 (Kd.V_F (Kd.V_mono (ok' := (fun k_ => ((fun k_ => (P0_ k_ ∨ w.heap.size ≤ k_) ∧ some k_ ≠ (.slice Ao39 y146.length co39 : Value).ownBlock ∧ k_ ≠ gb136 ∧ k_ ≠ gb138 ∧ k_ ≠ gb140)) k_ ∧ some k_ ≠ (u10 : Value).ownBlock)) (HL139_6.out) (fun k_ hk => ⟨⟨hk.1, ⟨hk.2.2.1, ⟨hk.2.2.2.1, ⟨hk.2.2.2.2.1, hk.2.2.2.2.2⟩⟩⟩⟩, hk.2.1⟩))))); (case aB => exact (hb3_ HB.out GE136.out GE138.out GE140.out)); (case aF => exact (fun k_ hk => ⟨(.inr (Nat.le_trans (below_size (hb3_ HB.out GE136.out GE138.out GE140.out)) hk)), Kd.fresh' (Kd.N_lt (kN_ HO148.out)) k_ hk, Kd.freshB (g := gb136) (o := .cells #[.int .i64 0, .int .i64 0, .slice none 0 0, .slice none 0 0, .slice none 0 0, .slice none 0 0, .slice none 0 0, .bool false] 31 (0, 0)) (bk_ BK136.out) k_ hk, Kd.freshB (g := gb138) (o := .cells #[.int .i64 x139000_2, .int .i64 x139001_2, .slice none 0 0, .slice none 0 0, .slice none 0 0, .slice Ao39 y146.length co39, .slice none 0 0, .bool false] 31 (0, 0)) (bk_ BK138.out) k_ hk, Kd.freshB (g := gb140) (o := .cells #[.int .i64 ((rd_T31 l0 x43_2).f0), .int .i64 ((rd_T31 l0 x43_2).f1), .slice A139_2 ((rd_T31 l0 x43_2).f2).length c139_2, .slice A139_3 ((rd_T31 l0 x43_2).f3).length c139_3, .slice A139_4 ((rd_T31 l0 x43_2).f4).length c139_4, .slice A139_5 ((rd_T31 l0 x43_2).f5).length c139_5, .slice A139_6 ((rd_T31 l0 x43_2).f6).length c139_6, .bool ((rd_T31 l0 x43_2).f7)] 31 (0, 0)) (bk_ BK140.out) k_ hk⟩)); (case aO => exact (kN_ HO_10.out)); (case aS => exact (below_size (hb3_ HB.out GE136.out GE138.out GE140.out))); (case aL => have := LMc54.out; omega); intro v172 w70 ho hb hg hat; rw [← Ny171.out] at ho; have n0_ := Aside0.mk (Kd.V_afterv (ok := (fun k_ => (P0_ k_ ∨ w.heap.size ≤ k_) ∧ some k_ ≠ (.slice Ao39 y146.length co39 : Value).ownBlock ∧ k_ ≠ gb136 ∧ k_ ≠ gb138 ∧ k_ ≠ gb140)) (by (with_reducible repeat (first | apply Kd.V_alloc | apply Kd.V_drewN | apply Kd.V_drew)); exact Kd.V_mono HO_41.out (fun _ hk => ⟨⟨hk.1, ⟨hk.2.2.1, ⟨hk.2.2.2.1, ⟨hk.2.2.2.2.1, hk.2.2.2.2.2⟩⟩⟩⟩, hk.2.1⟩)) hg hat); have n1_ := Aside0.mk (blk_grown (g := gb136) (o := .cells #[.int .i64 0, .int .i64 0, .slice none 0 0, .slice none 0 0, .slice none 0 0, .slice none 0 0, .slice none 0 0, .bool false] 31 (0, 0)) (bk_ BK136.out) hg (Kd.N_away HO_10.out (fun _ hk => hk.2.2.1))); have n2_ := Aside0.mk (blk_grown (g := gb138) (o := .cells #[.int .i64 x139000_2, .int .i64 x139001_2, .slice none 0 0, .slice none 0 0, .slice none 0 0, .slice Ao39 y146.length co39, .slice none 0 0, .bool false] 31 (0, 0)) (bk_ BK138.out) hg (Kd.N_away HO_10.out (fun _ hk => hk.2.2.2.1))); have n3_ := Aside0.mk (Kd.V_afterv (ok := (fun k_ => (P0_ k_ ∨ w.heap.size ≤ k_) ∧ some k_ ≠ (.slice Ao39 y146.length co39 : Value).ownBlock ∧ k_ ≠ gb136 ∧ k_ ≠ gb138 ∧ k_ ≠ gb140)) (by (with_reducible repeat (first | apply Kd.V_alloc | apply Kd.V_drewN | apply Kd.V_drew)); exact Kd.V_mono HL139_2.out (fun _ hk => ⟨⟨hk.1, ⟨hk.2.2.1, ⟨hk.2.2.2.1, ⟨hk.2.2.2.2.1, hk.2.2.2.2.2⟩⟩⟩⟩, hk.2.1⟩)) hg hat); have n4_ := Aside0.mk (Kd.V_afterv (ok := (fun k_ => (P0_ k_ ∨ w.heap.size ≤ k_) ∧ some k_ ≠ (.slice Ao39 y146.length co39 : Value).ownBlock ∧ k_ ≠ gb136 ∧ k_ ≠ gb138 ∧ k_ ≠ gb140)) (by (with_reducible repeat (first | apply Kd.V_alloc | apply Kd.V_drewN | apply Kd.V_drew)); exact Kd.V_mono HL139_3.out (fun _ hk => ⟨⟨hk.1, ⟨hk.2.2.1, ⟨hk.2.2.2.1, ⟨hk.2.2.2.2.1, hk.2.2.2.2.2⟩⟩⟩⟩, hk.2.1⟩)) hg hat); have n5_ := Aside0.mk (Kd.V_afterv (ok := (fun k_ => (P0_ k_ ∨ w.heap.size ≤ k_) ∧ some k_ ≠ (.slice Ao39 y146.length co39 : Value).ownBlock ∧ k_ ≠ gb136 ∧ k_ ≠ gb138 ∧ k_ ≠ gb140)) (by (with_reducible repeat (first | apply Kd.V_alloc | apply Kd.V_drewN | apply Kd.V_drew)); exact Kd.V_mono HL139_4.out (fun _ hk => ⟨⟨hk.1, ⟨hk.2.2.1, ⟨hk.2.2.2.1, ⟨hk.2.2.2.2.1, hk.2.2.2.2.2⟩⟩⟩⟩, hk.2.1⟩)) hg hat); have n6_ := Aside0.mk (Kd.V_afterv (ok := (fun k_ => (P0_ k_ ∨ w.heap.size ≤ k_) ∧ some k_ ≠ (.slice Ao39 y146.length co39 : Value).ownBlock ∧ k_ ≠ gb136 ∧ k_ ≠ gb138 ∧ k_ ≠ gb140)) (by (with_reducible repeat (first | apply Kd.V_alloc | apply Kd.V_drewN | apply Kd.V_drew)); exact Kd.V_mono HL139_5.out (fun _ hk => ⟨⟨hk.1, ⟨hk.2.2.1, ⟨hk.2.2.2.1, ⟨hk.2.2.2.2.1, hk.2.2.2.2.2⟩⟩⟩⟩, hk.2.1⟩)) hg hat); have n7_ := Aside0.mk (Kd.V_afterv (ok := (fun k_ => (P0_ k_ ∨ w.heap.size ≤ k_) ∧ some k_ ≠ (.slice Ao39 y146.length co39 : Value).ownBlock ∧ k_ ≠ gb136 ∧ k_ ≠ gb138 ∧ k_ ≠ gb140)) (by (with_reducible repeat (first | apply Kd.V_alloc | apply Kd.V_drewN | apply Kd.V_drew)); exact Kd.V_mono HL139_6.out (fun _ hk => ⟨⟨hk.1, ⟨hk.2.2.1, ⟨hk.2.2.2.1, ⟨hk.2.2.2.2.1, hk.2.2.2.2.2⟩⟩⟩⟩, hk.2.1⟩)) hg hat); have n8_ := Aside0.mk (blk_grown (g := gb140) (o := .cells #[.int .i64 ((rd_T31 l0 x43_2).f0), .int .i64 ((rd_T31 l0 x43_2).f1), .slice A139_2 ((rd_T31 l0 x43_2).f2).length c139_2, .slice A139_3 ((rd_T31 l0 x43_2).f3).length c139_3, .slice A139_4 ((rd_T31 l0 x43_2).f4).length c139_4, .slice A139_5 ((rd_T31 l0 x43_2).f5).length c139_5, .slice A139_6 ((rd_T31 l0 x43_2).f6).length c139_6, .bool ((rd_T31 l0 x43_2).f7)] 31 (0, 0)) (bk_ BK140.out) hg (Kd.N_away HO_10.out (fun _ hk => hk.2.2.2.2))); have n9_ := Aside0.mk (Kd.N_afterv (ok := (fun k_ => (P0_ k_ ∨ w.heap.size ≤ k_) ∧ k_ ≠ gb136 ∧ k_ ≠ gb138 ∧ k_ ≠ gb140)) (by (with_reducible repeat (first | apply Kd.N_alloc | apply Kd.N_drewN | apply Kd.N_drew)); exact Kd.N_mono HO148.out (fun _ hk => ⟨⟨hk.1, ⟨hk.2.2.1, ⟨hk.2.2.2.1, hk.2.2.2.2⟩⟩⟩, hk.2.1⟩)) hg hat); have n10_ := Aside0.mk (hb); have n11_ := Aside0.mk (ho); clear HO_41 BK136 BK138 HL139_2 HL139_3 HL139_4 HL139_5 HL139_6 BK140 HO148 HB HO_10; have HO_41 := n0_; have BK136 := n1_; have BK138 := n2_; have HL139_2 := n3_; have HL139_3 := n4_; have HL139_4 := n5_; have HL139_5 := n6_; have HL139_6 := n7_; have BK140 := n8_; have HO148 := n9_; have HB := n10_; have HO173 := n11_; clear n0_ n1_ n2_ n3_ n4_ n5_ n6_ n7_ n8_ n9_ n10_ n11_ ho hb hg hat))
         have n0_ := Aside0.mk (Kd.V_drew HO_41.out)
         have n1_ := Aside0.mk (Kd.V_drew HL139_2.out)
         have n2_ := Aside0.mk (Kd.V_drew HL139_3.out)
         have n3_ := Aside0.mk (Kd.V_drew HL139_4.out)
         have n4_ := Aside0.mk (Kd.V_drew HL139_5.out)
         have n5_ := Aside0.mk (Kd.V_drew HL139_6.out)
         have n6_ := Aside0.mk (Kd.N_drew HO148.out)
         have n7_ := Aside0.mk (Kd.N_drew HO173.out)
         have n8_ := Aside0.mk (blk_drew BK136.out)
         have n9_ := Aside0.mk (blk_drew BK138.out)
         have n10_ := Aside0.mk (blk_drew BK140.out)
         have n11_ := Aside0.mk (below_drew1 HB.out)
         clear HO_41
         clear HL139_2
         clear HL139_3
         clear HL139_4
         clear HL139_5
         clear HL139_6
         clear HO148
         clear HO173
         clear BK136
         clear BK138
         clear BK140
         clear HB
         have HO_41 := n0_
         have HL139_2 := n1_
         have HL139_3 := n2_
         have HL139_4 := n3_
         have HL139_5 := n4_
         have HL139_6 := n5_
         have HO148 := n6_
         have HO173 := n7_
         have BK136 := n8_
         have BK138 := n9_
         have BK140 := n10_
         have HB := n11_
         clear n0_ n1_ n2_ n3_ n4_ n5_ n6_ n7_ n8_ n9_ n10_ n11_
         refine start_ (n := 14) (S := fun w' => w'.cell? ⟨gb138, 1, none⟩ = some (.int .i64 x139001_2) ∧ w'.cell? ⟨gb140, 0, none⟩ = some (.int .i64 ((rd_T31 l0 x43_2).f0)) ∧ w'.cell? ⟨gb140, 1, none⟩ = some (.int .i64 ((rd_T31 l0 x43_2).f1))) (ds := [13]) #[false,false,false,false,false,false,false,false,false,false,false,false,false,false] (by kernel_rfl) rfl rfl ⟨(blk_cell BK138.out 1).trans rfl, (blk_cell BK140.out 0).trans rfl, (blk_cell BK140.out 1).trans rfl⟩ (fun hHeld => ?_); refine with_tabW sum_Lay.tab15 sum_Lay.bits15 (fun HT_ HW_ => ?_)
         generalize w70.drew = w71 at HO_41 HL139_2 HL139_3 HL139_4 HL139_5 HL139_6 HO148 HO173 BK136 BK138 BK140 HB hHeld ⊢
         have hLd0_0 := (blk_cell BK138.out 0).trans (rfl : _ = some ((.int .i64 x139000_2) : Value))
         refine pure_ (i := 0) (N := some 76) (v := ?_) (a' := ?_) #[true,false,false,false,false,false,false,false,false,false,false,false,false,false] rfl rfl (any_of HT_.out (by kernel_rfl)) (fun _ _ _ h => h) (Or.inl ⟨by rfl, ?_⟩) ?_ ?_
         rotate_left
         ·
          intro w'
          go_simp
          with_reducible rfl
         rotate_left
         ·
          simp only [Act.put, setIfInBounds_toArray, set_cons_zero, set_cons_succ, i64_w, i32_w]
          rfl
         refine pure_ (i := 2) (N := some 78) (v := ?_) (a' := ?_) #[true,false,true,false,false,false,false,false,false,false,false,false,false,false] rfl rfl (any_of HT_.out (by kernel_rfl)) (fun _ _ _ h => h) (Or.inl ⟨by rfl, ?_⟩) ?_ ?_
         rotate_left
         ·
          intro w'
          go_simp
          with_reducible rfl
         rotate_left
         ·
          simp only [Act.put, setIfInBounds_toArray, set_cons_zero, set_cons_succ, i64_w, i32_w]
          rfl
         refine pure_ (i := 5) (N := some 81) (v := ?_) (a' := ?_) #[true,false,true,false,false,true,false,false,false,false,false,false,false,false] rfl rfl (any_of HT_.out (by kernel_rfl)) (fun _ _ _ h => h) (Or.inl ⟨by rfl, ?_⟩) ?_ ?_
         rotate_left
         ·
          intro w'
          go_simp
          with_reducible rfl
         rotate_left
         ·
          simp only [Act.put, setIfInBounds_toArray, set_cons_zero, set_cons_succ, i64_w, i32_w]
          rfl
         refine pure_ (i := 7) (N := some 83) (v := ?_) (a' := ?_) #[true,false,true,false,false,true,false,true,false,false,false,false,false,false] rfl rfl (any_of HT_.out (by kernel_rfl)) (fun _ _ _ h => h) (Or.inl ⟨by rfl, ?_⟩) ?_ ?_
         rotate_left
         ·
          intro w'
          go_simp
          with_reducible rfl
         rotate_left
         ·
          simp only [Act.put, setIfInBounds_toArray, set_cons_zero, set_cons_succ, i64_w, i32_w]
          rfl
         refine take_ (i := 3) (N := some 79) (v := ?_) (a' := ?_) #[true,false,true,true,false,true,false,true,false,false,false,false,false,false] rfl rfl (take_ofW HT_.out HW_.out (by kernel_rfl)) (fun _ _ _ h => h) (Or.inl ⟨by rfl, ?_⟩) hHeld ?_ ?_
         rotate_left
         ·
          rintro w' ⟨s0, s1, s2⟩
          go_simp
          with_reducible rfl
         rotate_left
         ·
          simp only [Act.put, setIfInBounds_toArray, set_cons_zero, set_cons_succ, i64_w, i32_w]
          rfl
         refine take_ (i := 6) (N := some 82) (v := ?_) (a' := ?_) #[true,false,true,true,false,true,true,true,false,false,false,false,false,false] rfl rfl (take_ofW HT_.out HW_.out (by kernel_rfl)) (fun _ _ _ h => h) (Or.inl ⟨by rfl, ?_⟩) hHeld ?_ ?_
         rotate_left
         ·
          rintro w' ⟨s0, s1, s2⟩
          go_simp
          with_reducible rfl
         rotate_left
         ·
          simp only [Act.put, setIfInBounds_toArray, set_cons_zero, set_cons_succ, i64_w, i32_w]
          rfl
         refine take_ (i := 8) (N := some 84) (v := ?_) (a' := ?_) #[true,false,true,true,false,true,true,true,true,false,false,false,false,false] rfl rfl (take_ofW HT_.out HW_.out (by kernel_rfl)) (fun _ _ _ h => h) (Or.inl ⟨by rfl, ?_⟩) hHeld ?_ ?_
         rotate_left
         ·
          rintro w' ⟨s0, s1, s2⟩
          go_simp
          with_reducible rfl
         rotate_left
         ·
          simp only [Act.put, setIfInBounds_toArray, set_cons_zero, set_cons_succ, i64_w, i32_w]
          rfl
         refine pure_ (i := 9) (N := some 85) (v := ?_) (a' := ?_) #[true,false,true,true,false,true,true,true,true,true,false,false,false,false] rfl rfl (any_of HT_.out (by kernel_rfl)) (fun _ _ _ h => h) (Or.inl ⟨by rfl, ?_⟩) ?_ ?_
         rotate_left
         ·
          intro w'
          go_simp
          with_reducible rfl
         rotate_left
         ·
          simp only [Act.put, setIfInBounds_toArray, set_cons_zero, set_cons_succ, i64_w, i32_w]
          rfl
         refine one_ (i := 1) (N := some 77) #[true,true,true,true,false,true,true,true,true,true,false,false,false,false] rfl rfl (one_of HT_.out (by kernel_rfl)) (by decide) (fun K hK => ?_)
         refine value_ (w1 := ?_) (v := ?_) (by rfl) rfl ?_ ?_
         rotate_left 2
         ·
          go_simp
          constructor
          ·
           rfl
          ·
           rfl
         refine hK.out _ _ ⟨hHeld.1, hHeld.2.1, hHeld.2.2⟩ (fun hHeld => ?_)
         clear hK K
         refine norm_ (a' := ?_) ?_ ?_
         rotate_left
         ·
          show Act.put _ (some 77) _ = _
          simp only [Act.put, setIfInBounds_toArray, set_cons_zero, set_cons_succ, i64_w, i32_w]
          rfl
         refine pure_ (i := 4) (N := some 80) (v := ?_) (a' := ?_) #[true,true,true,true,true,true,true,true,true,true,false,false,false,false] rfl rfl (any_of HT_.out (by kernel_rfl)) (fun _ _ _ h => h) (Or.inl ⟨by rfl, ?_⟩) ?_ ?_
         rotate_left
         ·
          intro w'
          go_simp
          with_reducible rfl
         rotate_left
         ·
          simp only [Act.put, setIfInBounds_toArray, set_cons_zero, set_cons_succ, i64_w, i32_w]
          rfl
         refine pure_ (i := 10) (N := some 86) (v := ?_) (a' := ?_) #[true,true,true,true,true,true,true,true,true,true,true,false,false,false] rfl rfl (any_of HT_.out (by kernel_rfl)) (fun _ _ _ h => h) (Or.inl ⟨by rfl, ?_⟩) ?_ ?_
         rotate_left
         ·
          intro w'
          go_simp
          with_reducible rfl
         rotate_left
         ·
          simp only [Act.put, setIfInBounds_toArray, set_cons_zero, set_cons_succ, i64_w, i32_w]
          rfl
         refine one_ (i := 11) (N := none) #[true,true,true,true,true,true,true,true,true,true,true,true,false,false] rfl rfl (one_of HT_.out (by kernel_rfl)) (by decide) (fun K hK => ?_)
         have hs72 : w71.cell? ⟨gb138, 0, none⟩ = some (.int .i64 x139000_2) := (blk_cell BK138.out 0).trans rfl
         have hfs72 := blk_frozen BK138.out 0
         have hns72_0 := NB136_138.out
         have hns72_2 := NB140_138.out
         have hms72_0 := NB138_136.out
         have hms72_2 := NB138_140.out
         refine skip_ (w1 := ?_) (by rfl) rfl ?_ ?_
         rotate_left
         ·
          go_simp
          rfl
         refine hK.out _ _ ⟨((World.cell?_setCell_other _ ⟨gb138, 0, none⟩ ⟨gb138, 1, none⟩ _ (by simp)).trans (hHeld.1)), ((cell_far (p := ⟨gb138, _, none⟩) NB140_138.out _).trans (hHeld.2.1)), ((cell_far (p := ⟨gb138, _, none⟩) NB140_138.out _).trans (hHeld.2.2))⟩ (fun hHeld => ?_)
         clear hK K
         refine pure_ (i := 12) (N := some 87) (v := ?_) (a' := ?_) #[true,true,true,true,true,true,true,true,true,true,true,true,true,false] rfl rfl (any_of HT_.out (by kernel_rfl)) (fun _ _ _ h => h) (Or.inl ⟨by rfl, ?_⟩) ?_ ?_
         rotate_left
         ·
          intro w'
          go_simp
          with_reducible rfl
         rotate_left
         ·
          simp only [Act.put, setIfInBounds_toArray, set_cons_zero, set_cons_succ, i64_w, i32_w]
          rfl
         refine last_ (i := 13) (N := none) #[true,true,true,true,true,true,true,true,true,true,true,true,true,true] rfl rfl (one_of HT_.out (by kernel_rfl)) (by decide) (fun K hK => ?_)
         have hs73 : w71.cell? ⟨gb138, 1, none⟩ = some (.int .i64 x139001_2) := (blk_cell BK138.out 1).trans rfl
         have hfs73 := blk_frozen BK138.out 1
         have hns73_0 := NB136_138.out
         have hns73_2 := NB140_138.out
         have hms73_0 := NB138_136.out
         have hms73_2 := NB138_140.out
         refine skip_ (w1 := ?_) (by rfl) rfl ?_ ?_
         rotate_left
         ·
          go_simp
          rfl
         refine hK.out _ _ ?_
         clear hK K
         refine done_ (done_of HT_.out (by kernel_rfl)) ?_
         try go_wp2
         go_roundg k2
         case measure => have := HJ4.out; have := HK2.out; omega
         case rel => exact ⟨(y171), (wrap64 (x43_2 + 1)), (ji55), (ji56), (y146), (.slice Ao39 y146.length co39), (by first | rfl | (simp; done) | (simp [*]; done)), H', ⟨by have := HJ4.out; have := HK2.out; omega⟩, ⟨by (with_reducible repeat (first | apply Kd.N_alloc | apply Kd.N_drewN | apply Kd.N_drew)); exact Kd.N_mono (Kd.N_far (p := ⟨gb138, 1, none⟩) (Kd.N_far (p := ⟨gb138, 0, none⟩) (Kd.N_mono HO173.out (fun k_ hk => (⟨hk, hk.2.2.2.1⟩ : _ ∧ k_ ≠ gb138))) (fun _ hk => hk.2) (.int .i64 ji55)) (fun _ hk => hk.2) (.int .i64 ji56)) (fun _ hk => ⟨hk.1.1, ⟨hk.1.2.1, ⟨hk.1.2.2.1, hk.1.2.2.2.1⟩⟩⟩)⟩, ⟨by (with_reducible repeat (first | apply Kd.V_alloc | apply Kd.V_drewN | apply Kd.V_drew)); exact Kd.V_mono (Kd.V_far (p := ⟨gb138, 1, none⟩) (Kd.V_far (p := ⟨gb138, 0, none⟩) (Kd.V_mono HO_41.out (fun k_ hk => (⟨hk, hk.1.2.2.2.1⟩ : _ ∧ k_ ≠ gb138))) (fun _ hk => hk.2) (.int .i64 ji55)) (fun _ hk => hk.2) (.int .i64 ji56)) (fun _ hk => ⟨hk.1.1.1, ⟨hk.1.2, ⟨hk.1.1.2.1, ⟨hk.1.1.2.2.1, hk.1.1.2.2.2.1⟩⟩⟩⟩)⟩, ⟨by (with_reducible repeat (first | apply Kd.N_alloc | apply Kd.N_drewN | apply Kd.N_drew)); exact Kd.N_mono (Kd.N_far (p := ⟨gb138, 1, none⟩) (Kd.N_far (p := ⟨gb138, 0, none⟩) (Kd.N_mono HO148.out (fun k_ hk => (⟨hk, hk.1.2.2.1⟩ : _ ∧ k_ ≠ gb138))) (fun _ hk => hk.2) (.int .i64 ji55)) (fun _ hk => hk.2) (.int .i64 ji56)) (fun _ hk => ⟨hk.1.1.1, ⟨hk.1.2, ⟨hk.1.1.2.1, hk.1.1.2.2.1⟩⟩⟩)⟩, ⟨by (with_reducible repeat (first | refine blk_drewN ?_ _ | refine blk_drew ?_ | refine blk_alloc ?_ _)); refine blk_far ?_ NB136_138.out _; (with_reducible repeat (first | refine blk_drewN ?_ _ | refine blk_drew ?_ | refine blk_alloc ?_ _)); refine blk_far ?_ NB136_138.out _; (with_reducible repeat (first | refine blk_drewN ?_ _ | refine blk_drew ?_ | refine blk_alloc ?_ _)); exact BK136.out⟩, ⟨by (with_reducible repeat (first | refine blk_drewN ?_ _ | refine blk_drew ?_ | refine blk_alloc ?_ _)); refine blk_put (cs := #[.int .i64 ji55, .int .i64 x139001_2, .slice none 0 0, .slice none 0 0, .slice none 0 0, .slice Ao39 y146.length co39, .slice none 0 0, .bool false]) ?_ 1 _ rfl; (with_reducible repeat (first | refine blk_drewN ?_ _ | refine blk_drew ?_ | refine blk_alloc ?_ _)); refine blk_put (cs := #[.int .i64 x139000_2, .int .i64 x139001_2, .slice none 0 0, .slice none 0 0, .slice none 0 0, .slice Ao39 y146.length co39, .slice none 0 0, .bool false]) ?_ 0 _ rfl; (with_reducible repeat (first | refine blk_drewN ?_ _ | refine blk_drew ?_ | refine blk_alloc ?_ _)); exact BK138.out⟩, ⟨by repeat (first | (with_reducible first | exact HB.out | apply below_alloc | apply pw_below_drewN | apply below_drew1 | refine below_set ?_ GE136.out | refine below_set ?_ GE138.out | refine below_set ?_ GE140.out) | exact HB.out)⟩⟩
       ·
        rw [if_neg c17] at H
        have c17b0 : decide (x43_2 < (l0.length : Int)) = false := decide_eq_false c17
        clear c17
        replace H := Option.bind_eq_some_iff.mp H
        obtain ⟨t174, A740, H⟩ := H
        try dsimp only at H
        have A74 := Aside0.mk A740
        clear A740
        replace H := Option.bind_eq_some_iff.mp H
        obtain ⟨t177, A750, H⟩ := H
        try dsimp only at H
        have A75 := Aside0.mk A750
        clear A750
        replace H := Option.bind_eq_some_iff.mp H
        obtain ⟨⟨t178, t179⟩, A760, H⟩ := H
        try dsimp only at H
        have A76 := Aside0.mk A760
        clear A760
        by_cases c77 : t179 = true
        ·
         subst c77
         have H1 : ((mask_Clear.f k2 t174 t178).bind fun t182 => (some (x139000_2, x139001_2, t182, ([] : List Int), ([] : List (S101)), x139005_2, t178, false, 0))) = some (r1, r2, r3, r4, r5, r6, r7, r8, r9) := by rw [if_pos rfl] at H; exact H
         clear H
         have H := H1
         clear H1
         replace H := Option.bind_eq_some_iff.mp H
         obtain ⟨t182, A780, H⟩ := H
         replace H : (some (x139000_2, x139001_2, t182, ([] : List Int), ([] : List (S101)), x139005_2, t178, false, 0)) = some (r1, r2, r3, r4, r5, r6, r7, r8, r9) := H
         have A78 := Aside0.mk A780
         clear A780
         simp only [Option.some.injEq, Prod.mk.injEq] at H
         obtain ⟨rfl, rfl, rfl, rfl, rfl, rfl, rfl, rfl, rfl⟩ := H
         have hnb79 := NB138_136.out
         have hnc79 := NB136_138.out
         have hcz80_0 : wr.cell? ⟨gb138, 0, none⟩ = some (.int .i64 x139000_2) := (blk_cell BK138.out 0).trans rfl
         have hcz80_1 : wr.cell? ⟨gb138, 1, none⟩ = some (.int .i64 x139001_2) := (blk_cell BK138.out 1).trans rfl
         have hcz80_2 : wr.cell? ⟨gb138, 2, none⟩ = some (.slice none 0 0) := (blk_cell BK138.out 2).trans rfl
         have hcz80_3 : wr.cell? ⟨gb138, 3, none⟩ = some (.slice none 0 0) := (blk_cell BK138.out 3).trans rfl
         have hcz80_4 : wr.cell? ⟨gb138, 4, none⟩ = some (.slice none 0 0) := (blk_cell BK138.out 4).trans rfl
         have hcz80_5 : wr.cell? ⟨gb138, 5, none⟩ = some (u139005) := (blk_cell BK138.out 5).trans rfl
         have hcz80_6 : wr.cell? ⟨gb138, 6, none⟩ = some (.slice none 0 0) := (blk_cell BK138.out 6).trans rfl
         have hcz80_7 : wr.cell? ⟨gb138, 7, none⟩ = some (.bool false) := (blk_cell BK138.out 7).trans rfl
         have hfz80_0 := blk_frozen BK138.out 0
         have hfz80_1 := blk_frozen BK138.out 1
         have hfz80_2 := blk_frozen BK138.out 2
         have hfz80_3 := blk_frozen BK138.out 3
         have hfz80_4 := blk_frozen BK138.out 4
         have hfz80_5 := blk_frozen BK138.out 5
         have hfz80_6 := blk_frozen BK138.out 6
         have hfz80_7 := blk_frozen BK138.out 7
         obtain ⟨Ao81, co81, eo81⟩ := Kd.N_slice HO_10.out
         subst eo81
         go_wp2_with (first | ((with_reducible refine gate_callee (f := 79) rfl ?_); refine goesL_ (some 92) rfl rfl Try.func79 (by kernel_rfl) rfl #[.slice Ao81 x10_2.length co81, .int .i64 x139000_2] rfl (by (try simp only [List.map_toArray, List.map_cons, List.map_nil]); first | done | rfl | (simp only [List.length_drop, List.length_take]; rfl)) ?_; (with_reducible refine (sum_common.calls k2 _ _ x10_2 x139000_2 t174 _ ?side1 ?side2 A74.out).mono ?_); (case side1 => repeat (first | exact (Kd.N_reads' HO_10.out).2.2 | (with_reducible refine Kd.C_alloc ?_ _) | (with_reducible refine Kd.C_drewN ?_ _) | (with_reducible refine Kd.C_drew ?_))); (case side2 => exact (Kd.N_reads' HO_10.out).2.1); rintro e w82 ⟨v175, rfl, ho0, hb⟩; refine ⟨_, rfl, ?_⟩; have n0_ := Aside0.mk (Kd.N_elder' (kN_ HO_10.out) (Kd.R_base ho0) hb); have n1_ := Aside0.mk (Kd.V_elder' (kV_ HO_41.out) (Kd.R_base ho0) hb); have n2_ := Aside0.mk (Kd.N_elder' (kN_ HO_139005.out) (Kd.R_base ho0) hb); have n3_ := Aside0.mk (Kd.R_lower (Kd.R_newM (M := fun k_ => (w.heap.size ≤ k_)) ho0 (below_size (hb2_ HB.out GE136.out GE138.out)) (fun k_ h_ => h_)) (below_size (hb2_ HB.out GE136.out GE138.out))); have n4_ := Aside0.mk (blk_below (g := gb136) (o := .cells #[.int .i64 0, .int .i64 0, .slice none 0 0, .slice none 0 0, .slice none 0 0, .slice none 0 0, .slice none 0 0, .bool false] 31 (0, 0)) (bk_ BK136.out) hb); have n5_ := Aside0.mk (blk_below (g := gb138) (o := .cells #[.int .i64 x139000_2, .int .i64 x139001_2, .slice none 0 0, .slice none 0 0, .slice none 0 0, u139005, .slice none 0 0, .bool false] 31 (0, 0)) (bk_ BK138.out) hb); have n6_ := Aside0.mk (below_step (hb2_ HB.out GE136.out GE138.out) hb); clear HO_10 HO_41 HO_139005 BK136 BK138 HB; have HO_10 := n0_; have HO_41 := n1_; have HO_139005 := n2_; have HO176 := n3_; have BK136 := n4_; have BK138 := n5_; have HB := n6_; clear n0_ n1_ n2_ n3_ n4_ n5_ n6_; (try clear hb); (try clear hb2); (try clear hk); (try clear hi); (try clear ho0)) | ((with_reducible refine gate_callee (f := 42) rfl ?_); refine goesL_ (some 95) rfl rfl Try.func42 (by kernel_rfl) rfl #[.int .i64 (l1.length : Int)] rfl (by (try simp only [List.map_toArray, List.map_cons, List.map_nil]); first | done | rfl | (simp only [List.length_drop, List.length_take]; rfl)) ?_; (with_reducible refine (sum_TagSize.calls k2 (l1.length : Int) t177 _ A75.out).mono ?_); rintro e w' ⟨rfl, ⟨nd, rfl⟩⟩; refine ⟨_, rfl, ?_⟩; (try (rw [drewN_self w82]; generalize hq_ : World.drewN w82 _ = w82; have n0_ : Aside0 (Kd.R (Kd.int .u8) 5 w82 w.heap.size (fun k_ => (((w.heap.size ≤ k_)) ∧ True)) v175 t174) := ⟨by rw [← hq_]; exact (kR_ HO176.out)⟩; have n1_ : Aside0 (Kd.N k31 31 w82 w.heap.size (fun k_ => ((((P0_ k_ ∨ w.heap.size ≤ k_)) ∧ (some k_ ≠ (u139005 : Value).ownBlock ∧ (k_ ≠ gb136 ∧ k_ ≠ gb138))) ∧ some k_ ≠ (v175 : Value).ownBlock)) (.slice Ao81 x10_2.length co81) x10_2) := ⟨by rw [← hq_]; exact (kN_ HO_10.out)⟩; have n2_ : Aside0 (Kd.N k79 79 w82 w.heap.size (fun k_ => ((((P0_ k_ ∨ w.heap.size ≤ k_)) ∧ (some k_ ≠ (.slice Ao81 x10_2.length co81 : Value).ownBlock ∧ (k_ ≠ gb136 ∧ k_ ≠ gb138))) ∧ some k_ ≠ (v175 : Value).ownBlock)) u139005 x139005_2) := ⟨by rw [← hq_]; exact (kN_ HO_139005.out)⟩; have n3_ : Aside0 (Kd.V k31 31 w82 w.heap.size (fun k_ => ((((P0_ k_ ∨ w.heap.size ≤ k_)) ∧ (some k_ ≠ (.slice Ao81 x10_2.length co81 : Value).ownBlock ∧ (some k_ ≠ (u139005 : Value).ownBlock ∧ (k_ ≠ gb136 ∧ k_ ≠ gb138)))) ∧ some k_ ≠ (v175 : Value).ownBlock)) (.slice A0 l0.length c0) l0) := ⟨by rw [← hq_]; exact (kV_ HO_41.out)⟩; have n4_ : Aside0 (w82.heap[gb136]? = some (.cells #[.int .i64 0, .int .i64 0, .slice none 0 0, .slice none 0 0, .slice none 0 0, .slice none 0 0, .slice none 0 0, .bool false] 31 (0, 0))) := ⟨by rw [← hq_]; exact (bk_ BK136.out)⟩; have n5_ : Aside0 (w82.heap[gb138]? = some (.cells #[.int .i64 x139000_2, .int .i64 x139001_2, .slice none 0 0, .slice none 0 0, .slice none 0 0, u139005, .slice none 0 0, .bool false] 31 (0, 0))) := ⟨by rw [← hq_]; exact (bk_ BK138.out)⟩; have n6_ : Aside0 (Below w.heap.size w w82) := ⟨by rw [← hq_]; exact (hb2_ HB.out GE136.out GE138.out)⟩; clear HO176 HO_10 HO_139005 HO_41 BK136 BK138 HB hq_; have HO176 := n0_; have HO_10 := n1_; have HO_139005 := n2_; have HO_41 := n3_; have BK136 := n4_; have BK138 := n5_; have HB := n6_; clear n0_ n1_ n2_ n3_ n4_ n5_ n6_)); obtain ⟨Ao83, co83, eo83⟩ := Kd.R_slice HO176.out; subst eo83) | ((with_reducible refine gate_callee (f := 44) rfl ?_); refine goesL_ (some 99) rfl rfl Try.func44 (by kernel_rfl) rfl #[.slice Ao83 t174.length co83, .int .i64 t177] rfl (by (try simp only [List.map_toArray, List.map_cons, List.map_nil]); first | done | rfl | (simp only [List.length_drop, List.length_take]; rfl)) ?_; (with_reducible refine (mask_Bits.calls k2 _ _ t174 t177 t178 true _ ?side1 ?side2 A76.out).mono ?_); (case side1 => repeat (first | exact (Kd.R_reads' HO176.out).2.2 | (with_reducible refine Kd.C_alloc ?_ _) | (with_reducible refine Kd.C_drewN ?_ _) | (with_reducible refine Kd.C_drew ?_))); (case side2 => exact (Kd.R_reads' HO176.out).2.1); rintro e w84 ⟨v180, rfl, ho0, hb⟩; refine ⟨_, rfl, ?_⟩; have n0_ := Aside0.mk (Kd.N_elder' (kN_ HO_10.out) (Kd.R_base ho0) hb); have n1_ := Aside0.mk (Kd.V_elder' (kV_ HO_41.out) (Kd.R_base ho0) hb); have n2_ := Aside0.mk (Kd.N_elder' (kN_ HO_139005.out) (Kd.R_base ho0) hb); have n3_ := Aside0.mk (Kd.R_below (kR_ HO176.out) hb); have n4_ := Aside0.mk (Kd.R_lower (Kd.R_newM (M := fun k_ => (w.heap.size ≤ k_)) ho0 (below_size (hb2_ HB.out GE136.out GE138.out)) (fun k_ h_ => h_)) (below_size (hb2_ HB.out GE136.out GE138.out))); have n5_ := Aside0.mk (blk_below (g := gb136) (o := .cells #[.int .i64 0, .int .i64 0, .slice none 0 0, .slice none 0 0, .slice none 0 0, .slice none 0 0, .slice none 0 0, .bool false] 31 (0, 0)) (bk_ BK136.out) hb); have n6_ := Aside0.mk (blk_below (g := gb138) (o := .cells #[.int .i64 x139000_2, .int .i64 x139001_2, .slice none 0 0, .slice none 0 0, .slice none 0 0, u139005, .slice none 0 0, .bool false] 31 (0, 0)) (bk_ BK138.out) hb); have n7_ := Aside0.mk (below_step (hb2_ HB.out GE136.out GE138.out) hb); clear HO_10 HO_41 HO_139005 HO176 BK136 BK138 HB; have HO_10 := n0_; have HO_41 := n1_; have HO_139005 := n2_; have HO176 := n3_; have HO181 := n4_; have BK136 := n5_; have BK138 := n6_; have HB := n7_; clear n0_ n1_ n2_ n3_ n4_ n5_ n6_ n7_; (try clear hb); (try clear hb2); (try clear hk); (try clear hi); (try clear ho0); obtain ⟨Ao85, co85, eo85⟩ := Kd.R_slice HO181.out; subst eo85) | ((with_reducible refine gate_callee (f := 49) rfl ?_); refine goesL_ (some 131) rfl rfl Try.func49 (by kernel_rfl) rfl #[.slice Ao83 t174.length co83, .slice Ao85 t178.length co85] rfl (by (try simp only [List.map_toArray, List.map_cons, List.map_nil]); first | done | rfl | (simp only [List.length_drop, List.length_take]; rfl)) ?_; (with_reducible refine (mask_Clear.calls k2 _ _ t174 _ _ t178 t182 _ ?side1 ?side2 ?side3 ?side4 A78.out).mono ?_); (case side1 => repeat (first | exact (Kd.R_reads' HO176.out).2.2 | (with_reducible refine Kd.C_alloc ?_ _) | (with_reducible refine Kd.C_drewN ?_ _) | (with_reducible refine Kd.C_drew ?_))); (case side2 => exact (Kd.R_reads' HO176.out).2.1); (case side3 => repeat (first | exact (Kd.R_reads' HO181.out).2.2 | (with_reducible refine Kd.C_alloc ?_ _) | (with_reducible refine Kd.C_drewN ?_ _) | (with_reducible refine Kd.C_drew ?_))); (case side4 => exact (Kd.R_reads' HO181.out).2.1); rintro e w86 ⟨v183, rfl, ho0, hb⟩; refine ⟨_, rfl, ?_⟩; have n0_ := Aside0.mk (Kd.N_elder' (kN_ HO_10.out) (Kd.R_base ho0) hb); have n1_ := Aside0.mk (Kd.V_elder' (kV_ HO_41.out) (Kd.R_base ho0) hb); have n2_ := Aside0.mk (Kd.N_elder' (kN_ HO_139005.out) (Kd.R_base ho0) hb); have n3_ := Aside0.mk (Kd.R_elder' (kR_ HO176.out) (Kd.R_base ho0) hb); have n4_ := Aside0.mk (Kd.R_below (kR_ HO181.out) hb); have n5_ := Aside0.mk (Kd.R_lower (Kd.R_new' (Kd.R_newM (M := fun k_ => (w.heap.size ≤ k_)) ho0 (below_size (hb2_ HB.out GE136.out GE138.out)) (fun k_ h_ => h_)) (Kd.R_lt (kR_ HO176.out))) (below_size (hb2_ HB.out GE136.out GE138.out))); have n6_ := Aside0.mk (blk_below (g := gb136) (o := .cells #[.int .i64 0, .int .i64 0, .slice none 0 0, .slice none 0 0, .slice none 0 0, .slice none 0 0, .slice none 0 0, .bool false] 31 (0, 0)) (bk_ BK136.out) hb); have n7_ := Aside0.mk (blk_below (g := gb138) (o := .cells #[.int .i64 x139000_2, .int .i64 x139001_2, .slice none 0 0, .slice none 0 0, .slice none 0 0, u139005, .slice none 0 0, .bool false] 31 (0, 0)) (bk_ BK138.out) hb); have n8_ := Aside0.mk (below_step (hb2_ HB.out GE136.out GE138.out) hb); clear HO_10 HO_41 HO_139005 HO176 HO181 BK136 BK138 HB; have HO_10 := n0_; have HO_41 := n1_; have HO_139005 := n2_; have HO176 := n3_; have HO181 := n4_; have HO184 := n5_; have BK136 := n6_; have BK138 := n7_; have HB := n8_; clear n0_ n1_ n2_ n3_ n4_ n5_ n6_ n7_ n8_; (try clear hb); (try clear hb2); (try clear hk); (try clear hi); (try clear ho0); have hcz87_0 : w86.cell? ⟨gb138, 0, none⟩ = some (.int .i64 x139000_2) := (blk_cell BK138.out 0).trans rfl; have hcz87_1 : w86.cell? ⟨gb138, 1, none⟩ = some (.int .i64 x139001_2) := (blk_cell BK138.out 1).trans rfl; have hcz87_2 : w86.cell? ⟨gb138, 2, none⟩ = some (.slice none 0 0) := (blk_cell BK138.out 2).trans rfl; have hcz87_3 : w86.cell? ⟨gb138, 3, none⟩ = some (.slice none 0 0) := (blk_cell BK138.out 3).trans rfl; have hcz87_4 : w86.cell? ⟨gb138, 4, none⟩ = some (.slice none 0 0) := (blk_cell BK138.out 4).trans rfl; have hcz87_5 : w86.cell? ⟨gb138, 5, none⟩ = some (u139005) := (blk_cell BK138.out 5).trans rfl; have hcz87_6 : w86.cell? ⟨gb138, 6, none⟩ = some (.slice none 0 0) := (blk_cell BK138.out 6).trans rfl; have hcz87_7 : w86.cell? ⟨gb138, 7, none⟩ = some (.bool false) := (blk_cell BK138.out 7).trans rfl; have hfz87_0 := blk_frozen BK138.out 0; have hfz87_1 := blk_frozen BK138.out 1; have hfz87_2 := blk_frozen BK138.out 2; have hfz87_3 := blk_frozen BK138.out 3; have hfz87_4 := blk_frozen BK138.out 4; have hfz87_5 := blk_frozen BK138.out 5; have hfz87_6 := blk_frozen BK138.out 6; have hfz87_7 := blk_frozen BK138.out 7; obtain ⟨Ao88, co88, eo88⟩ := Kd.R_slice HO184.out; subst eo88; have hcz89_0 : w86.cell? ⟨gb136, 0, none⟩ = some (.int .i64 0) := (blk_cell BK136.out 0).trans rfl; have hcz89_1 : w86.cell? ⟨gb136, 1, none⟩ = some (.int .i64 0) := (blk_cell BK136.out 1).trans rfl; have hcz89_2 : w86.cell? ⟨gb136, 2, none⟩ = some (.slice none 0 0) := (blk_cell BK136.out 2).trans rfl; have hcz89_3 : w86.cell? ⟨gb136, 3, none⟩ = some (.slice none 0 0) := (blk_cell BK136.out 3).trans rfl; have hcz89_4 : w86.cell? ⟨gb136, 4, none⟩ = some (.slice none 0 0) := (blk_cell BK136.out 4).trans rfl; have hcz89_5 : w86.cell? ⟨gb136, 5, none⟩ = some (.slice none 0 0) := (blk_cell BK136.out 5).trans rfl; have hcz89_6 : w86.cell? ⟨gb136, 6, none⟩ = some (.slice none 0 0) := (blk_cell BK136.out 6).trans rfl; have hcz89_7 : w86.cell? ⟨gb136, 7, none⟩ = some (.bool false) := (blk_cell BK136.out 7).trans rfl; have hfz89_0 := blk_frozen BK136.out 0; have hfz89_1 := blk_frozen BK136.out 1; have hfz89_2 := blk_frozen BK136.out 2; have hfz89_3 := blk_frozen BK136.out 3; have hfz89_4 := blk_frozen BK136.out 4; have hfz89_5 := blk_frozen BK136.out 5; have hfz89_6 := blk_frozen BK136.out 6; have hfz89_7 := blk_frozen BK136.out 7; obtain ⟨Ao90, co90, eo90⟩ := Kd.N_slice HO_139005.out; subst eo90))
         refine bodyPost_ret (results_ct rfl _ _ gb136 31 #[.int .i64 x139000_2, .int .i64 x139001_2, .slice Ao88 t182.length co88, .slice none 0 0, .slice none 0 0, .slice Ao90 x139005_2.length co90, .slice Ao85 t178.length co85, .bool false] (0, 0) _ rfl (by (with_reducible repeat (first | refine blk_drewN ?_ _ | refine blk_drew ?_ | refine blk_alloc ?_ _)); refine blk_put (cs := #[.int .i64 x139000_2, .int .i64 x139001_2, .slice Ao88 t182.length co88, .slice none 0 0, .slice none 0 0, .slice Ao90 x139005_2.length co90, .slice Ao85 t178.length co85, .bool false]) ?_ 7 _ rfl; (with_reducible repeat (first | refine blk_drewN ?_ _ | refine blk_drew ?_ | refine blk_alloc ?_ _)); refine blk_put (cs := #[.int .i64 x139000_2, .int .i64 x139001_2, .slice Ao88 t182.length co88, .slice none 0 0, .slice none 0 0, .slice Ao90 x139005_2.length co90, .slice none 0 0, .bool false]) ?_ 6 _ rfl; (with_reducible repeat (first | refine blk_drewN ?_ _ | refine blk_drew ?_ | refine blk_alloc ?_ _)); refine blk_put (cs := #[.int .i64 x139000_2, .int .i64 x139001_2, .slice Ao88 t182.length co88, .slice none 0 0, .slice none 0 0, .slice none 0 0, .slice none 0 0, .bool false]) ?_ 5 _ rfl; (with_reducible repeat (first | refine blk_drewN ?_ _ | refine blk_drew ?_ | refine blk_alloc ?_ _)); refine blk_put (cs := #[.int .i64 x139000_2, .int .i64 x139001_2, .slice Ao88 t182.length co88, .slice none 0 0, .slice none 0 0, .slice none 0 0, .slice none 0 0, .bool false]) ?_ 4 _ rfl; (with_reducible repeat (first | refine blk_drewN ?_ _ | refine blk_drew ?_ | refine blk_alloc ?_ _)); refine blk_put (cs := #[.int .i64 x139000_2, .int .i64 x139001_2, .slice Ao88 t182.length co88, .slice none 0 0, .slice none 0 0, .slice none 0 0, .slice none 0 0, .bool false]) ?_ 3 _ rfl; (with_reducible repeat (first | refine blk_drewN ?_ _ | refine blk_drew ?_ | refine blk_alloc ?_ _)); refine blk_put (cs := #[.int .i64 x139000_2, .int .i64 x139001_2, .slice none 0 0, .slice none 0 0, .slice none 0 0, .slice none 0 0, .slice none 0 0, .bool false]) ?_ 2 _ rfl; (with_reducible repeat (first | refine blk_drewN ?_ _ | refine blk_drew ?_ | refine blk_alloc ?_ _)); refine blk_put (cs := #[.int .i64 x139000_2, .int .i64 0, .slice none 0 0, .slice none 0 0, .slice none 0 0, .slice none 0 0, .slice none 0 0, .bool false]) ?_ 1 _ rfl; (with_reducible repeat (first | refine blk_drewN ?_ _ | refine blk_drew ?_ | refine blk_alloc ?_ _)); refine blk_put (cs := #[.int .i64 0, .int .i64 0, .slice none 0 0, .slice none 0 0, .slice none 0 0, .slice none 0 0, .slice none 0 0, .bool false]) ?_ 0 _ rfl; (with_reducible repeat (first | refine blk_drewN ?_ _ | refine blk_drew ?_ | refine blk_alloc ?_ _)); refine blk_far ?_ NB136_138.out _; (with_reducible repeat (first | refine blk_drewN ?_ _ | refine blk_drew ?_ | refine blk_alloc ?_ _)); refine blk_far ?_ NB136_138.out _; (with_reducible repeat (first | refine blk_drewN ?_ _ | refine blk_drew ?_ | refine blk_alloc ?_ _)); exact BK136.out) Try.underlying31 rfl (by kernel_rfl)) rfl ?_
         exact ⟨_, _, _, _, _, by first | rfl | (simp [errW_none, errW_some] <;> rfl) | (simp [*, errW_none, errW_some] <;> rfl), by (with_reducible repeat (first | apply Kd.R_alloc | apply Kd.R_drewN | apply Kd.R_drew)); exact Kd.R_mono (Kd.R_far (p := ⟨gb136, 7, none⟩) (Kd.R_far (p := ⟨gb136, 6, none⟩) (Kd.R_far (p := ⟨gb136, 5, none⟩) (Kd.R_far (p := ⟨gb136, 4, none⟩) (Kd.R_far (p := ⟨gb136, 3, none⟩) (Kd.R_far (p := ⟨gb136, 2, none⟩) (Kd.R_far (p := ⟨gb136, 1, none⟩) (Kd.R_far (p := ⟨gb136, 0, none⟩) (Kd.R_far (p := ⟨gb138, 2, none⟩) (Kd.R_far (p := ⟨gb138, 6, none⟩) (Kd.R_types (Kd.R_types HO184.out BK138.out (by decide)) BK136.out (by decide)) (fun _ hk => hk.1.2) (.slice Ao85 t178.length co85)) (fun _ hk => hk.1.2) (.slice Ao88 t182.length co88)) (fun _ hk => hk.2) (.int .i64 x139000_2)) (fun _ hk => hk.2) (.int .i64 x139001_2)) (fun _ hk => hk.2) (.slice Ao88 t182.length co88)) (fun _ hk => hk.2) (.slice none 0 0)) (fun _ hk => hk.2) (.slice none 0 0)) (fun _ hk => hk.2) (.slice Ao90 x139005_2.length co90)) (fun _ hk => hk.2) (.slice Ao85 t178.length co85)) (fun _ hk => hk.2) (.bool false)) (fun _ hk => hk.1.1.1.1), by first | exact Kd.R_nil _ _ _ _ _ | exact Kd.N_nil _ _ _ _ _ | exact Kd.V_nil _ _ _ _ _ | exact Kd.Q_nil _ _ _ _ _ | exact Kd.S_nil _ _ _ _ _, by first | exact Kd.R_nil _ _ _ _ _ | exact Kd.N_nil _ _ _ _ _ | exact Kd.V_nil _ _ _ _ _ | exact Kd.Q_nil _ _ _ _ _ | exact Kd.S_nil _ _ _ _ _, by (with_reducible repeat (first | apply Kd.N_alloc | apply Kd.N_drewN | apply Kd.N_drew)); exact Kd.N_mono (Kd.N_far (p := ⟨gb136, 7, none⟩) (Kd.N_far (p := ⟨gb136, 6, none⟩) (Kd.N_far (p := ⟨gb136, 5, none⟩) (Kd.N_far (p := ⟨gb136, 4, none⟩) (Kd.N_far (p := ⟨gb136, 3, none⟩) (Kd.N_far (p := ⟨gb136, 2, none⟩) (Kd.N_far (p := ⟨gb136, 1, none⟩) (Kd.N_far (p := ⟨gb136, 0, none⟩) (Kd.N_far (p := ⟨gb138, 2, none⟩) (Kd.N_far (p := ⟨gb138, 6, none⟩) (Kd.N_mono (Kd.N_mono HO_139005.out (fun k_ hk => (⟨hk, hk.1.1.1.2.2.2⟩ : _ ∧ k_ ≠ gb138))) (fun k_ hk => (⟨hk, hk.1.1.1.1.2.2.1⟩ : _ ∧ k_ ≠ gb136))) (fun _ hk => hk.1.2) (.slice Ao85 t178.length co85)) (fun _ hk => hk.1.2) (.slice Ao88 t182.length co88)) (fun _ hk => hk.2) (.int .i64 x139000_2)) (fun _ hk => hk.2) (.int .i64 x139001_2)) (fun _ hk => hk.2) (.slice Ao88 t182.length co88)) (fun _ hk => hk.2) (.slice none 0 0)) (fun _ hk => hk.2) (.slice none 0 0)) (fun _ hk => hk.2) (.slice Ao90 x139005_2.length co90)) (fun _ hk => hk.2) (.slice Ao85 t178.length co85)) (fun _ hk => hk.2) (.bool false)) (fun _ hk => ⟨hk.1.1.1.1.1.1, ⟨hk.1.1.2, ⟨(by simp [Value.ownBlock]), ⟨(by simp [Value.ownBlock]), hk.1.1.1.2⟩⟩⟩⟩), by (with_reducible repeat (first | apply Kd.R_alloc | apply Kd.R_drewN | apply Kd.R_drew)); exact Kd.R_mono (Kd.R_far (p := ⟨gb136, 7, none⟩) (Kd.R_far (p := ⟨gb136, 6, none⟩) (Kd.R_far (p := ⟨gb136, 5, none⟩) (Kd.R_far (p := ⟨gb136, 4, none⟩) (Kd.R_far (p := ⟨gb136, 3, none⟩) (Kd.R_far (p := ⟨gb136, 2, none⟩) (Kd.R_far (p := ⟨gb136, 1, none⟩) (Kd.R_far (p := ⟨gb136, 0, none⟩) (Kd.R_far (p := ⟨gb138, 2, none⟩) (Kd.R_far (p := ⟨gb138, 6, none⟩) (Kd.R_types (Kd.R_types HO181.out BK138.out (by decide)) BK136.out (by decide)) (fun _ hk => hk.1.2) (.slice Ao85 t178.length co85)) (fun _ hk => hk.1.2) (.slice Ao88 t182.length co88)) (fun _ hk => hk.2) (.int .i64 x139000_2)) (fun _ hk => hk.2) (.int .i64 x139001_2)) (fun _ hk => hk.2) (.slice Ao88 t182.length co88)) (fun _ hk => hk.2) (.slice none 0 0)) (fun _ hk => hk.2) (.slice none 0 0)) (fun _ hk => hk.2) (.slice Ao90 x139005_2.length co90)) (fun _ hk => hk.2) (.slice Ao85 t178.length co85)) (fun _ hk => hk.2) (.bool false)) (fun _ hk => ⟨hk.1.1.1, (by simp [Value.ownBlock])⟩), by repeat (first | (with_reducible first | exact HB.out | apply below_alloc | apply pw_below_drewN | apply below_drew1 | refine below_set ?_ GE136.out | refine below_set ?_ GE138.out) | exact HB.out)⟩
        ·
         replace c77 := Bool.eq_false_iff.mpr c77
         subst c77
         have H1 : (if x139000_2 = 1024 then (some (0, 0, ([] : List Int), ([] : List Int), ([] : List (S101)), ([] : List (S79)), ([] : List Int), false, 4)) else (sum_Lay.l1 k2 t174 ([] : List Int) t177 0 x139000_2 x139001_2 x139005_2 false)) = some (r1, r2, r3, r4, r5, r6, r7, r8, r9) := by rw [if_neg (show ¬ (false = true) by decide)] at H; exact H
         clear H
         have H := H1
         clear H1
         by_cases c91 : x139000_2 = 1024
         ·
          rw [if_pos c91] at H
          have c91b0 : (x139000_2 == 1024) = true := beq_iff_eq.mpr c91
          have c91b1 : (x139000_2 != 1024) = false := bne_eq_false_iff_eq.mpr c91
          clear c91
          simp only [Option.some.injEq, Prod.mk.injEq] at H
          obtain ⟨rfl, rfl, rfl, rfl, rfl, rfl, rfl, rfl, rfl⟩ := H
          have hnb92 := NB138_136.out
          have hnc92 := NB136_138.out
          have hcz93_0 : wr.cell? ⟨gb138, 0, none⟩ = some (.int .i64 x139000_2) := (blk_cell BK138.out 0).trans rfl
          have hcz93_1 : wr.cell? ⟨gb138, 1, none⟩ = some (.int .i64 x139001_2) := (blk_cell BK138.out 1).trans rfl
          have hcz93_2 : wr.cell? ⟨gb138, 2, none⟩ = some (.slice none 0 0) := (blk_cell BK138.out 2).trans rfl
          have hcz93_3 : wr.cell? ⟨gb138, 3, none⟩ = some (.slice none 0 0) := (blk_cell BK138.out 3).trans rfl
          have hcz93_4 : wr.cell? ⟨gb138, 4, none⟩ = some (.slice none 0 0) := (blk_cell BK138.out 4).trans rfl
          have hcz93_5 : wr.cell? ⟨gb138, 5, none⟩ = some (u139005) := (blk_cell BK138.out 5).trans rfl
          have hcz93_6 : wr.cell? ⟨gb138, 6, none⟩ = some (.slice none 0 0) := (blk_cell BK138.out 6).trans rfl
          have hcz93_7 : wr.cell? ⟨gb138, 7, none⟩ = some (.bool false) := (blk_cell BK138.out 7).trans rfl
          have hfz93_0 := blk_frozen BK138.out 0
          have hfz93_1 := blk_frozen BK138.out 1
          have hfz93_2 := blk_frozen BK138.out 2
          have hfz93_3 := blk_frozen BK138.out 3
          have hfz93_4 := blk_frozen BK138.out 4
          have hfz93_5 := blk_frozen BK138.out 5
          have hfz93_6 := blk_frozen BK138.out 6
          have hfz93_7 := blk_frozen BK138.out 7
          obtain ⟨Ao94, co94, eo94⟩ := Kd.N_slice HO_10.out
          subst eo94
          go_wp2_with (first | ((with_reducible refine gate_callee (f := 79) rfl ?_); refine goesL_ (some 92) rfl rfl Try.func79 (by kernel_rfl) rfl #[.slice Ao94 x10_2.length co94, .int .i64 x139000_2] rfl (by (try simp only [List.map_toArray, List.map_cons, List.map_nil]); first | done | rfl | (simp only [List.length_drop, List.length_take]; rfl)) ?_; (with_reducible refine (sum_common.calls k2 _ _ x10_2 x139000_2 t174 _ ?side1 ?side2 A74.out).mono ?_); (case side1 => repeat (first | exact (Kd.N_reads' HO_10.out).2.2 | (with_reducible refine Kd.C_alloc ?_ _) | (with_reducible refine Kd.C_drewN ?_ _) | (with_reducible refine Kd.C_drew ?_))); (case side2 => exact (Kd.N_reads' HO_10.out).2.1); rintro e w95 ⟨v175, rfl, ho0, hb⟩; refine ⟨_, rfl, ?_⟩; have n0_ := Aside0.mk (Kd.N_elder' (kN_ HO_10.out) (Kd.R_base ho0) hb); have n1_ := Aside0.mk (Kd.V_elder' (kV_ HO_41.out) (Kd.R_base ho0) hb); have n2_ := Aside0.mk (Kd.N_elder' (kN_ HO_139005.out) (Kd.R_base ho0) hb); have n3_ := Aside0.mk (Kd.R_lower (Kd.R_newM (M := fun k_ => (w.heap.size ≤ k_)) ho0 (below_size (hb2_ HB.out GE136.out GE138.out)) (fun k_ h_ => h_)) (below_size (hb2_ HB.out GE136.out GE138.out))); have n4_ := Aside0.mk (blk_below (g := gb136) (o := .cells #[.int .i64 0, .int .i64 0, .slice none 0 0, .slice none 0 0, .slice none 0 0, .slice none 0 0, .slice none 0 0, .bool false] 31 (0, 0)) (bk_ BK136.out) hb); have n5_ := Aside0.mk (blk_below (g := gb138) (o := .cells #[.int .i64 x139000_2, .int .i64 x139001_2, .slice none 0 0, .slice none 0 0, .slice none 0 0, u139005, .slice none 0 0, .bool false] 31 (0, 0)) (bk_ BK138.out) hb); have n6_ := Aside0.mk (below_step (hb2_ HB.out GE136.out GE138.out) hb); clear HO_10 HO_41 HO_139005 BK136 BK138 HB; have HO_10 := n0_; have HO_41 := n1_; have HO_139005 := n2_; have HO176 := n3_; have BK136 := n4_; have BK138 := n5_; have HB := n6_; clear n0_ n1_ n2_ n3_ n4_ n5_ n6_; (try clear hb); (try clear hb2); (try clear hk); (try clear hi); (try clear ho0)) | ((with_reducible refine gate_callee (f := 42) rfl ?_); refine goesL_ (some 95) rfl rfl Try.func42 (by kernel_rfl) rfl #[.int .i64 (l1.length : Int)] rfl (by (try simp only [List.map_toArray, List.map_cons, List.map_nil]); first | done | rfl | (simp only [List.length_drop, List.length_take]; rfl)) ?_; (with_reducible refine (sum_TagSize.calls k2 (l1.length : Int) t177 _ A75.out).mono ?_); rintro e w' ⟨rfl, ⟨nd, rfl⟩⟩; refine ⟨_, rfl, ?_⟩; (try (rw [drewN_self w95]; generalize hq_ : World.drewN w95 _ = w95; have n0_ : Aside0 (Kd.R (Kd.int .u8) 5 w95 w.heap.size (fun k_ => (((w.heap.size ≤ k_)) ∧ True)) v175 t174) := ⟨by rw [← hq_]; exact (kR_ HO176.out)⟩; have n1_ : Aside0 (Kd.N k31 31 w95 w.heap.size (fun k_ => ((((P0_ k_ ∨ w.heap.size ≤ k_)) ∧ (some k_ ≠ (u139005 : Value).ownBlock ∧ (k_ ≠ gb136 ∧ k_ ≠ gb138))) ∧ some k_ ≠ (v175 : Value).ownBlock)) (.slice Ao94 x10_2.length co94) x10_2) := ⟨by rw [← hq_]; exact (kN_ HO_10.out)⟩; have n2_ : Aside0 (Kd.N k79 79 w95 w.heap.size (fun k_ => ((((P0_ k_ ∨ w.heap.size ≤ k_)) ∧ (some k_ ≠ (.slice Ao94 x10_2.length co94 : Value).ownBlock ∧ (k_ ≠ gb136 ∧ k_ ≠ gb138))) ∧ some k_ ≠ (v175 : Value).ownBlock)) u139005 x139005_2) := ⟨by rw [← hq_]; exact (kN_ HO_139005.out)⟩; have n3_ : Aside0 (Kd.V k31 31 w95 w.heap.size (fun k_ => ((((P0_ k_ ∨ w.heap.size ≤ k_)) ∧ (some k_ ≠ (.slice Ao94 x10_2.length co94 : Value).ownBlock ∧ (some k_ ≠ (u139005 : Value).ownBlock ∧ (k_ ≠ gb136 ∧ k_ ≠ gb138)))) ∧ some k_ ≠ (v175 : Value).ownBlock)) (.slice A0 l0.length c0) l0) := ⟨by rw [← hq_]; exact (kV_ HO_41.out)⟩; have n4_ : Aside0 (w95.heap[gb136]? = some (.cells #[.int .i64 0, .int .i64 0, .slice none 0 0, .slice none 0 0, .slice none 0 0, .slice none 0 0, .slice none 0 0, .bool false] 31 (0, 0))) := ⟨by rw [← hq_]; exact (bk_ BK136.out)⟩; have n5_ : Aside0 (w95.heap[gb138]? = some (.cells #[.int .i64 x139000_2, .int .i64 x139001_2, .slice none 0 0, .slice none 0 0, .slice none 0 0, u139005, .slice none 0 0, .bool false] 31 (0, 0))) := ⟨by rw [← hq_]; exact (bk_ BK138.out)⟩; have n6_ : Aside0 (Below w.heap.size w w95) := ⟨by rw [← hq_]; exact (hb2_ HB.out GE136.out GE138.out)⟩; clear HO176 HO_10 HO_139005 HO_41 BK136 BK138 HB hq_; have HO176 := n0_; have HO_10 := n1_; have HO_139005 := n2_; have HO_41 := n3_; have BK136 := n4_; have BK138 := n5_; have HB := n6_; clear n0_ n1_ n2_ n3_ n4_ n5_ n6_)); obtain ⟨Ao96, co96, eo96⟩ := Kd.R_slice HO176.out; subst eo96) | ((with_reducible refine gate_callee (f := 44) rfl ?_); refine goesL_ (some 99) rfl rfl Try.func44 (by kernel_rfl) rfl #[.slice Ao96 t174.length co96, .int .i64 t177] rfl (by (try simp only [List.map_toArray, List.map_cons, List.map_nil]); first | done | rfl | (simp only [List.length_drop, List.length_take]; rfl)) ?_; (with_reducible refine (mask_Bits.calls k2 _ _ t174 t177 t178 false _ ?side1 ?side2 A76.out).mono ?_); (case side1 => repeat (first | exact (Kd.R_reads' HO176.out).2.2 | (with_reducible refine Kd.C_alloc ?_ _) | (with_reducible refine Kd.C_drewN ?_ _) | (with_reducible refine Kd.C_drew ?_))); (case side2 => exact (Kd.R_reads' HO176.out).2.1); rintro e w97 ⟨v180, rfl, ho0, hb⟩; refine ⟨_, rfl, ?_⟩; have n0_ := Aside0.mk (Kd.N_elder' (kN_ HO_10.out) (Kd.R_base ho0) hb); have n1_ := Aside0.mk (Kd.V_elder' (kV_ HO_41.out) (Kd.R_base ho0) hb); have n2_ := Aside0.mk (Kd.N_elder' (kN_ HO_139005.out) (Kd.R_base ho0) hb); have n3_ := Aside0.mk (Kd.R_below (kR_ HO176.out) hb); have n4_ := Aside0.mk (Kd.R_lower (Kd.R_newM (M := fun k_ => (w.heap.size ≤ k_)) ho0 (below_size (hb2_ HB.out GE136.out GE138.out)) (fun k_ h_ => h_)) (below_size (hb2_ HB.out GE136.out GE138.out))); have n5_ := Aside0.mk (blk_below (g := gb136) (o := .cells #[.int .i64 0, .int .i64 0, .slice none 0 0, .slice none 0 0, .slice none 0 0, .slice none 0 0, .slice none 0 0, .bool false] 31 (0, 0)) (bk_ BK136.out) hb); have n6_ := Aside0.mk (blk_below (g := gb138) (o := .cells #[.int .i64 x139000_2, .int .i64 x139001_2, .slice none 0 0, .slice none 0 0, .slice none 0 0, u139005, .slice none 0 0, .bool false] 31 (0, 0)) (bk_ BK138.out) hb); have n7_ := Aside0.mk (below_step (hb2_ HB.out GE136.out GE138.out) hb); clear HO_10 HO_41 HO_139005 HO176 BK136 BK138 HB; have HO_10 := n0_; have HO_41 := n1_; have HO_139005 := n2_; have HO176 := n3_; have HO181 := n4_; have BK136 := n5_; have BK138 := n6_; have HB := n7_; clear n0_ n1_ n2_ n3_ n4_ n5_ n6_ n7_; (try clear hb); (try clear hb2); (try clear hk); (try clear hi); (try clear ho0); have hcz98_0 : w97.cell? ⟨gb138, 0, none⟩ = some (.int .i64 x139000_2) := (blk_cell BK138.out 0).trans rfl; have hcz98_1 : w97.cell? ⟨gb138, 1, none⟩ = some (.int .i64 x139001_2) := (blk_cell BK138.out 1).trans rfl; have hcz98_2 : w97.cell? ⟨gb138, 2, none⟩ = some (.slice none 0 0) := (blk_cell BK138.out 2).trans rfl; have hcz98_3 : w97.cell? ⟨gb138, 3, none⟩ = some (.slice none 0 0) := (blk_cell BK138.out 3).trans rfl; have hcz98_4 : w97.cell? ⟨gb138, 4, none⟩ = some (.slice none 0 0) := (blk_cell BK138.out 4).trans rfl; have hcz98_5 : w97.cell? ⟨gb138, 5, none⟩ = some (u139005) := (blk_cell BK138.out 5).trans rfl; have hcz98_6 : w97.cell? ⟨gb138, 6, none⟩ = some (.slice none 0 0) := (blk_cell BK138.out 6).trans rfl; have hcz98_7 : w97.cell? ⟨gb138, 7, none⟩ = some (.bool false) := (blk_cell BK138.out 7).trans rfl; have hfz98_0 := blk_frozen BK138.out 0; have hfz98_1 := blk_frozen BK138.out 1; have hfz98_2 := blk_frozen BK138.out 2; have hfz98_3 := blk_frozen BK138.out 3; have hfz98_4 := blk_frozen BK138.out 4; have hfz98_5 := blk_frozen BK138.out 5; have hfz98_6 := blk_frozen BK138.out 6; have hfz98_7 := blk_frozen BK138.out 7; have hcz99_0 : w97.cell? ⟨gb136, 0, none⟩ = some (.int .i64 0) := (blk_cell BK136.out 0).trans rfl; have hcz99_1 : w97.cell? ⟨gb136, 1, none⟩ = some (.int .i64 0) := (blk_cell BK136.out 1).trans rfl; have hcz99_2 : w97.cell? ⟨gb136, 2, none⟩ = some (.slice none 0 0) := (blk_cell BK136.out 2).trans rfl; have hcz99_3 : w97.cell? ⟨gb136, 3, none⟩ = some (.slice none 0 0) := (blk_cell BK136.out 3).trans rfl; have hcz99_4 : w97.cell? ⟨gb136, 4, none⟩ = some (.slice none 0 0) := (blk_cell BK136.out 4).trans rfl; have hcz99_5 : w97.cell? ⟨gb136, 5, none⟩ = some (.slice none 0 0) := (blk_cell BK136.out 5).trans rfl; have hcz99_6 : w97.cell? ⟨gb136, 6, none⟩ = some (.slice none 0 0) := (blk_cell BK136.out 6).trans rfl; have hcz99_7 : w97.cell? ⟨gb136, 7, none⟩ = some (.bool false) := (blk_cell BK136.out 7).trans rfl; have hfz99_0 := blk_frozen BK136.out 0; have hfz99_1 := blk_frozen BK136.out 1; have hfz99_2 := blk_frozen BK136.out 2; have hfz99_3 := blk_frozen BK136.out 3; have hfz99_4 := blk_frozen BK136.out 4; have hfz99_5 := blk_frozen BK136.out 5; have hfz99_6 := blk_frozen BK136.out 6; have hfz99_7 := blk_frozen BK136.out 7))
          refine bodyPost_ret (results_ct rfl _ _ gb136 31 #[.int .i64 0, .int .i64 0, .slice none 0 0, .slice none 0 0, .slice none 0 0, .slice none 0 0, .slice none 0 0, .bool false] (0, 0) _ rfl (by (with_reducible repeat (first | refine blk_drewN ?_ _ | refine blk_drew ?_ | refine blk_alloc ?_ _)); refine blk_put (cs := #[.int .i64 0, .int .i64 0, .slice none 0 0, .slice none 0 0, .slice none 0 0, .slice none 0 0, .slice none 0 0, .bool false]) ?_ 7 _ rfl; (with_reducible repeat (first | refine blk_drewN ?_ _ | refine blk_drew ?_ | refine blk_alloc ?_ _)); refine blk_put (cs := #[.int .i64 0, .int .i64 0, .slice none 0 0, .slice none 0 0, .slice none 0 0, .slice none 0 0, .slice none 0 0, .bool false]) ?_ 6 _ rfl; (with_reducible repeat (first | refine blk_drewN ?_ _ | refine blk_drew ?_ | refine blk_alloc ?_ _)); refine blk_put (cs := #[.int .i64 0, .int .i64 0, .slice none 0 0, .slice none 0 0, .slice none 0 0, .slice none 0 0, .slice none 0 0, .bool false]) ?_ 5 _ rfl; (with_reducible repeat (first | refine blk_drewN ?_ _ | refine blk_drew ?_ | refine blk_alloc ?_ _)); refine blk_put (cs := #[.int .i64 0, .int .i64 0, .slice none 0 0, .slice none 0 0, .slice none 0 0, .slice none 0 0, .slice none 0 0, .bool false]) ?_ 4 _ rfl; (with_reducible repeat (first | refine blk_drewN ?_ _ | refine blk_drew ?_ | refine blk_alloc ?_ _)); refine blk_put (cs := #[.int .i64 0, .int .i64 0, .slice none 0 0, .slice none 0 0, .slice none 0 0, .slice none 0 0, .slice none 0 0, .bool false]) ?_ 3 _ rfl; (with_reducible repeat (first | refine blk_drewN ?_ _ | refine blk_drew ?_ | refine blk_alloc ?_ _)); refine blk_put (cs := #[.int .i64 0, .int .i64 0, .slice none 0 0, .slice none 0 0, .slice none 0 0, .slice none 0 0, .slice none 0 0, .bool false]) ?_ 2 _ rfl; (with_reducible repeat (first | refine blk_drewN ?_ _ | refine blk_drew ?_ | refine blk_alloc ?_ _)); refine blk_put (cs := #[.int .i64 0, .int .i64 0, .slice none 0 0, .slice none 0 0, .slice none 0 0, .slice none 0 0, .slice none 0 0, .bool false]) ?_ 1 _ rfl; (with_reducible repeat (first | refine blk_drewN ?_ _ | refine blk_drew ?_ | refine blk_alloc ?_ _)); refine blk_put (cs := #[.int .i64 0, .int .i64 0, .slice none 0 0, .slice none 0 0, .slice none 0 0, .slice none 0 0, .slice none 0 0, .bool false]) ?_ 0 _ rfl; (with_reducible repeat (first | refine blk_drewN ?_ _ | refine blk_drew ?_ | refine blk_alloc ?_ _)); exact BK136.out) Try.underlying31 rfl (by kernel_rfl)) rfl ?_
          exact ⟨_, _, _, _, _, by first | rfl | (simp [errW_none, errW_some] <;> rfl) | (simp [*, errW_none, errW_some] <;> rfl), by first | exact Kd.R_nil _ _ _ _ _ | exact Kd.N_nil _ _ _ _ _ | exact Kd.V_nil _ _ _ _ _ | exact Kd.Q_nil _ _ _ _ _ | exact Kd.S_nil _ _ _ _ _, by first | exact Kd.R_nil _ _ _ _ _ | exact Kd.N_nil _ _ _ _ _ | exact Kd.V_nil _ _ _ _ _ | exact Kd.Q_nil _ _ _ _ _ | exact Kd.S_nil _ _ _ _ _, by first | exact Kd.R_nil _ _ _ _ _ | exact Kd.N_nil _ _ _ _ _ | exact Kd.V_nil _ _ _ _ _ | exact Kd.Q_nil _ _ _ _ _ | exact Kd.S_nil _ _ _ _ _, by first | exact Kd.R_nil _ _ _ _ _ | exact Kd.N_nil _ _ _ _ _ | exact Kd.V_nil _ _ _ _ _ | exact Kd.Q_nil _ _ _ _ _ | exact Kd.S_nil _ _ _ _ _, by first | exact Kd.R_nil _ _ _ _ _ | exact Kd.N_nil _ _ _ _ _ | exact Kd.V_nil _ _ _ _ _ | exact Kd.Q_nil _ _ _ _ _ | exact Kd.S_nil _ _ _ _ _, by repeat (first | (with_reducible first | exact HB.out | apply below_alloc | apply pw_below_drewN | apply below_drew1 | refine below_set ?_ GE136.out | refine below_set ?_ GE138.out) | exact HB.out)⟩
         ·
          rw [if_neg c91] at H
          have c91b0 : (x139000_2 == 1024) = false := beq_eq_false_iff_ne.mpr c91
          have c91b1 : (x139000_2 != 1024) = true := bne_iff_ne.mpr c91
          have H' := Aside0.mk H
          clear H
          have hnb100 := NB138_136.out
          have hnc100 := NB136_138.out
          have hcz101_0 : wr.cell? ⟨gb138, 0, none⟩ = some (.int .i64 x139000_2) := (blk_cell BK138.out 0).trans rfl
          have hcz101_1 : wr.cell? ⟨gb138, 1, none⟩ = some (.int .i64 x139001_2) := (blk_cell BK138.out 1).trans rfl
          have hcz101_2 : wr.cell? ⟨gb138, 2, none⟩ = some (.slice none 0 0) := (blk_cell BK138.out 2).trans rfl
          have hcz101_3 : wr.cell? ⟨gb138, 3, none⟩ = some (.slice none 0 0) := (blk_cell BK138.out 3).trans rfl
          have hcz101_4 : wr.cell? ⟨gb138, 4, none⟩ = some (.slice none 0 0) := (blk_cell BK138.out 4).trans rfl
          have hcz101_5 : wr.cell? ⟨gb138, 5, none⟩ = some (u139005) := (blk_cell BK138.out 5).trans rfl
          have hcz101_6 : wr.cell? ⟨gb138, 6, none⟩ = some (.slice none 0 0) := (blk_cell BK138.out 6).trans rfl
          have hcz101_7 : wr.cell? ⟨gb138, 7, none⟩ = some (.bool false) := (blk_cell BK138.out 7).trans rfl
          have hfz101_0 := blk_frozen BK138.out 0
          have hfz101_1 := blk_frozen BK138.out 1
          have hfz101_2 := blk_frozen BK138.out 2
          have hfz101_3 := blk_frozen BK138.out 3
          have hfz101_4 := blk_frozen BK138.out 4
          have hfz101_5 := blk_frozen BK138.out 5
          have hfz101_6 := blk_frozen BK138.out 6
          have hfz101_7 := blk_frozen BK138.out 7
          obtain ⟨Ao102, co102, eo102⟩ := Kd.N_slice HO_10.out
          subst eo102
          go_wp2_with (first | ((with_reducible refine gate_callee (f := 79) rfl ?_); refine goesL_ (some 92) rfl rfl Try.func79 (by kernel_rfl) rfl #[.slice Ao102 x10_2.length co102, .int .i64 x139000_2] rfl (by (try simp only [List.map_toArray, List.map_cons, List.map_nil]); first | done | rfl | (simp only [List.length_drop, List.length_take]; rfl)) ?_; (with_reducible refine (sum_common.calls k2 _ _ x10_2 x139000_2 t174 _ ?side1 ?side2 A74.out).mono ?_); (case side1 => repeat (first | exact (Kd.N_reads' HO_10.out).2.2 | (with_reducible refine Kd.C_alloc ?_ _) | (with_reducible refine Kd.C_drewN ?_ _) | (with_reducible refine Kd.C_drew ?_))); (case side2 => exact (Kd.N_reads' HO_10.out).2.1); rintro e w103 ⟨v175, rfl, ho0, hb⟩; refine ⟨_, rfl, ?_⟩; have n0_ := Aside0.mk (Kd.N_elder' (kN_ HO_10.out) (Kd.R_base ho0) hb); have n1_ := Aside0.mk (Kd.V_elder' (kV_ HO_41.out) (Kd.R_base ho0) hb); have n2_ := Aside0.mk (Kd.N_elder' (kN_ HO_139005.out) (Kd.R_base ho0) hb); have n3_ := Aside0.mk (Kd.R_lower (Kd.R_newM (M := fun k_ => (w.heap.size ≤ k_)) ho0 (below_size (hb2_ HB.out GE136.out GE138.out)) (fun k_ h_ => h_)) (below_size (hb2_ HB.out GE136.out GE138.out))); have n4_ := Aside0.mk (blk_below (g := gb136) (o := .cells #[.int .i64 0, .int .i64 0, .slice none 0 0, .slice none 0 0, .slice none 0 0, .slice none 0 0, .slice none 0 0, .bool false] 31 (0, 0)) (bk_ BK136.out) hb); have n5_ := Aside0.mk (blk_below (g := gb138) (o := .cells #[.int .i64 x139000_2, .int .i64 x139001_2, .slice none 0 0, .slice none 0 0, .slice none 0 0, u139005, .slice none 0 0, .bool false] 31 (0, 0)) (bk_ BK138.out) hb); have n6_ := Aside0.mk (below_step (hb2_ HB.out GE136.out GE138.out) hb); clear HO_10 HO_41 HO_139005 BK136 BK138 HB; have HO_10 := n0_; have HO_41 := n1_; have HO_139005 := n2_; have HO176 := n3_; have BK136 := n4_; have BK138 := n5_; have HB := n6_; clear n0_ n1_ n2_ n3_ n4_ n5_ n6_; (try clear hb); (try clear hb2); (try clear hk); (try clear hi); (try clear ho0)) | ((with_reducible refine gate_callee (f := 42) rfl ?_); refine goesL_ (some 95) rfl rfl Try.func42 (by kernel_rfl) rfl #[.int .i64 (l1.length : Int)] rfl (by (try simp only [List.map_toArray, List.map_cons, List.map_nil]); first | done | rfl | (simp only [List.length_drop, List.length_take]; rfl)) ?_; (with_reducible refine (sum_TagSize.calls k2 (l1.length : Int) t177 _ A75.out).mono ?_); rintro e w' ⟨rfl, ⟨nd, rfl⟩⟩; refine ⟨_, rfl, ?_⟩; obtain ⟨Ao104, co104, eo104⟩ := Kd.R_slice HO176.out; subst eo104) | ((with_reducible refine gate_callee (f := 44) rfl ?_); refine goesL_ (some 99) rfl rfl Try.func44 (by kernel_rfl) rfl #[.slice Ao104 t174.length co104, .int .i64 t177] rfl (by (try simp only [List.map_toArray, List.map_cons, List.map_nil]); first | done | rfl | (simp only [List.length_drop, List.length_take]; rfl)) ?_; (with_reducible refine (mask_Bits.calls k2 _ _ t174 t177 t178 false _ ?side1 ?side2 A76.out).mono ?_); (case side1 => repeat (first | exact (Kd.R_reads' HO176.out).2.2 | (with_reducible refine Kd.C_alloc ?_ _) | (with_reducible refine Kd.C_drewN ?_ _) | (with_reducible refine Kd.C_drew ?_))); (case side2 => exact (Kd.R_reads' HO176.out).2.1); rintro e w105 ⟨v180, rfl, ho0, hb⟩; refine ⟨_, rfl, ?_⟩; have n0_ := Aside0.mk (Kd.N_elder' (kN_ HO_10.out) (Kd.R_base ho0) hb); have n1_ := Aside0.mk (Kd.V_elder' (kV_ HO_41.out) (Kd.R_base ho0) hb); have n2_ := Aside0.mk (Kd.N_elder' (kN_ HO_139005.out) (Kd.R_base ho0) hb); have n3_ := Aside0.mk (Kd.R_below (kR_ HO176.out) hb); have n4_ := Aside0.mk (Kd.R_lower (Kd.R_newM (M := fun k_ => (w.heap.size ≤ k_)) ho0 (below_size (hb2_ HB.out GE136.out GE138.out)) (fun k_ h_ => h_)) (below_size (hb2_ HB.out GE136.out GE138.out))); have n5_ := Aside0.mk (blk_below (g := gb136) (o := .cells #[.int .i64 0, .int .i64 0, .slice none 0 0, .slice none 0 0, .slice none 0 0, .slice none 0 0, .slice none 0 0, .bool false] 31 (0, 0)) (bk_ BK136.out) hb); have n6_ := Aside0.mk (blk_below (g := gb138) (o := .cells #[.int .i64 x139000_2, .int .i64 x139001_2, .slice none 0 0, .slice none 0 0, .slice none 0 0, u139005, .slice none 0 0, .bool false] 31 (0, 0)) (bk_ BK138.out) hb); have n7_ := Aside0.mk (below_step (hb2_ HB.out GE136.out GE138.out) hb); clear HO_10 HO_41 HO_139005 HO176 BK136 BK138 HB; have HO_10 := n0_; have HO_41 := n1_; have HO_139005 := n2_; have HO176 := n3_; have HO181 := n4_; have BK136 := n5_; have BK138 := n6_; have HB := n7_; clear n0_ n1_ n2_ n3_ n4_ n5_ n6_ n7_; (try clear hb); (try clear hb2); (try clear hk); (try clear hi); (try clear ho0); have hcz106_0 : w105.cell? ⟨gb138, 0, none⟩ = some (.int .i64 x139000_2) := (blk_cell BK138.out 0).trans rfl; have hcz106_1 : w105.cell? ⟨gb138, 1, none⟩ = some (.int .i64 x139001_2) := (blk_cell BK138.out 1).trans rfl; have hcz106_2 : w105.cell? ⟨gb138, 2, none⟩ = some (.slice none 0 0) := (blk_cell BK138.out 2).trans rfl; have hcz106_3 : w105.cell? ⟨gb138, 3, none⟩ = some (.slice none 0 0) := (blk_cell BK138.out 3).trans rfl; have hcz106_4 : w105.cell? ⟨gb138, 4, none⟩ = some (.slice none 0 0) := (blk_cell BK138.out 4).trans rfl; have hcz106_5 : w105.cell? ⟨gb138, 5, none⟩ = some (u139005) := (blk_cell BK138.out 5).trans rfl; have hcz106_6 : w105.cell? ⟨gb138, 6, none⟩ = some (.slice none 0 0) := (blk_cell BK138.out 6).trans rfl; have hcz106_7 : w105.cell? ⟨gb138, 7, none⟩ = some (.bool false) := (blk_cell BK138.out 7).trans rfl; have hfz106_0 := blk_frozen BK138.out 0; have hfz106_1 := blk_frozen BK138.out 1; have hfz106_2 := blk_frozen BK138.out 2; have hfz106_3 := blk_frozen BK138.out 3; have hfz106_4 := blk_frozen BK138.out 4; have hfz106_5 := blk_frozen BK138.out 5; have hfz106_6 := blk_frozen BK138.out 6; have hfz106_7 := blk_frozen BK138.out 7))
          go_loopg [15, 109] k2 (fun kq v15 v109 w' => ∃ (x15_3 : List Int) (x109_3 : Int), v109 = .int .i64 x109_3 ∧ Aside0 (sum_Lay.l1 kq t174 x15_3 t177 x109_3 x139000_2 x139001_2 x139005_2 false = some (r1, r2, r3, r4, r5, r6, r7, r8, r9)) ∧ Aside0 (kq ≤ k2) ∧ Aside0 (Kd.R (Kd.int .u8) 5 w' w.heap.size (fun k_ => (w.heap.size ≤ k_)) (.slice Ao104 t174.length co104) t174) ∧ Aside0 (Kd.R (Kd.int .i64) 3 w' w.heap.size (fun k_ => (w.heap.size ≤ k_)) v15 x15_3) ∧ Aside0 (Kd.N k79 79 w' w.heap.size (fun k_ => (P0_ k_ ∨ w.heap.size ≤ k_) ∧ some k_ ≠ ((.slice Ao104 t174.length co104) : Value).ownBlock ∧ some k_ ≠ (v15 : Value).ownBlock ∧ k_ ≠ gb136 ∧ k_ ≠ gb138) u139005 x139005_2) ∧ Aside0 (w'.heap[gb136]? = some (.cells #[.int .i64 0, .int .i64 0, (.slice none 0 0), (.slice none 0 0), (.slice none 0 0), (.slice none 0 0), (.slice none 0 0), .bool false] 31 (0, 0))) ∧ Aside0 (w'.heap[gb138]? = some (.cells #[.int .i64 x139000_2, .int .i64 x139001_2, (.slice none 0 0), (.slice none 0 0), (.slice none 0 0), u139005, (.slice none 0 0), .bool false] 31 (0, 0))) ∧ Aside0 (Below w.heap.size w w'))
          case atStart => exact ⟨(([] : List Int)), (0), (by first | rfl | (simp; done) | (simp [*]; done)), H', ⟨Nat.le_refl _⟩, ⟨by (with_reducible repeat (first | apply Kd.R_alloc | apply Kd.R_drewN | apply Kd.R_drew)); exact Kd.R_mono HO176.out (fun _ hk => hk.1)⟩, ⟨by first | exact Kd.R_nil _ _ _ _ _ | exact Kd.N_nil _ _ _ _ _ | exact Kd.V_nil _ _ _ _ _ | exact Kd.Q_nil _ _ _ _ _ | exact Kd.S_nil _ _ _ _ _⟩, ⟨by (with_reducible repeat (first | apply Kd.N_alloc | apply Kd.N_drewN | apply Kd.N_drew)); exact Kd.N_mono HO_139005.out (fun _ hk => ⟨hk.1.1.1, ⟨hk.1.2, ⟨(by simp [Value.ownBlock]), ⟨hk.1.1.2.2.1, hk.1.1.2.2.2⟩⟩⟩⟩)⟩, ⟨by (with_reducible repeat (first | refine blk_drewN ?_ _ | refine blk_drew ?_ | refine blk_alloc ?_ _)); exact BK136.out⟩, ⟨by (with_reducible repeat (first | refine blk_drewN ?_ _ | refine blk_drew ?_ | refine blk_alloc ?_ _)); exact BK138.out⟩, ⟨by repeat (first | (with_reducible first | exact HB.out | apply below_alloc | apply pw_below_drewN | apply below_drew1 | refine below_set ?_ GE136.out | refine below_set ?_ GE138.out) | exact HB.out)⟩⟩
          case round =>
           clear H'
           try clear c1
           try clear p1
           try clear q1
           try clear hx1
           try clear c2
           try clear p2
           try clear q2
           try clear c4
           try clear c5
           try clear p6
           try clear c7
           try clear c9
           try clear c10
           try clear c13
           try clear p14
           try clear q14
           try clear hx14
           try clear c17
           try clear c17b0
           try clear c18
           try clear c19
           try clear c20
           try clear c21
           try clear c23
           try clear q24
           try clear c42
           try clear c44
           try clear c49
           try clear c54
           try clear p64
           try clear c77
           try clear c78
           try clear c79
           try clear c91
           try clear c91b0
           try clear c91b1
           try clear c92
           try clear c100
           try clear hcz101_0
           try clear hcz101_1
           try clear hcz101_2
           try clear hcz101_3
           try clear hcz101_4
           try clear hcz101_5
           try clear hcz101_6
           try clear hcz101_7
           try clear hcz106_0
           try clear hcz106_1
           try clear hcz106_2
           try clear hcz106_3
           try clear hcz106_4
           try clear hcz106_5
           try clear hcz106_6
           try clear hcz106_7
           try clear hcz69_0
           try clear hcz69_1
           try clear hcz69_2
           try clear hcz69_3
           try clear hcz69_4
           try clear hcz69_5
           try clear hcz69_6
           try clear hcz69_7
           try clear hcz80_0
           try clear hcz80_1
           try clear hcz80_2
           try clear hcz80_3
           try clear hcz80_4
           try clear hcz80_5
           try clear hcz80_6
           try clear hcz80_7
           try clear hcz87_0
           try clear hcz87_1
           try clear hcz87_2
           try clear hcz87_3
           try clear hcz87_4
           try clear hcz87_5
           try clear hcz87_6
           try clear hcz87_7
           try clear hcz89_0
           try clear hcz89_1
           try clear hcz89_2
           try clear hcz89_3
           try clear hcz89_4
           try clear hcz89_5
           try clear hcz89_6
           try clear hcz89_7
           try clear hcz93_0
           try clear hcz93_1
           try clear hcz93_2
           try clear hcz93_3
           try clear hcz93_4
           try clear hcz93_5
           try clear hcz93_6
           try clear hcz93_7
           try clear hcz98_0
           try clear hcz98_1
           try clear hcz98_2
           try clear hcz98_3
           try clear hcz98_4
           try clear hcz98_5
           try clear hcz98_6
           try clear hcz98_7
           try clear hcz99_0
           try clear hcz99_1
           try clear hcz99_2
           try clear hcz99_3
           try clear hcz99_4
           try clear hcz99_5
           try clear hcz99_6
           try clear hcz99_7
           try clear hfz101_0
           try clear hfz101_1
           try clear hfz101_2
           try clear hfz101_3
           try clear hfz101_4
           try clear hfz101_5
           try clear hfz101_6
           try clear hfz101_7
           try clear hfz106_0
           try clear hfz106_1
           try clear hfz106_2
           try clear hfz106_3
           try clear hfz106_4
           try clear hfz106_5
           try clear hfz106_6
           try clear hfz106_7
           try clear hfz69_0
           try clear hfz69_1
           try clear hfz69_2
           try clear hfz69_3
           try clear hfz69_4
           try clear hfz69_5
           try clear hfz69_6
           try clear hfz69_7
           try clear hfz80_0
           try clear hfz80_1
           try clear hfz80_2
           try clear hfz80_3
           try clear hfz80_4
           try clear hfz80_5
           try clear hfz80_6
           try clear hfz80_7
           try clear hfz87_0
           try clear hfz87_1
           try clear hfz87_2
           try clear hfz87_3
           try clear hfz87_4
           try clear hfz87_5
           try clear hfz87_6
           try clear hfz87_7
           try clear hfz89_0
           try clear hfz89_1
           try clear hfz89_2
           try clear hfz89_3
           try clear hfz89_4
           try clear hfz89_5
           try clear hfz89_6
           try clear hfz89_7
           try clear hfz93_0
           try clear hfz93_1
           try clear hfz93_2
           try clear hfz93_3
           try clear hfz93_4
           try clear hfz93_5
           try clear hfz93_6
           try clear hfz93_7
           try clear hfz98_0
           try clear hfz98_1
           try clear hfz98_2
           try clear hfz98_3
           try clear hfz98_4
           try clear hfz98_5
           try clear hfz98_6
           try clear hfz98_7
           try clear hfz99_0
           try clear hfz99_1
           try clear hfz99_2
           try clear hfz99_3
           try clear hfz99_4
           try clear hfz99_5
           try clear hfz99_6
           try clear hfz99_7
           try clear hx149_0
           try clear p149
           try clear q149
           obtain ⟨x15_3, x109_3, rfl, HA, HK3, HO_13, HO_15, HO_139005, BK136, BK138, HB⟩ := hrel
           cases gk with
           | zero => exact absurd HA.out (by simp [sum_Lay.l1])
           | succ k3 =>
            have H := HA.out
            clear HA
            simp only [sum_Lay.l1] at H
            by_cases c107 : x109_3 < t177
            ·
             rw [if_pos c107] at H
             have c107b0 : decide (x109_3 < t177) = true := decide_eq_true c107
             clear c107
             by_cases c108 : x15_3.length < 17592186044416
             rotate_left
             ·
              rw [if_neg c108] at H
              exact absurd H (by simp)
             rw [if_pos c108] at H
             have LMc108 := Aside0.mk c108
             clear c108
             obtain ⟨y185, hy185⟩ : ∃ y_ : List Int, y_ = (x15_3 ++ [wrap64 ((wrap64 (8 * x139000_2)) + x109_3)]) := ⟨_, rfl⟩
             replace H : (sum_Lay.l1 k3 t174 y185 t177 (wrap64 (x109_3 + 1)) x139000_2 x139001_2 x139005_2 false) = some (r1, r2, r3, r4, r5, r6, r7, r8, r9) := by first | (rw [hy185]; with_reducible exact H) | (have H2_ := (Option.bind_some _ _).symm.trans H; rw [hy185]; with_reducible exact H2_) | (have H2_ := (Option.bind_some _ _).symm.trans H; with_reducible exact H2_) | with_reducible exact H | (rw [hy185]; exact H) | exact H
             have Ny185 := Aside0.mk hy185
             clear hy185
             have H' := Aside0.mk H
             clear H
             have hnb109 := NB138_136.out
             have hnc109 := NB136_138.out
             have hcz110_0 : wr.cell? ⟨gb138, 0, none⟩ = some (.int .i64 x139000_2) := (blk_cell BK138.out 0).trans rfl
             have hcz110_1 : wr.cell? ⟨gb138, 1, none⟩ = some (.int .i64 x139001_2) := (blk_cell BK138.out 1).trans rfl
             have hcz110_2 : wr.cell? ⟨gb138, 2, none⟩ = some (.slice none 0 0) := (blk_cell BK138.out 2).trans rfl
             have hcz110_3 : wr.cell? ⟨gb138, 3, none⟩ = some (.slice none 0 0) := (blk_cell BK138.out 3).trans rfl
             have hcz110_4 : wr.cell? ⟨gb138, 4, none⟩ = some (.slice none 0 0) := (blk_cell BK138.out 4).trans rfl
             have hcz110_5 : wr.cell? ⟨gb138, 5, none⟩ = some (u139005) := (blk_cell BK138.out 5).trans rfl
             have hcz110_6 : wr.cell? ⟨gb138, 6, none⟩ = some (.slice none 0 0) := (blk_cell BK138.out 6).trans rfl
             have hcz110_7 : wr.cell? ⟨gb138, 7, none⟩ = some (.bool false) := (blk_cell BK138.out 7).trans rfl
             have hfz110_0 := blk_frozen BK138.out 0
             have hfz110_1 := blk_frozen BK138.out 1
             have hfz110_2 := blk_frozen BK138.out 2
             have hfz110_3 := blk_frozen BK138.out 3
             have hfz110_4 := blk_frozen BK138.out 4
             have hfz110_5 := blk_frozen BK138.out 5
             have hfz110_6 := blk_frozen BK138.out 6
             have hfz110_7 := blk_frozen BK138.out 7
             go_wp2_with (first | ((with_reducible refine gate_builtin (b := .append) (xs := #[.tmp 112, .tmp 118]) rfl ?_); (try (refine gate_guard (by rfl) ?_; dsimp only)); at_builtin; refine Kd.R_append (Kd.int .i64) (w0 := w) w.heap.size rfl (.tmp 112) (.tmp 118) 23 3 (.int .i64 0) 8 rfl Try.underlying23 info3 rfl (by decide) (by omega) u15 x15_3 (wrap64 ((wrap64 (8 * x139000_2)) + x109_3)) [.int .i64 (wrap64 ((wrap64 (8 * x139000_2)) + x109_3))] (fun k_ => (w.heap.size ≤ k_)) (fun _ => False) rfl rfl ?aP (fun _ hk => hk.elim) ?aF ?aO ?aB ?aS ?aL ?_; (case aP => exact rfl); (case aB => exact (hb2_ HB.out GE136.out GE138.out)); (case aF => exact (fun k_ hk => (Nat.le_trans (below_size (hb2_ HB.out GE136.out GE138.out)) hk))); (case aO => exact (kR_ HO_15.out)); (case aS => exact (below_size (hb2_ HB.out GE136.out GE138.out))); (case aL => have := LMc108.out; omega); intro v186 w111 ho hb hg hat; rw [← Ny185.out] at ho; have n0_ := Aside0.mk (Kd.R_over' (kR_ HO_13.out) (Kd.R_typed (kR_ HO_15.out)) (by decide) hg); have n1_ := Aside0.mk (Kd.N_afterv (ok := (fun k_ => (P0_ k_ ∨ w.heap.size ≤ k_) ∧ some k_ ≠ (.slice Ao104 t174.length co104 : Value).ownBlock ∧ k_ ≠ gb136 ∧ k_ ≠ gb138)) (by (with_reducible repeat (first | apply Kd.N_alloc | apply Kd.N_drewN | apply Kd.N_drew)); exact Kd.N_mono HO_139005.out (fun _ hk => ⟨⟨hk.1, ⟨hk.2.1, ⟨hk.2.2.2.1, hk.2.2.2.2⟩⟩⟩, hk.2.2.1⟩)) hg hat); have n2_ := Aside0.mk (blk_grown (g := gb136) (o := .cells #[.int .i64 0, .int .i64 0, .slice none 0 0, .slice none 0 0, .slice none 0 0, .slice none 0 0, .slice none 0 0, .bool false] 31 (0, 0)) (bk_ BK136.out) hg (Kd.R_ne HO_15.out BK136.out (by decide))); have n3_ := Aside0.mk (blk_grown (g := gb138) (o := .cells #[.int .i64 x139000_2, .int .i64 x139001_2, .slice none 0 0, .slice none 0 0, .slice none 0 0, u139005, .slice none 0 0, .bool false] 31 (0, 0)) (bk_ BK138.out) hg (Kd.R_ne HO_15.out BK138.out (by decide))); have n4_ := Aside0.mk (hb); have n5_ := Aside0.mk (ho); clear HO_13 HO_139005 BK136 BK138 HB HO_15; have HO_13 := n0_; have HO_139005 := n1_; have BK136 := n2_; have BK138 := n3_; have HB := n4_; have HO187 := n5_; clear n0_ n1_ n2_ n3_ n4_ n5_ ho hb hg hat))
             go_roundg k3
             case measure => have := HJ4.out; have := HK2.out; have := HK3.out; omega
             case rel => exact ⟨(y185), (wrap64 (x109_3 + 1)), (by first | rfl | (simp; done) | (simp [*]; done)), H', ⟨by have := HJ4.out; have := HK2.out; have := HK3.out; omega⟩, ⟨by (with_reducible repeat (first | apply Kd.R_alloc | apply Kd.R_drewN | apply Kd.R_drew)); exact HO_13.out⟩, ⟨by (with_reducible repeat (first | apply Kd.R_alloc | apply Kd.R_drewN | apply Kd.R_drew)); exact HO187.out⟩, ⟨by (with_reducible repeat (first | apply Kd.N_alloc | apply Kd.N_drewN | apply Kd.N_drew)); exact Kd.N_mono HO_139005.out (fun _ hk => ⟨hk.1.1, ⟨hk.1.2.1, ⟨hk.2, ⟨hk.1.2.2.1, hk.1.2.2.2⟩⟩⟩⟩)⟩, ⟨by (with_reducible repeat (first | refine blk_drewN ?_ _ | refine blk_drew ?_ | refine blk_alloc ?_ _)); exact BK136.out⟩, ⟨by (with_reducible repeat (first | refine blk_drewN ?_ _ | refine blk_drew ?_ | refine blk_alloc ?_ _)); exact BK138.out⟩, ⟨by repeat (first | (with_reducible first | exact HB.out | apply below_alloc | apply pw_below_drewN | apply below_drew1 | refine below_set ?_ GE136.out | refine below_set ?_ GE138.out) | exact HB.out)⟩⟩
            ·
             rw [if_neg c107] at H
             have c107b0 : decide (x109_3 < t177) = false := decide_eq_false c107
             clear c107
             by_cases c112 : t174.length < 140737488355328
             ·
              rw [if_pos c112] at H
              have LMc112 := Aside0.mk c112
              clear c112
              obtain ⟨y188, hy188⟩ : ∃ y_ : List Int, y_ = (t174 ++ [255]) := ⟨_, rfl⟩
              replace H : ((mask_Clear.f k3 y188 x15_3).bind fun t191 => (some (wrap64 (x139000_2 + 1), x139001_2, t191, ([] : List Int), ([] : List (S101)), x139005_2, x15_3, false, 0))) = some (r1, r2, r3, r4, r5, r6, r7, r8, r9) := by first | (rw [hy188]; with_reducible exact H) | (have H2_ := (Option.bind_some _ _).symm.trans H; rw [hy188]; with_reducible exact H2_) | (have H2_ := (Option.bind_some _ _).symm.trans H; with_reducible exact H2_) | with_reducible exact H | (rw [hy188]; exact H) | exact H
              have Ny188 := Aside0.mk hy188
              clear hy188
              replace H := Option.bind_eq_some_iff.mp H
              obtain ⟨t191, A1130, H⟩ := H
              try dsimp only at H
              have A113 := Aside0.mk A1130
              clear A1130
              simp only [Option.some.injEq, Prod.mk.injEq] at H
              obtain ⟨rfl, rfl, rfl, rfl, rfl, rfl, rfl, rfl, rfl⟩ := H
              go_wp2_with (first | ((with_reducible refine gate_builtin (b := .append) (xs := #[.tmp 121, .tmp 122]) rfl ?_); (try (refine gate_guard (by rfl) ?_; dsimp only)); at_builtin; refine Kd.R_append (Kd.int .u8) (w0 := w) w.heap.size rfl (.tmp 121) (.tmp 122) 27 5 (.int .u8 0) 1 rfl Try.underlying27 info5 rfl (by decide) (by omega) (.slice Ao104 t174.length co104) t174 255 [.int .u8 255] (fun k_ => (w.heap.size ≤ k_)) (fun _ => False) rfl rfl ?aP (fun _ hk => hk.elim) ?aF ?aO ?aB ?aS ?aL ?_; (case aP => exact rfl); (case aB => exact (hb2_ HB.out GE136.out GE138.out)); (case aF => exact (fun k_ hk => (Nat.le_trans (below_size (hb2_ HB.out GE136.out GE138.out)) hk))); (case aO => exact (kR_ HO_13.out)); (case aS => exact (below_size (hb2_ HB.out GE136.out GE138.out))); (case aL => have := LMc112.out; omega); intro v189 w114 ho hb hg hat; rw [← Ny188.out] at ho; have n0_ := Aside0.mk (Kd.R_over' (kR_ HO_15.out) (Kd.R_typed (kR_ HO_13.out)) (by decide) hg); have n1_ := Aside0.mk (Kd.N_afterv (ok := (fun k_ => (P0_ k_ ∨ w.heap.size ≤ k_) ∧ some k_ ≠ (u15 : Value).ownBlock ∧ k_ ≠ gb136 ∧ k_ ≠ gb138)) (by (with_reducible repeat (first | apply Kd.N_alloc | apply Kd.N_drewN | apply Kd.N_drew)); exact Kd.N_mono HO_139005.out (fun _ hk => ⟨⟨hk.1, ⟨hk.2.2.1, ⟨hk.2.2.2.1, hk.2.2.2.2⟩⟩⟩, hk.2.1⟩)) hg hat); have n2_ := Aside0.mk (blk_grown (g := gb136) (o := .cells #[.int .i64 0, .int .i64 0, .slice none 0 0, .slice none 0 0, .slice none 0 0, .slice none 0 0, .slice none 0 0, .bool false] 31 (0, 0)) (bk_ BK136.out) hg (Kd.R_ne HO_13.out BK136.out (by decide))); have n3_ := Aside0.mk (blk_grown (g := gb138) (o := .cells #[.int .i64 x139000_2, .int .i64 x139001_2, .slice none 0 0, .slice none 0 0, .slice none 0 0, u139005, .slice none 0 0, .bool false] 31 (0, 0)) (bk_ BK138.out) hg (Kd.R_ne HO_13.out BK138.out (by decide))); have n4_ := Aside0.mk (hb); have n5_ := Aside0.mk (ho); clear HO_15 HO_139005 BK136 BK138 HB HO_13; have HO_15 := n0_; have HO_139005 := n1_; have BK136 := n2_; have BK138 := n3_; have HB := n4_; have HO190 := n5_; clear n0_ n1_ n2_ n3_ n4_ n5_ ho hb hg hat; have hnb115 := NB138_136.out; have hnc115 := NB136_138.out; have hcz116_0 : w114.cell? ⟨gb138, 0, none⟩ = some (.int .i64 x139000_2) := (blk_cell BK138.out 0).trans rfl; have hcz116_1 : w114.cell? ⟨gb138, 1, none⟩ = some (.int .i64 x139001_2) := (blk_cell BK138.out 1).trans rfl; have hcz116_2 : w114.cell? ⟨gb138, 2, none⟩ = some (.slice none 0 0) := (blk_cell BK138.out 2).trans rfl; have hcz116_3 : w114.cell? ⟨gb138, 3, none⟩ = some (.slice none 0 0) := (blk_cell BK138.out 3).trans rfl; have hcz116_4 : w114.cell? ⟨gb138, 4, none⟩ = some (.slice none 0 0) := (blk_cell BK138.out 4).trans rfl; have hcz116_5 : w114.cell? ⟨gb138, 5, none⟩ = some (u139005) := (blk_cell BK138.out 5).trans rfl; have hcz116_6 : w114.cell? ⟨gb138, 6, none⟩ = some (.slice none 0 0) := (blk_cell BK138.out 6).trans rfl; have hcz116_7 : w114.cell? ⟨gb138, 7, none⟩ = some (.bool false) := (blk_cell BK138.out 7).trans rfl; have hfz116_0 := blk_frozen BK138.out 0; have hfz116_1 := blk_frozen BK138.out 1; have hfz116_2 := blk_frozen BK138.out 2; have hfz116_3 := blk_frozen BK138.out 3; have hfz116_4 := blk_frozen BK138.out 4; have hfz116_5 := blk_frozen BK138.out 5; have hfz116_6 := blk_frozen BK138.out 6; have hfz116_7 := blk_frozen BK138.out 7; obtain ⟨Ao117, co117, eo117⟩ := Kd.R_slice HO190.out; subst eo117; obtain ⟨Ao118, co118, eo118⟩ := Kd.R_slice HO_15.out; subst eo118) | ((with_reducible refine gate_callee (f := 49) rfl ?_); refine goesL_ (some 131) rfl rfl Try.func49 (by kernel_rfl) rfl #[.slice Ao117 y188.length co117, .slice Ao118 x15_3.length co118] rfl (by (try simp only [List.map_toArray, List.map_cons, List.map_nil]); first | done | rfl | (simp only [List.length_drop, List.length_take]; rfl)) ?_; (with_reducible refine (mask_Clear.calls k3 _ _ y188 _ _ x15_3 t191 _ ?side1 ?side2 ?side3 ?side4 A113.out).mono ?_); (case side1 => refine (Kd.R_reads' (e := 5) (base := w.heap.size) (ok := fun k_ => (w.heap.size ≤ k_)) (n := y188.length) (c := co117) ?_).2.2; exact (by (with_reducible repeat (first | apply Kd.R_alloc | apply Kd.R_drewN | apply Kd.R_drew)); exact (Kd.R_mono (Kd.R_far (p := ⟨gb138, 0, none⟩) (Kd.R_types HO190.out BK138.out (by decide)) (fun _ hk => hk.2) (.int .i64 (wrap64 (x139000_2 + 1)))) (fun _ h_ => h_.1)))); (case side2 => exact (Kd.R_reads' HO190.out).2.1); (case side3 => refine (Kd.R_reads' (e := 3) (base := w.heap.size) (ok := fun k_ => (w.heap.size ≤ k_)) (n := x15_3.length) (c := co118) ?_).2.2; exact (by (with_reducible repeat (first | apply Kd.R_alloc | apply Kd.R_drewN | apply Kd.R_drew)); exact (Kd.R_mono (Kd.R_far (p := ⟨gb138, 0, none⟩) (Kd.R_types HO_15.out BK138.out (by decide)) (fun _ hk => hk.2) (.int .i64 (wrap64 (x139000_2 + 1)))) (fun _ h_ => h_.1)))); (case side4 => exact (Kd.R_reads' HO_15.out).2.1); rintro e w119 ⟨v192, rfl, ho0, hb⟩; refine ⟨_, rfl, ?_⟩; have n0_ := Aside0.mk (Kd.R_below (by (with_reducible repeat (first | apply Kd.R_alloc | apply Kd.R_drewN | apply Kd.R_drew)); exact (Kd.R_mono (Kd.R_far (p := ⟨gb138, 0, none⟩) (Kd.R_types HO_15.out BK138.out (by decide)) (fun _ hk => hk.2) (.int .i64 (wrap64 (x139000_2 + 1)))) (fun _ h_ => h_.1))) hb); have n1_ := Aside0.mk (Kd.N_elder' (by (with_reducible repeat (first | apply Kd.N_alloc | apply Kd.N_drewN | apply Kd.N_drew)); exact (Kd.N_mono (Kd.N_far (p := ⟨gb138, 0, none⟩) (Kd.N_mono HO_139005.out (fun k_ hk => (⟨hk, hk.1.2.2.2⟩ : _ ∧ k_ ≠ gb138))) (fun _ hk => hk.2) (.int .i64 (wrap64 (x139000_2 + 1)))) (fun _ h_ => h_.1))) (Kd.R_base ho0) hb); have n2_ := Aside0.mk (Kd.R_elder' (by (with_reducible repeat (first | apply Kd.R_alloc | apply Kd.R_drewN | apply Kd.R_drew)); exact (Kd.R_mono (Kd.R_far (p := ⟨gb138, 0, none⟩) (Kd.R_types HO190.out BK138.out (by decide)) (fun _ hk => hk.2) (.int .i64 (wrap64 (x139000_2 + 1)))) (fun _ h_ => h_.1))) (Kd.R_base ho0) hb); have n3_ := Aside0.mk (Kd.R_lower (Kd.R_new' (Kd.R_newM (M := fun k_ => (w.heap.size ≤ k_)) ho0 (below_size (hb2_ HB.out GE136.out GE138.out)) (fun k_ h_ => h_)) (Kd.R_lt (by (with_reducible repeat (first | apply Kd.R_alloc | apply Kd.R_drewN | apply Kd.R_drew)); exact (Kd.R_mono (Kd.R_far (p := ⟨gb138, 0, none⟩) (Kd.R_types HO190.out BK138.out (by decide)) (fun _ hk => hk.2) (.int .i64 (wrap64 (x139000_2 + 1)))) (fun _ h_ => h_.1))))) (below_size (hb2_ HB.out GE136.out GE138.out))); have n4_ := Aside0.mk (blk_below (g := gb136) (o := .cells #[.int .i64 0, .int .i64 0, .slice none 0 0, .slice none 0 0, .slice none 0 0, .slice none 0 0, .slice none 0 0, .bool false] 31 (0, 0)) (bf1_ BK136.out NB136_138.out) hb); have n5_ := Aside0.mk (blk_below (g := gb138) (o := .cells #[.int .i64 (wrap64 (x139000_2 + 1)), .int .i64 x139001_2, .slice none 0 0, .slice none 0 0, .slice none 0 0, u139005, .slice none 0 0, .bool false] 31 (0, 0)) (by (with_reducible repeat (first | refine blk_drewN ?_ _ | refine blk_drew ?_ | refine blk_alloc ?_ _)); refine blk_put (cs := #[.int .i64 x139000_2, .int .i64 x139001_2, .slice none 0 0, .slice none 0 0, .slice none 0 0, u139005, .slice none 0 0, .bool false]) ?_ 0 _ rfl; (with_reducible repeat (first | refine blk_drewN ?_ _ | refine blk_drew ?_ | refine blk_alloc ?_ _)); exact BK138.out) hb); have n6_ := Aside0.mk (below_step (hb2_ HB.out GE136.out GE138.out) hb); clear HO_15 HO_139005 HO190 BK136 BK138 HB; have HO_15 := n0_; have HO_139005 := n1_; have HO190 := n2_; have HO193 := n3_; have BK136 := n4_; have BK138 := n5_; have HB := n6_; clear n0_ n1_ n2_ n3_ n4_ n5_ n6_; (try clear hb); (try clear hb2); (try clear hk); (try clear hi); (try clear ho0); have hcz120_0 : w119.cell? ⟨gb138, 0, none⟩ = some (.int .i64 (wrap64 (x139000_2 + 1))) := (blk_cell BK138.out 0).trans rfl; have hcz120_1 : w119.cell? ⟨gb138, 1, none⟩ = some (.int .i64 x139001_2) := (blk_cell BK138.out 1).trans rfl; have hcz120_2 : w119.cell? ⟨gb138, 2, none⟩ = some (.slice none 0 0) := (blk_cell BK138.out 2).trans rfl; have hcz120_3 : w119.cell? ⟨gb138, 3, none⟩ = some (.slice none 0 0) := (blk_cell BK138.out 3).trans rfl; have hcz120_4 : w119.cell? ⟨gb138, 4, none⟩ = some (.slice none 0 0) := (blk_cell BK138.out 4).trans rfl; have hcz120_5 : w119.cell? ⟨gb138, 5, none⟩ = some (u139005) := (blk_cell BK138.out 5).trans rfl; have hcz120_6 : w119.cell? ⟨gb138, 6, none⟩ = some (.slice none 0 0) := (blk_cell BK138.out 6).trans rfl; have hcz120_7 : w119.cell? ⟨gb138, 7, none⟩ = some (.bool false) := (blk_cell BK138.out 7).trans rfl; have hfz120_0 := blk_frozen BK138.out 0; have hfz120_1 := blk_frozen BK138.out 1; have hfz120_2 := blk_frozen BK138.out 2; have hfz120_3 := blk_frozen BK138.out 3; have hfz120_4 := blk_frozen BK138.out 4; have hfz120_5 := blk_frozen BK138.out 5; have hfz120_6 := blk_frozen BK138.out 6; have hfz120_7 := blk_frozen BK138.out 7; obtain ⟨Ao121, co121, eo121⟩ := Kd.R_slice HO193.out; subst eo121; have hcz122_0 : w119.cell? ⟨gb136, 0, none⟩ = some (.int .i64 0) := (blk_cell BK136.out 0).trans rfl; have hcz122_1 : w119.cell? ⟨gb136, 1, none⟩ = some (.int .i64 0) := (blk_cell BK136.out 1).trans rfl; have hcz122_2 : w119.cell? ⟨gb136, 2, none⟩ = some (.slice none 0 0) := (blk_cell BK136.out 2).trans rfl; have hcz122_3 : w119.cell? ⟨gb136, 3, none⟩ = some (.slice none 0 0) := (blk_cell BK136.out 3).trans rfl; have hcz122_4 : w119.cell? ⟨gb136, 4, none⟩ = some (.slice none 0 0) := (blk_cell BK136.out 4).trans rfl; have hcz122_5 : w119.cell? ⟨gb136, 5, none⟩ = some (.slice none 0 0) := (blk_cell BK136.out 5).trans rfl; have hcz122_6 : w119.cell? ⟨gb136, 6, none⟩ = some (.slice none 0 0) := (blk_cell BK136.out 6).trans rfl; have hcz122_7 : w119.cell? ⟨gb136, 7, none⟩ = some (.bool false) := (blk_cell BK136.out 7).trans rfl; have hfz122_0 := blk_frozen BK136.out 0; have hfz122_1 := blk_frozen BK136.out 1; have hfz122_2 := blk_frozen BK136.out 2; have hfz122_3 := blk_frozen BK136.out 3; have hfz122_4 := blk_frozen BK136.out 4; have hfz122_5 := blk_frozen BK136.out 5; have hfz122_6 := blk_frozen BK136.out 6; have hfz122_7 := blk_frozen BK136.out 7; obtain ⟨Ao123, co123, eo123⟩ := Kd.N_slice HO_139005.out; subst eo123))
              refine bodyPost_ret (results_ct rfl _ _ gb136 31 #[.int .i64 (wrap64 (x139000_2 + 1)), .int .i64 x139001_2, .slice Ao121 t191.length co121, .slice none 0 0, .slice none 0 0, .slice Ao123 x139005_2.length co123, .slice Ao118 x15_3.length co118, .bool false] (0, 0) _ rfl (by (with_reducible repeat (first | refine blk_drewN ?_ _ | refine blk_drew ?_ | refine blk_alloc ?_ _)); refine blk_put (cs := #[.int .i64 (wrap64 (x139000_2 + 1)), .int .i64 x139001_2, .slice Ao121 t191.length co121, .slice none 0 0, .slice none 0 0, .slice Ao123 x139005_2.length co123, .slice Ao118 x15_3.length co118, .bool false]) ?_ 7 _ rfl; (with_reducible repeat (first | refine blk_drewN ?_ _ | refine blk_drew ?_ | refine blk_alloc ?_ _)); refine blk_put (cs := #[.int .i64 (wrap64 (x139000_2 + 1)), .int .i64 x139001_2, .slice Ao121 t191.length co121, .slice none 0 0, .slice none 0 0, .slice Ao123 x139005_2.length co123, .slice none 0 0, .bool false]) ?_ 6 _ rfl; (with_reducible repeat (first | refine blk_drewN ?_ _ | refine blk_drew ?_ | refine blk_alloc ?_ _)); refine blk_put (cs := #[.int .i64 (wrap64 (x139000_2 + 1)), .int .i64 x139001_2, .slice Ao121 t191.length co121, .slice none 0 0, .slice none 0 0, .slice none 0 0, .slice none 0 0, .bool false]) ?_ 5 _ rfl; (with_reducible repeat (first | refine blk_drewN ?_ _ | refine blk_drew ?_ | refine blk_alloc ?_ _)); refine blk_put (cs := #[.int .i64 (wrap64 (x139000_2 + 1)), .int .i64 x139001_2, .slice Ao121 t191.length co121, .slice none 0 0, .slice none 0 0, .slice none 0 0, .slice none 0 0, .bool false]) ?_ 4 _ rfl; (with_reducible repeat (first | refine blk_drewN ?_ _ | refine blk_drew ?_ | refine blk_alloc ?_ _)); refine blk_put (cs := #[.int .i64 (wrap64 (x139000_2 + 1)), .int .i64 x139001_2, .slice Ao121 t191.length co121, .slice none 0 0, .slice none 0 0, .slice none 0 0, .slice none 0 0, .bool false]) ?_ 3 _ rfl; (with_reducible repeat (first | refine blk_drewN ?_ _ | refine blk_drew ?_ | refine blk_alloc ?_ _)); refine blk_put (cs := #[.int .i64 (wrap64 (x139000_2 + 1)), .int .i64 x139001_2, .slice none 0 0, .slice none 0 0, .slice none 0 0, .slice none 0 0, .slice none 0 0, .bool false]) ?_ 2 _ rfl; (with_reducible repeat (first | refine blk_drewN ?_ _ | refine blk_drew ?_ | refine blk_alloc ?_ _)); refine blk_put (cs := #[.int .i64 (wrap64 (x139000_2 + 1)), .int .i64 0, .slice none 0 0, .slice none 0 0, .slice none 0 0, .slice none 0 0, .slice none 0 0, .bool false]) ?_ 1 _ rfl; (with_reducible repeat (first | refine blk_drewN ?_ _ | refine blk_drew ?_ | refine blk_alloc ?_ _)); refine blk_put (cs := #[.int .i64 0, .int .i64 0, .slice none 0 0, .slice none 0 0, .slice none 0 0, .slice none 0 0, .slice none 0 0, .bool false]) ?_ 0 _ rfl; (with_reducible repeat (first | refine blk_drewN ?_ _ | refine blk_drew ?_ | refine blk_alloc ?_ _)); refine blk_far ?_ NB136_138.out _; (with_reducible repeat (first | refine blk_drewN ?_ _ | refine blk_drew ?_ | refine blk_alloc ?_ _)); refine blk_far ?_ NB136_138.out _; (with_reducible repeat (first | refine blk_drewN ?_ _ | refine blk_drew ?_ | refine blk_alloc ?_ _)); exact BK136.out) Try.underlying31 rfl (by kernel_rfl)) rfl ?_
              exact ⟨_, _, _, _, _, by first | rfl | (simp [errW_none, errW_some] <;> rfl) | (simp [*, errW_none, errW_some] <;> rfl), by (with_reducible repeat (first | apply Kd.R_alloc | apply Kd.R_drewN | apply Kd.R_drew)); exact Kd.R_mono (Kd.R_far (p := ⟨gb136, 7, none⟩) (Kd.R_far (p := ⟨gb136, 6, none⟩) (Kd.R_far (p := ⟨gb136, 5, none⟩) (Kd.R_far (p := ⟨gb136, 4, none⟩) (Kd.R_far (p := ⟨gb136, 3, none⟩) (Kd.R_far (p := ⟨gb136, 2, none⟩) (Kd.R_far (p := ⟨gb136, 1, none⟩) (Kd.R_far (p := ⟨gb136, 0, none⟩) (Kd.R_far (p := ⟨gb138, 2, none⟩) (Kd.R_far (p := ⟨gb138, 6, none⟩) (Kd.R_types (Kd.R_types HO193.out BK138.out (by decide)) BK136.out (by decide)) (fun _ hk => hk.1.2) (.slice Ao118 x15_3.length co118)) (fun _ hk => hk.1.2) (.slice Ao121 t191.length co121)) (fun _ hk => hk.2) (.int .i64 (wrap64 (x139000_2 + 1)))) (fun _ hk => hk.2) (.int .i64 x139001_2)) (fun _ hk => hk.2) (.slice Ao121 t191.length co121)) (fun _ hk => hk.2) (.slice none 0 0)) (fun _ hk => hk.2) (.slice none 0 0)) (fun _ hk => hk.2) (.slice Ao123 x139005_2.length co123)) (fun _ hk => hk.2) (.slice Ao118 x15_3.length co118)) (fun _ hk => hk.2) (.bool false)) (fun _ hk => hk.1.1.1.1), by first | exact Kd.R_nil _ _ _ _ _ | exact Kd.N_nil _ _ _ _ _ | exact Kd.V_nil _ _ _ _ _ | exact Kd.Q_nil _ _ _ _ _ | exact Kd.S_nil _ _ _ _ _, by first | exact Kd.R_nil _ _ _ _ _ | exact Kd.N_nil _ _ _ _ _ | exact Kd.V_nil _ _ _ _ _ | exact Kd.Q_nil _ _ _ _ _ | exact Kd.S_nil _ _ _ _ _, by (with_reducible repeat (first | apply Kd.N_alloc | apply Kd.N_drewN | apply Kd.N_drew)); exact Kd.N_mono (Kd.N_far (p := ⟨gb136, 7, none⟩) (Kd.N_far (p := ⟨gb136, 6, none⟩) (Kd.N_far (p := ⟨gb136, 5, none⟩) (Kd.N_far (p := ⟨gb136, 4, none⟩) (Kd.N_far (p := ⟨gb136, 3, none⟩) (Kd.N_far (p := ⟨gb136, 2, none⟩) (Kd.N_far (p := ⟨gb136, 1, none⟩) (Kd.N_far (p := ⟨gb136, 0, none⟩) (Kd.N_far (p := ⟨gb138, 2, none⟩) (Kd.N_far (p := ⟨gb138, 6, none⟩) (Kd.N_mono (Kd.N_mono HO_139005.out (fun k_ hk => (⟨hk, hk.1.1.2.2.2⟩ : _ ∧ k_ ≠ gb138))) (fun k_ hk => (⟨hk, hk.1.1.1.2.2.1⟩ : _ ∧ k_ ≠ gb136))) (fun _ hk => hk.1.2) (.slice Ao118 x15_3.length co118)) (fun _ hk => hk.1.2) (.slice Ao121 t191.length co121)) (fun _ hk => hk.2) (.int .i64 (wrap64 (x139000_2 + 1)))) (fun _ hk => hk.2) (.int .i64 x139001_2)) (fun _ hk => hk.2) (.slice Ao121 t191.length co121)) (fun _ hk => hk.2) (.slice none 0 0)) (fun _ hk => hk.2) (.slice none 0 0)) (fun _ hk => hk.2) (.slice Ao123 x139005_2.length co123)) (fun _ hk => hk.2) (.slice Ao118 x15_3.length co118)) (fun _ hk => hk.2) (.bool false)) (fun _ hk => ⟨hk.1.1.1.1.1, ⟨hk.1.1.2, ⟨(by simp [Value.ownBlock]), ⟨(by simp [Value.ownBlock]), hk.1.1.1.1.2.1⟩⟩⟩⟩), by (with_reducible repeat (first | apply Kd.R_alloc | apply Kd.R_drewN | apply Kd.R_drew)); exact Kd.R_mono (Kd.R_far (p := ⟨gb136, 7, none⟩) (Kd.R_far (p := ⟨gb136, 6, none⟩) (Kd.R_far (p := ⟨gb136, 5, none⟩) (Kd.R_far (p := ⟨gb136, 4, none⟩) (Kd.R_far (p := ⟨gb136, 3, none⟩) (Kd.R_far (p := ⟨gb136, 2, none⟩) (Kd.R_far (p := ⟨gb136, 1, none⟩) (Kd.R_far (p := ⟨gb136, 0, none⟩) (Kd.R_far (p := ⟨gb138, 2, none⟩) (Kd.R_far (p := ⟨gb138, 6, none⟩) (Kd.R_types (Kd.R_types HO_15.out BK138.out (by decide)) BK136.out (by decide)) (fun _ hk => hk.1.2) (.slice Ao118 x15_3.length co118)) (fun _ hk => hk.1.2) (.slice Ao121 t191.length co121)) (fun _ hk => hk.2) (.int .i64 (wrap64 (x139000_2 + 1)))) (fun _ hk => hk.2) (.int .i64 x139001_2)) (fun _ hk => hk.2) (.slice Ao121 t191.length co121)) (fun _ hk => hk.2) (.slice none 0 0)) (fun _ hk => hk.2) (.slice none 0 0)) (fun _ hk => hk.2) (.slice Ao123 x139005_2.length co123)) (fun _ hk => hk.2) (.slice Ao118 x15_3.length co118)) (fun _ hk => hk.2) (.bool false)) (fun _ hk => ⟨hk.1.1, (by simp [Value.ownBlock])⟩), by repeat (first | (with_reducible first | exact HB.out | apply below_alloc | apply pw_below_drewN | apply below_drew1 | refine below_set ?_ GE136.out | refine below_set ?_ GE138.out) | exact HB.out)⟩
             ·
              rw [if_neg c112] at H
              exact absurd H (by simp)

end Go.Proofs.Ytpcephbhnbfcmaa.C
