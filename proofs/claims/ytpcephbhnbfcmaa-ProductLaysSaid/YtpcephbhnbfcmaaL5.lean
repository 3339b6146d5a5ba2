-- Written by this session's program fork.py: a Lean function for each Go function and its walk. Not trusted: Lean checks it.
import Derived.Test.YtpcephbhnbfcmaaL0
import Derived.Test.YtpcephbhnbfcmaaL4
namespace Go.Proofs.Ytpcephbhnbfcmaa.L
open Go.RowKit Go.Proofs.YtpcephbhnbfcmaaW.PrintWords Go.Proofs.YtpcephbhnbfcmaaW.PrintLast Go.Proofs.YtpcephbhnbfcmaaW.PrintMore
attribute [local go_sem] max2_int min2_int max_two min_two max_three min_three max_four min_four   -- for this text's walks alone
set_option linter.unusedVariables false
set_option linter.unusedSimpArgs false

open List (setIfInBounds_toArray set_cons_zero set_cons_succ)
/-! ### ref16_Same: function 26 -/
mutual
def ref16_Same.j0 : Nat → Bool → Int → Int → List Int → List Int → List (S101) → List (S79) → List Int → Bool → Int → Int → List Int → List Int → List (S101) → List (S79) → List Int → Bool → Option (Bool)
 | 0, _, _, _, _, _, _, _, _, _, _, _, _, _, _, _, _, _ => none
 | k + 1, x68, x291000, x291001, x291002, x291003, x291004, x291005, x291006, x291007, x292000, x292001, x292002, x292003, x292004, x292005, x292006, x292007 => if x68 = true then (some false) else (ref16_Same.l0 k 0 x291000 x291001 x291002 x291003 x291004 x291005 x291006 x291007 x292000 x292001 x292002 x292003 x292004 x292005 x292006 x292007)
def ref16_Same.l0 : Nat → Int → Int → Int → List Int → List Int → List (S101) → List (S79) → List Int → Bool → Int → Int → List Int → List Int → List (S101) → List (S79) → List Int → Bool → Option (Bool)
 | 0, _, _, _, _, _, _, _, _, _, _, _, _, _, _, _, _, _ => none
 | k + 1, x5, x291000, x291001, x291002, x291003, x291004, x291005, x291006, x291007, x292000, x292001, x292002, x292003, x292004, x292005, x292006, x292007 => if x5 < (x291005.length : Int) then (if 0 ≤ x5 then (if x5 < (x292005.length : Int) then (if ((rd_T79 x291005 x5).f0).toList = ((rd_T79 x292005 x5).f0).toList then (if (((rd_T79 x291005 x5).f1) != ((rd_T79 x292005 x5).f1)) = true then (ref16_Same.j2 k x5 true x291000 x291001 x291002 x291003 x291004 x291005 x291006 x291007 x292000 x292001 x292002 x292003 x292004 x292005 x292006 x292007) else ((ref16_ints.f k ((rd_T79 x291005 x5).f2) ((rd_T79 x292005 x5).f2)).bind fun t299 => (if t299 = true then (if ((rd_T79 x291005 x5).f4) = ((rd_T79 x292005 x5).f4) then ((ref16_types.f k ((rd_T79 x291005 x5).f3) ((rd_T79 x292005 x5).f3)).bind fun t300 => (ref16_Same.j2 k x5 (!t300) x291000 x291001 x291002 x291003 x291004 x291005 x291006 x291007 x292000 x292001 x292002 x292003 x292004 x292005 x292006 x292007)) else (ref16_Same.j2 k x5 true x291000 x291001 x291002 x291003 x291004 x291005 x291006 x291007 x292000 x292001 x292002 x292003 x292004 x292005 x292006 x292007)) else (ref16_Same.j2 k x5 true x291000 x291001 x291002 x291003 x291004 x291005 x291006 x291007 x292000 x292001 x292002 x292003 x292004 x292005 x292006 x292007)))) else (ref16_Same.j2 k x5 true x291000 x291001 x291002 x291003 x291004 x291005 x291006 x291007 x292000 x292001 x292002 x292003 x292004 x292005 x292006 x292007)) else (none)) else (none)) else (some true)
def ref16_Same.j2 : Nat → Int → Bool → Int → Int → List Int → List Int → List (S101) → List (S79) → List Int → Bool → Int → Int → List Int → List Int → List (S101) → List (S79) → List Int → Bool → Option (Bool)
 | 0, _, _, _, _, _, _, _, _, _, _, _, _, _, _, _, _, _, _ => none
 | k + 1, x5, x120, x291000, x291001, x291002, x291003, x291004, x291005, x291006, x291007, x292000, x292001, x292002, x292003, x292004, x292005, x292006, x292007 => if x120 = true then (some false) else (ref16_Same.l0 k (wrap64 (x5 + 1)) x291000 x291001 x291002 x291003 x291004 x291005 x291006 x291007 x292000 x292001 x292002 x292003 x292004 x292005 x292006 x292007)
end
def ref16_Same.f (k : Nat) (a0_0 : Int) (a0_1 : Int) (l0_2 : List Int) (l0_3 : List Int) (l0_4 : List (S101)) (l0_5 : List (S79)) (l0_6 : List Int) (a0_7 : Bool) (a1_0 : Int) (a1_1 : Int) (l1_2 : List Int) (l1_3 : List Int) (l1_4 : List (S101)) (l1_5 : List (S79)) (l1_6 : List Int) (a1_7 : Bool) : Option (Bool) := if a0_0 = a1_0 then (if a0_1 = a1_1 then (if (strOfNums l0_2).toList = (strOfNums l1_2).toList then ((ref16_ints.f k l0_3 l1_3).bind fun t292 => (if t292 = true then (if (l0_5.length : Int) = (l1_5.length : Int) then ((ref16_ints.f k l0_6 l1_6).bind fun t293 => (if t293 = true then (if (a0_7 != a1_7) = true then (ref16_Same.j0 k true a0_0 a0_1 l0_2 l0_3 l0_4 l0_5 l0_6 a0_7 a1_0 a1_1 l1_2 l1_3 l1_4 l1_5 l1_6 a1_7) else ((ref16_types.f k l0_4 l1_4).bind fun t294 => (ref16_Same.j0 k (!t294) a0_0 a0_1 l0_2 l0_3 l0_4 l0_5 l0_6 a0_7 a1_0 a1_1 l1_2 l1_3 l1_4 l1_5 l1_6 a1_7))) else (ref16_Same.j0 k true a0_0 a0_1 l0_2 l0_3 l0_4 l0_5 l0_6 a0_7 a1_0 a1_1 l1_2 l1_3 l1_4 l1_5 l1_6 a1_7))) else (ref16_Same.j0 k true a0_0 a0_1 l0_2 l0_3 l0_4 l0_5 l0_6 a0_7 a1_0 a1_1 l1_2 l1_3 l1_4 l1_5 l1_6 a1_7)) else (ref16_Same.j0 k true a0_0 a0_1 l0_2 l0_3 l0_4 l0_5 l0_6 a0_7 a1_0 a1_1 l1_2 l1_3 l1_4 l1_5 l1_6 a1_7))) else (ref16_Same.j0 k true a0_0 a0_1 l0_2 l0_3 l0_4 l0_5 l0_6 a0_7 a1_0 a1_1 l1_2 l1_3 l1_4 l1_5 l1_6 a1_7)) else (ref16_Same.j0 k true a0_0 a0_1 l0_2 l0_3 l0_4 l0_5 l0_6 a0_7 a1_0 a1_1 l1_2 l1_3 l1_4 l1_5 l1_6 a1_7)) else (ref16_Same.j0 k true a0_0 a0_1 l0_2 l0_3 l0_4 l0_5 l0_6 a0_7 a1_0 a1_1 l1_2 l1_3 l1_4 l1_5 l1_6 a1_7)
theorem ref16_Same.mono_l : ∀ k, (∀ y0 y1 y2 y3 y4 y5 y6 y7 y8 y9 y10 y11 y12 y13 y14 y15 y16, LeO (ref16_Same.j0 k y0 y1 y2 y3 y4 y5 y6 y7 y8 y9 y10 y11 y12 y13 y14 y15 y16) (ref16_Same.j0 (k + 1) y0 y1 y2 y3 y4 y5 y6 y7 y8 y9 y10 y11 y12 y13 y14 y15 y16)) ∧ (∀ y0 y1 y2 y3 y4 y5 y6 y7 y8 y9 y10 y11 y12 y13 y14 y15 y16, LeO (ref16_Same.l0 k y0 y1 y2 y3 y4 y5 y6 y7 y8 y9 y10 y11 y12 y13 y14 y15 y16) (ref16_Same.l0 (k + 1) y0 y1 y2 y3 y4 y5 y6 y7 y8 y9 y10 y11 y12 y13 y14 y15 y16)) ∧ (∀ y0 y1 y2 y3 y4 y5 y6 y7 y8 y9 y10 y11 y12 y13 y14 y15 y16 y17, LeO (ref16_Same.j2 k y0 y1 y2 y3 y4 y5 y6 y7 y8 y9 y10 y11 y12 y13 y14 y15 y16 y17) (ref16_Same.j2 (k + 1) y0 y1 y2 y3 y4 y5 y6 y7 y8 y9 y10 y11 y12 y13 y14 y15 y16 y17))
 | 0 => ⟨fun _ _ _ _ _ _ _ _ _ _ _ _ _ _ _ _ _ r h => by simp [ref16_Same.j0] at h, fun _ _ _ _ _ _ _ _ _ _ _ _ _ _ _ _ _ r h => by simp [ref16_Same.l0] at h, fun _ _ _ _ _ _ _ _ _ _ _ _ _ _ _ _ _ _ r h => by simp [ref16_Same.j2] at h⟩
 | k + 1 => by
  obtain ⟨ih0, ih1, ih2⟩ := ref16_Same.mono_l k; refine ⟨?_, ?_, ?_⟩
  ·
   intro y0 y1 y2 y3 y4 y5 y6 y7 y8 y9 y10 y11 y12 y13 y14 y15 y16; unfold ref16_Same.j0
   repeat' first
   | (with_reducible exact ih0 _ _ _ _ _ _ _ _ _ _ _ _ _ _ _ _ _)
   | (with_reducible exact ih1 _ _ _ _ _ _ _ _ _ _ _ _ _ _ _ _ _)
   | (with_reducible exact ih2 _ _ _ _ _ _ _ _ _ _ _ _ _ _ _ _ _ _)
   | (with_reducible exact ref16_ints.mono _ _ _)
   | (with_reducible exact ref16_types.mono _ _ _)
   | (with_reducible exact LeO.refl _)
   | (with_reducible exact LeO.none _)
   | (with_reducible refine LeO.ite ?_ ?_)
   | (with_reducible refine LeO.bind ?_ (fun _ => ?_))
   | exact ih0 _ _ _ _ _ _ _ _ _ _ _ _ _ _ _ _ _
   | exact ih1 _ _ _ _ _ _ _ _ _ _ _ _ _ _ _ _ _
   | exact ih2 _ _ _ _ _ _ _ _ _ _ _ _ _ _ _ _ _ _
   | exact ref16_ints.mono _ _ _
   | exact ref16_types.mono _ _ _
   | exact LeO.none _
   | refine LeO.ite ?_ ?_
   | refine LeO.bind ?_ (fun _ => ?_)
  ·
   intro y0 y1 y2 y3 y4 y5 y6 y7 y8 y9 y10 y11 y12 y13 y14 y15 y16; unfold ref16_Same.l0
   repeat' first
   | (with_reducible exact ih0 _ _ _ _ _ _ _ _ _ _ _ _ _ _ _ _ _)
   | (with_reducible exact ih1 _ _ _ _ _ _ _ _ _ _ _ _ _ _ _ _ _)
   | (with_reducible exact ih2 _ _ _ _ _ _ _ _ _ _ _ _ _ _ _ _ _ _)
   | (with_reducible exact ref16_ints.mono _ _ _)
   | (with_reducible exact ref16_types.mono _ _ _)
   | (with_reducible exact LeO.refl _)
   | (with_reducible exact LeO.none _)
   | (with_reducible refine LeO.ite ?_ ?_)
   | (with_reducible refine LeO.bind ?_ (fun _ => ?_))
   | exact ih0 _ _ _ _ _ _ _ _ _ _ _ _ _ _ _ _ _
   | exact ih1 _ _ _ _ _ _ _ _ _ _ _ _ _ _ _ _ _
   | exact ih2 _ _ _ _ _ _ _ _ _ _ _ _ _ _ _ _ _ _
   | exact ref16_ints.mono _ _ _
   | exact ref16_types.mono _ _ _
   | exact LeO.none _
   | refine LeO.ite ?_ ?_
   | refine LeO.bind ?_ (fun _ => ?_)
  ·
   intro y0 y1 y2 y3 y4 y5 y6 y7 y8 y9 y10 y11 y12 y13 y14 y15 y16 y17; unfold ref16_Same.j2
   repeat' first
   | (with_reducible exact ih0 _ _ _ _ _ _ _ _ _ _ _ _ _ _ _ _ _)
   | (with_reducible exact ih1 _ _ _ _ _ _ _ _ _ _ _ _ _ _ _ _ _)
   | (with_reducible exact ih2 _ _ _ _ _ _ _ _ _ _ _ _ _ _ _ _ _ _)
   | (with_reducible exact ref16_ints.mono _ _ _)
   | (with_reducible exact ref16_types.mono _ _ _)
   | (with_reducible exact LeO.refl _)
   | (with_reducible exact LeO.none _)
   | (with_reducible refine LeO.ite ?_ ?_)
   | (with_reducible refine LeO.bind ?_ (fun _ => ?_))
   | exact ih0 _ _ _ _ _ _ _ _ _ _ _ _ _ _ _ _ _
   | exact ih1 _ _ _ _ _ _ _ _ _ _ _ _ _ _ _ _ _
   | exact ih2 _ _ _ _ _ _ _ _ _ _ _ _ _ _ _ _ _ _
   | exact ref16_ints.mono _ _ _
   | exact ref16_types.mono _ _ _
   | exact LeO.none _
   | refine LeO.ite ?_ ?_
   | refine LeO.bind ?_ (fun _ => ?_)
theorem ref16_Same.mono : ∀ a0 a1 a2 a3 a4 a5 a6 a7 a8 a9 a10 a11 a12 a13 a14 a15 k, LeO (ref16_Same.f k a0 a1 a2 a3 a4 a5 a6 a7 a8 a9 a10 a11 a12 a13 a14 a15) (ref16_Same.f (k + 1) a0 a1 a2 a3 a4 a5 a6 a7 a8 a9 a10 a11 a12 a13 a14 a15) := by
 intro a0 a1 a2 a3 a4 a5 a6 a7 a8 a9 a10 a11 a12 a13 a14 a15 k; obtain ⟨ih0, ih1, ih2⟩ := ref16_Same.mono_l k; unfold ref16_Same.f
 repeat' first
   | (with_reducible exact ih0 _ _ _ _ _ _ _ _ _ _ _ _ _ _ _ _ _)
   | (with_reducible exact ih1 _ _ _ _ _ _ _ _ _ _ _ _ _ _ _ _ _)
   | (with_reducible exact ih2 _ _ _ _ _ _ _ _ _ _ _ _ _ _ _ _ _ _)
   | (with_reducible exact ref16_ints.mono _ _ _)
   | (with_reducible exact ref16_types.mono _ _ _)
   | (with_reducible exact LeO.refl _)
   | (with_reducible exact LeO.none _)
   | (with_reducible refine LeO.ite ?_ ?_)
   | (with_reducible refine LeO.bind ?_ (fun _ => ?_))
   | exact ih0 _ _ _ _ _ _ _ _ _ _ _ _ _ _ _ _ _
   | exact ih1 _ _ _ _ _ _ _ _ _ _ _ _ _ _ _ _ _
   | exact ih2 _ _ _ _ _ _ _ _ _ _ _ _ _ _ _ _ _ _
   | exact ref16_ints.mono _ _ _
   | exact ref16_types.mono _ _ _
   | exact LeO.none _
   | refine LeO.ite ?_ ?_
   | refine LeO.bind ?_ (fun _ => ?_)
def ref16_Same.T6 : Bool × List (List Nat × List Nat) := (true, [([], []), ([0], [0]), ([], []), ([1, 2], [1, 2]), ([3], [3]), ([], []), ([5], [5]), ([], []), ([6, 7], [6, 7]), ([8], [8]), ([], []), ([], []), ([10, 4, 0, 1, 2, 3, 4, 10, 11], [4, 10]), ([11, 9, 12, 0, 1, 2, 3, 4, 5, 6, 7, 8, 9, 10, 11, 12], [9, 11])])
def ref16_Same.B6 : List Nat := [0, 1, 0, 7, 15, 0, 32, 0, 224, 480, 0, 0, 3103, 8191]
theorem ref16_Same.tab6 : rtab .any (opsOf Try.f26 6) = ref16_Same.T6 := by kernel_rfl
theorem ref16_Same.bits6 : waitsOk ref16_Same.T6.2 ref16_Same.B6 = true := by kernel_rfl
set_option maxHeartbeats 8000000 in
set_option maxRecDepth 100000 in
theorem ref16_Same.calls (k : Nat) (a0_0 : Int) (a0_1 : Int) (A0_2 : Option Addr) (c0_2 : Nat) (l0_2 : List Int) (A0_3 : Option Addr) (c0_3 : Nat) (l0_3 : List Int) (A0_4 : Option Addr) (c0_4 : Nat) (l0_4 : List (S101)) (A0_5 : Option Addr) (c0_5 : Nat) (l0_5 : List (S79)) (A0_6 : Option Addr) (c0_6 : Nat) (l0_6 : List Int) (a0_7 : Bool) (a1_0 : Int) (a1_1 : Int) (A1_2 : Option Addr) (c1_2 : Nat) (l1_2 : List Int) (A1_3 : Option Addr) (c1_3 : Nat) (l1_3 : List Int) (A1_4 : Option Addr) (c1_4 : Nat) (l1_4 : List (S101)) (A1_5 : Option Addr) (c1_5 : Nat) (l1_5 : List (S79)) (A1_6 : Option Addr) (c1_6 : Nat) (l1_6 : List Int) (a1_7 : Bool) (r : Bool) (w : World) (hr0_2 : Kd.C (Kd.int .u8) w A0_2 l0_2.length l0_2) (hc0_2 : l0_2.length ≤ c0_2) (hr0_3 : Kd.C (Kd.int .i64) w A0_3 l0_3.length l0_3) (hc0_3 : l0_3.length ≤ c0_3) (hr0_4 : Kd.C k101 w A0_4 l0_4.length l0_4) (hc0_4 : l0_4.length ≤ c0_4) (hr0_5 : Kd.C k79 w A0_5 l0_5.length l0_5) (hc0_5 : l0_5.length ≤ c0_5) (hr0_6 : Kd.C (Kd.int .i64) w A0_6 l0_6.length l0_6) (hc0_6 : l0_6.length ≤ c0_6) (hr1_2 : Kd.C (Kd.int .u8) w A1_2 l1_2.length l1_2) (hc1_2 : l1_2.length ≤ c1_2) (hr1_3 : Kd.C (Kd.int .i64) w A1_3 l1_3.length l1_3) (hc1_3 : l1_3.length ≤ c1_3) (hr1_4 : Kd.C k101 w A1_4 l1_4.length l1_4) (hc1_4 : l1_4.length ≤ c1_4) (hr1_5 : Kd.C k79 w A1_5 l1_5.length l1_5) (hc1_5 : l1_5.length ≤ c1_5) (hr1_6 : Kd.C (Kd.int .i64) w A1_6 l1_6.length l1_6) (hc1_6 : l1_6.length ≤ c1_6) (h : ref16_Same.f k a0_0 a0_1 l0_2 l0_3 l0_4 l0_5 l0_6 a0_7 a1_0 a1_1 l1_2 l1_3 l1_4 l1_5 l1_6 a1_7 = some r) :
  Calls Try.prog 26 #[.agg #[.int .i64 a0_0, .int .i64 a0_1, .slice A0_2 l0_2.length c0_2, .slice A0_3 l0_3.length c0_3, .slice A0_4 l0_4.length c0_4, .slice A0_5 l0_5.length c0_5, .slice A0_6 l0_6.length c0_6, .bool a0_7], .agg #[.int .i64 a1_0, .int .i64 a1_1, .slice A1_2 l1_2.length c1_2, .slice A1_3 l1_3.length c1_3, .slice A1_4 l1_4.length c1_4, .slice A1_5 l1_5.length c1_5, .slice A1_6 l1_6.length c1_6, .bool a1_7]] w fun e w' => e = .returned (.bool r) ∧ Below w.heap.size w w' := by
 have hu31 := Try.underlying31; have hu79 := Try.underlying79; have HR0_2 := Aside0.mk hr0_2; have HC0_2 := Aside0.mk hc0_2; clear hr0_2 hc0_2; have HR0_3 := Aside0.mk hr0_3; have HC0_3 := Aside0.mk hc0_3; clear hr0_3 hc0_3; have HR0_4 := Aside0.mk hr0_4; have HC0_4 := Aside0.mk hc0_4; clear hr0_4 hc0_4; have HR0_5 := Aside0.mk hr0_5; have HC0_5 := Aside0.mk hc0_5; clear hr0_5 hc0_5; have HR0_6 := Aside0.mk hr0_6; have HC0_6 := Aside0.mk hc0_6; clear hr0_6 hc0_6; have HR1_2 := Aside0.mk hr1_2; have HC1_2 := Aside0.mk hc1_2; clear hr1_2 hc1_2; have HR1_3 := Aside0.mk hr1_3; have HC1_3 := Aside0.mk hc1_3; clear hr1_3 hc1_3; have HR1_4 := Aside0.mk hr1_4; have HC1_4 := Aside0.mk hc1_4; clear hr1_4 hc1_4; have HR1_5 := Aside0.mk hr1_5; have HC1_5 := Aside0.mk hc1_5; clear hr1_5 hc1_5; have HR1_6 := Aside0.mk hr1_6; have HC1_6 := Aside0.mk hc1_6; clear hr1_6 hc1_6; have HB := Aside0.mk (Below.refl w.heap.size w); have H : (if a0_0 = a1_0 then (if a0_1 = a1_1 then (if (strOfNums l0_2).toList = (strOfNums l1_2).toList then ((ref16_ints.f k l0_3 l1_3).bind fun t292 => (if t292 = true then (if (l0_5.length : Int) = (l1_5.length : Int) then ((ref16_ints.f k l0_6 l1_6).bind fun t293 => (if t293 = true then (if (a0_7 != a1_7) = true then (ref16_Same.j0 k true a0_0 a0_1 l0_2 l0_3 l0_4 l0_5 l0_6 a0_7 a1_0 a1_1 l1_2 l1_3 l1_4 l1_5 l1_6 a1_7) else ((ref16_types.f k l0_4 l1_4).bind fun t294 => (ref16_Same.j0 k (!t294) a0_0 a0_1 l0_2 l0_3 l0_4 l0_5 l0_6 a0_7 a1_0 a1_1 l1_2 l1_3 l1_4 l1_5 l1_6 a1_7))) else (ref16_Same.j0 k true a0_0 a0_1 l0_2 l0_3 l0_4 l0_5 l0_6 a0_7 a1_0 a1_1 l1_2 l1_3 l1_4 l1_5 l1_6 a1_7))) else (ref16_Same.j0 k true a0_0 a0_1 l0_2 l0_3 l0_4 l0_5 l0_6 a0_7 a1_0 a1_1 l1_2 l1_3 l1_4 l1_5 l1_6 a1_7)) else (ref16_Same.j0 k true a0_0 a0_1 l0_2 l0_3 l0_4 l0_5 l0_6 a0_7 a1_0 a1_1 l1_2 l1_3 l1_4 l1_5 l1_6 a1_7))) else (ref16_Same.j0 k true a0_0 a0_1 l0_2 l0_3 l0_4 l0_5 l0_6 a0_7 a1_0 a1_1 l1_2 l1_3 l1_4 l1_5 l1_6 a1_7)) else (ref16_Same.j0 k true a0_0 a0_1 l0_2 l0_3 l0_4 l0_5 l0_6 a0_7 a1_0 a1_1 l1_2 l1_3 l1_4 l1_5 l1_6 a1_7)) else (ref16_Same.j0 k true a0_0 a0_1 l0_2 l0_3 l0_4 l0_5 l0_6 a0_7 a1_0 a1_1 l1_2 l1_3 l1_4 l1_5 l1_6 a1_7)) = some r := h; clear h; have HC3 := Aside0.mk H; clear H; go_enter Try.func26, Try.ntmps26
 go_upto_region 1 with (first | ((with_reducible refine gate_dst (N := 2) rfl ?_); (try (refine gate_guard (by rfl) ?_; dsimp only)); refine box_event ?hg (N := 2) ?hd (cs := #[.int .i64 a0_0, .int .i64 a0_1, .slice A0_2 l0_2.length c0_2, .slice A0_3 l0_3.length c0_3, .slice A0_4 l0_4.length c0_4, .slice A0_5 l0_5.length c0_5, .slice A0_6 l0_6.length c0_6, .bool a0_7]) (t := 31) ?hr ?_; (case hd => rfl); (case hg => rfl); (case hr => first | (go_simp; done) | (go_simp; rfl)); intro gb290 hg w4 hbox hb; have n0_ := Aside0.mk (below_step (hb0_ HB.out) hb); have n1_ := Aside0.mk (hbox); have n2_ := Aside0.mk ((by rw [hg]; exact (below_size (hb0_ HB.out)) : w.heap.size ≤ gb290)); have n3_ := Aside0.mk ((by rw [hg]; exact (below_size (hb0_ HB.out)) : w.heap.size ≤ gb290)); clear HB; revert n0_ n1_ n2_ n3_; intro HB BK290 GW290 GE290; clear hb hbox hg) | ((with_reducible refine gate_dst (N := 3) rfl ?_); (try (refine gate_guard (by rfl) ?_; dsimp only)); refine box_event ?hg (N := 3) ?hd (cs := #[.int .i64 a1_0, .int .i64 a1_1, .slice A1_2 l1_2.length c1_2, .slice A1_3 l1_3.length c1_3, .slice A1_4 l1_4.length c1_4, .slice A1_5 l1_5.length c1_5, .slice A1_6 l1_6.length c1_6, .bool a1_7]) (t := 31) ?hr ?_; (case hd => rfl); (case hg => rfl); (case hr => first | (go_simp; done) | (go_simp; rfl)); intro gb291 hg w5 hbox hb; have n0_ := Aside0.mk (bb_ BK290.out hb); have n1_ := Aside0.mk (below_step (hb1_ HB.out GE290.out) hb); have n2_ := Aside0.mk (hbox); have n3_ := Aside0.mk ((by rw [hg]; exact (below_size (hb1_ HB.out GE290.out)) : w.heap.size ≤ gb291)); have n4_ := Aside0.mk ((by rw [hg]; exact (below_size (hb1_ HB.out GE290.out)) : w.heap.size ≤ gb291)); have n5_ := Aside0.mk ((by rw [hg]; exact Nat.ne_of_lt (blk_lt (g := gb290) (o := .cells #[.int .i64 a0_0, .int .i64 a0_1, .slice A0_2 l0_2.length c0_2, .slice A0_3 l0_3.length c0_3, .slice A0_4 l0_4.length c0_4, .slice A0_5 l0_5.length c0_5, .slice A0_6 l0_6.length c0_6, .bool a0_7] 31 (0, 0)) (bk_ BK290.out)) : gb290 ≠ gb291)); have n6_ := Aside0.mk ((by rw [hg]; exact Nat.ne_of_gt (blk_lt (g := gb290) (o := .cells #[.int .i64 a0_0, .int .i64 a0_1, .slice A0_2 l0_2.length c0_2, .slice A0_3 l0_3.length c0_3, .slice A0_4 l0_4.length c0_4, .slice A0_5 l0_5.length c0_5, .slice A0_6 l0_6.length c0_6, .bool a0_7] 31 (0, 0)) (bk_ BK290.out)) : gb291 ≠ gb290)); clear BK290 HB; revert n0_ n1_ n2_ n3_ n4_ n5_ n6_; intro BK290 HB BK291 GW291 GE291 NB290_291 NB291_290; clear hb hbox hg))
 (try simp only [Act.put, setIfInBounds_toArray, set_cons_zero, set_cons_succ])
 go_cut [68] (fun v68 wc => ∃ (kq : Nat) (x68_2 : Bool), v68 = .bool x68_2 ∧ Aside0 (ref16_Same.j0 kq x68_2 a0_0 a0_1 l0_2 l0_3 l0_4 l0_5 l0_6 a0_7 a1_0 a1_1 l1_2 l1_3 l1_4 l1_5 l1_6 a1_7 = some r) ∧ Aside0 (kq ≤ k) ∧ Aside0 (wc.heap[gb290]? = some (.cells #[.int .i64 a0_0, .int .i64 a0_1, (.slice A0_2 l0_2.length c0_2), (.slice A0_3 l0_3.length c0_3), (.slice A0_4 l0_4.length c0_4), (.slice A0_5 l0_5.length c0_5), (.slice A0_6 l0_6.length c0_6), .bool a0_7] 31 (0, 0))) ∧ Aside0 (wc.heap[gb291]? = some (.cells #[.int .i64 a1_0, .int .i64 a1_1, (.slice A1_2 l1_2.length c1_2), (.slice A1_3 l1_3.length c1_3), (.slice A1_4 l1_4.length c1_4), (.slice A1_5 l1_5.length c1_5), (.slice A1_6 l1_6.length c1_6), .bool a1_7] 31 (0, 0))) ∧ Aside0 (Below w.heap.size w wc))
 case first =>
  have H := HC3.out; clear HC3; by_cases c6 : a0_0 = a1_0
  ·
   rw [if_pos c6] at H; have c6b0 : (a0_0 == a1_0) = true := beq_iff_eq.mpr c6; have c6b1 : (a0_0 != a1_0) = false := bne_eq_false_iff_eq.mpr c6; clear c6; (first | rw [c6b0] | (simp only [i64_w, i32_w]; rw [c6b0]) | skip)
   by_cases c7 : a0_1 = a1_1
   ·
    rw [if_pos c7] at H; have c7b0 : (a0_1 == a1_1) = true := beq_iff_eq.mpr c7; have c7b1 : (a0_1 != a1_1) = false := bne_eq_false_iff_eq.mpr c7; clear c7; by_cases c8 : (strOfNums l0_2).toList = (strOfNums l1_2).toList
    ·
     rw [if_pos c8] at H; have c8b0 : ((strOfNums l0_2).toList == (strOfNums l1_2).toList) = true := beq_iff_eq.mpr c8; have c8b1 : ((strOfNums l0_2).toList != (strOfNums l1_2).toList) = false := bne_eq_false_iff_eq.mpr c8; clear c8; replace H := Option.bind_eq_some_iff.mp H; obtain ⟨t292, A90, H⟩ := H; (try dsimp only at H); have A9 := Aside0.mk A90; clear A90; by_cases c10 : t292 = true
     ·
      subst c10; have H1 : (if (l0_5.length : Int) = (l1_5.length : Int) then ((ref16_ints.f k l0_6 l1_6).bind fun t293 => (if t293 = true then (if (a0_7 != a1_7) = true then (ref16_Same.j0 k true a0_0 a0_1 l0_2 l0_3 l0_4 l0_5 l0_6 a0_7 a1_0 a1_1 l1_2 l1_3 l1_4 l1_5 l1_6 a1_7) else ((ref16_types.f k l0_4 l1_4).bind fun t294 => (ref16_Same.j0 k (!t294) a0_0 a0_1 l0_2 l0_3 l0_4 l0_5 l0_6 a0_7 a1_0 a1_1 l1_2 l1_3 l1_4 l1_5 l1_6 a1_7))) else (ref16_Same.j0 k true a0_0 a0_1 l0_2 l0_3 l0_4 l0_5 l0_6 a0_7 a1_0 a1_1 l1_2 l1_3 l1_4 l1_5 l1_6 a1_7))) else (ref16_Same.j0 k true a0_0 a0_1 l0_2 l0_3 l0_4 l0_5 l0_6 a0_7 a1_0 a1_1 l1_2 l1_3 l1_4 l1_5 l1_6 a1_7)) = some r := by rw [if_pos rfl] at H; exact H
      clear H; have H := H1; clear H1; by_cases c11 : (l0_5.length : Int) = (l1_5.length : Int)
      ·
       rw [if_pos c11] at H; have c11b0 : ((l0_5.length : Int) == (l1_5.length : Int)) = true := beq_iff_eq.mpr c11; have c11b1 : ((l0_5.length : Int) != (l1_5.length : Int)) = false := bne_eq_false_iff_eq.mpr c11; have c11b2 : (l0_5.length == l1_5.length) = true := by first | simpa using c11 | (simp at c11 ⊢; omega)
       clear c11; replace H := Option.bind_eq_some_iff.mp H; obtain ⟨t293, A120, H⟩ := H; (try dsimp only at H); have A12 := Aside0.mk A120; clear A120; by_cases c13 : t293 = true
       ·
        subst c13; have H1 : (if (a0_7 != a1_7) = true then (ref16_Same.j0 k true a0_0 a0_1 l0_2 l0_3 l0_4 l0_5 l0_6 a0_7 a1_0 a1_1 l1_2 l1_3 l1_4 l1_5 l1_6 a1_7) else ((ref16_types.f k l0_4 l1_4).bind fun t294 => (ref16_Same.j0 k (!t294) a0_0 a0_1 l0_2 l0_3 l0_4 l0_5 l0_6 a0_7 a1_0 a1_1 l1_2 l1_3 l1_4 l1_5 l1_6 a1_7))) = some r := by rw [if_pos rfl] at H; exact H
        clear H; have H := H1; clear H1; by_cases c14 : (a0_7 != a1_7) = true
        ·
         rw [if_pos c14] at H; have c14b0 : (a0_7 != a1_7) = true := c14; (try (have c14b1 : decide (a0_7 = a1_7) = false := by simpa using c14))
         (try (have c14b2 : (a0_7 == a1_7) = false := by simpa using c14))
         (try (have c14b3 : ¬ (a0_7 = a1_7) := by simpa using c14))
         clear c14; have H' := Aside0.mk H; clear H; have hnb15 := NB290_291.out; have hnc15 := NB291_290.out; obtain ⟨hcz16_0, hcz16_1, hcz16_2, hcz16_3, hcz16_4, hcz16_5, hcz16_6, hcz16_7, hfz16_0, hfz16_1, hfz16_2, hfz16_3, hfz16_4, hfz16_5, hfz16_6, hfz16_7⟩ := bx8_ BK290.out; obtain ⟨hcz17_0, hcz17_1, hcz17_2, hcz17_3, hcz17_4, hcz17_5, hcz17_6, hcz17_7, hfz17_0, hfz17_1, hfz17_2, hfz17_3, hfz17_4, hfz17_5, hfz17_6, hfz17_7⟩ := bx8_ BK291.out; have hcv18 := Kd.C_string (P := Try.prog) (A := A0_2) (c := c0_2) Try.underlying27 Try.underlying5 Try.underlying9 (Kd.C_below HR0_2.out HB.out); have hcv19 := Kd.C_string (P := Try.prog) (A := A1_2) (c := c1_2) Try.underlying27 Try.underlying5 Try.underlying9 (Kd.C_below HR1_2.out HB.out); go_wp2_with (first | (go_at_call 74; (with_reducible refine (ref16_ints.calls k _ _ l0_3 _ _ l1_3 true _ ?side1 ?side2 ?side3 ?side4 A9.out).mono ?_); (case side1 => exact kD_ (Kd.C_below HR0_3.out HB.out)); (case side2 => exact HC0_3.out); (case side3 => exact kD_ (Kd.C_below HR1_3.out HB.out)); (case side4 => exact HC1_3.out); rintro e w' ⟨rfl, ⟨nd, rfl⟩⟩) | (go_at_call 74; (with_reducible refine (ref16_ints.calls k _ _ l0_6 _ _ l1_6 true _ ?side1 ?side2 ?side3 ?side4 A12.out).mono ?_); (case side1 => exact kD_ (Kd.C_below HR0_6.out (hb2_ HB.out GE290.out GE291.out))); (case side2 => exact HC0_6.out); (case side3 => exact kD_ (Kd.C_below HR1_6.out (hb2_ HB.out GE290.out GE291.out))); (case side4 => exact HC1_6.out); rintro e w' ⟨rfl, ⟨nd, rfl⟩⟩))
         go_meet
         case rel => exact ⟨_, (true), rf_, H', ⟨om_⟩, ⟨(bk_ BK290.out)⟩, ⟨(bk_ BK291.out)⟩, ⟨(hb2_ HB.out GE290.out GE291.out)⟩⟩
        ·
         rw [if_neg c14] at H; have c14b0 : (a0_7 != a1_7) = false := by simpa using c14
         (try (have c14b1 : decide (a0_7 = a1_7) = true := by simpa using c14))
         (try (have c14b2 : (a0_7 == a1_7) = true := by simpa using c14))
         clear c14; replace H := Option.bind_eq_some_iff.mp H; obtain ⟨t294, A200, H⟩ := H; (try dsimp only at H); have A20 := Aside0.mk A200; clear A200; have H' := Aside0.mk H; clear H; have hnb21 := NB290_291.out; have hnc21 := NB291_290.out; obtain ⟨hcz22_0, hcz22_1, hcz22_2, hcz22_3, hcz22_4, hcz22_5, hcz22_6, hcz22_7, hfz22_0, hfz22_1, hfz22_2, hfz22_3, hfz22_4, hfz22_5, hfz22_6, hfz22_7⟩ := bx8_ BK290.out; obtain ⟨hcz23_0, hcz23_1, hcz23_2, hcz23_3, hcz23_4, hcz23_5, hcz23_6, hcz23_7, hfz23_0, hfz23_1, hfz23_2, hfz23_3, hfz23_4, hfz23_5, hfz23_6, hfz23_7⟩ := bx8_ BK291.out; have hcv24 := Kd.C_string (P := Try.prog) (A := A0_2) (c := c0_2) Try.underlying27 Try.underlying5 Try.underlying9 (Kd.C_below HR0_2.out HB.out); have hcv25 := Kd.C_string (P := Try.prog) (A := A1_2) (c := c1_2) Try.underlying27 Try.underlying5 Try.underlying9 (Kd.C_below HR1_2.out HB.out); go_wp2_with (first | (go_at_call 74; (with_reducible refine (ref16_ints.calls k _ _ l0_3 _ _ l1_3 true _ ?side1 ?side2 ?side3 ?side4 A9.out).mono ?_); (case side1 => exact kD_ (Kd.C_below HR0_3.out HB.out)); (case side2 => exact HC0_3.out); (case side3 => exact kD_ (Kd.C_below HR1_3.out HB.out)); (case side4 => exact HC1_3.out); rintro e w' ⟨rfl, ⟨nd, rfl⟩⟩) | (go_at_call 74; (with_reducible refine (ref16_ints.calls k _ _ l0_6 _ _ l1_6 true _ ?side1 ?side2 ?side3 ?side4 A12.out).mono ?_); (case side1 => exact kD_ (Kd.C_below HR0_6.out (hb2_ HB.out GE290.out GE291.out))); (case side2 => exact HC0_6.out); (case side3 => exact kD_ (Kd.C_below HR1_6.out (hb2_ HB.out GE290.out GE291.out))); (case side4 => exact HC1_6.out); rintro e w' ⟨rfl, ⟨nd, rfl⟩⟩) | (go_at_call 75; (with_reducible refine (ref16_types.calls k _ _ l0_4 _ _ l1_4 t294 _ ?side1 ?side2 ?side3 ?side4 A20.out).mono ?_); (case side1 => exact kD_ (Kd.C_below HR0_4.out (hb2_ HB.out GE290.out GE291.out))); (case side2 => exact HC0_4.out); (case side3 => exact kD_ (Kd.C_below HR1_4.out (hb2_ HB.out GE290.out GE291.out))); (case side4 => exact HC1_4.out); rintro e w26 ⟨rfl, hb⟩; have n0_ := Aside0.mk (bb_ BK290.out hb); have n1_ := Aside0.mk (bb_ BK291.out hb); have n2_ := Aside0.mk (below_step (hb2_ HB.out GE290.out GE291.out) hb); clear BK290 BK291 HB; revert n0_ n1_ n2_; intro BK290 BK291 HB; (try clear hb); (try clear hb2); (try clear hk); (try clear hi)))
         go_meet
         case rel => exact ⟨_, (!t294), rf_, H', ⟨om_⟩, ⟨(bk_ BK290.out)⟩, ⟨(bk_ BK291.out)⟩, ⟨(hb2_ HB.out GE290.out GE291.out)⟩⟩
       ·
        replace c13 := Bool.eq_false_iff.mpr c13; subst c13; have H1 : (ref16_Same.j0 k true a0_0 a0_1 l0_2 l0_3 l0_4 l0_5 l0_6 a0_7 a1_0 a1_1 l1_2 l1_3 l1_4 l1_5 l1_6 a1_7) = some r := by rw [if_neg (show ¬ (false = true) by decide)] at H; exact H
        clear H; have H := H1; clear H1; have H' := Aside0.mk H; clear H; have hnb27 := NB290_291.out; have hnc27 := NB291_290.out; obtain ⟨hcz28_0, hcz28_1, hcz28_2, hcz28_3, hcz28_4, hcz28_5, hcz28_6, hcz28_7, hfz28_0, hfz28_1, hfz28_2, hfz28_3, hfz28_4, hfz28_5, hfz28_6, hfz28_7⟩ := bx8_ BK290.out; obtain ⟨hcz29_0, hcz29_1, hcz29_2, hcz29_3, hcz29_4, hcz29_5, hcz29_6, hcz29_7, hfz29_0, hfz29_1, hfz29_2, hfz29_3, hfz29_4, hfz29_5, hfz29_6, hfz29_7⟩ := bx8_ BK291.out; have hcv30 := Kd.C_string (P := Try.prog) (A := A0_2) (c := c0_2) Try.underlying27 Try.underlying5 Try.underlying9 (Kd.C_below HR0_2.out HB.out); have hcv31 := Kd.C_string (P := Try.prog) (A := A1_2) (c := c1_2) Try.underlying27 Try.underlying5 Try.underlying9 (Kd.C_below HR1_2.out HB.out); go_wp2_with (first | (go_at_call 74; (with_reducible refine (ref16_ints.calls k _ _ l0_3 _ _ l1_3 true _ ?side1 ?side2 ?side3 ?side4 A9.out).mono ?_); (case side1 => exact kD_ (Kd.C_below HR0_3.out HB.out)); (case side2 => exact HC0_3.out); (case side3 => exact kD_ (Kd.C_below HR1_3.out HB.out)); (case side4 => exact HC1_3.out); rintro e w' ⟨rfl, ⟨nd, rfl⟩⟩) | (go_at_call 74; (with_reducible refine (ref16_ints.calls k _ _ l0_6 _ _ l1_6 false _ ?side1 ?side2 ?side3 ?side4 A12.out).mono ?_); (case side1 => exact kD_ (Kd.C_below HR0_6.out (hb2_ HB.out GE290.out GE291.out))); (case side2 => exact HC0_6.out); (case side3 => exact kD_ (Kd.C_below HR1_6.out (hb2_ HB.out GE290.out GE291.out))); (case side4 => exact HC1_6.out); rintro e w' ⟨rfl, ⟨nd, rfl⟩⟩))
        go_meet
        case rel => exact ⟨_, (true), rf_, H', ⟨om_⟩, ⟨(bk_ BK290.out)⟩, ⟨(bk_ BK291.out)⟩, ⟨(hb2_ HB.out GE290.out GE291.out)⟩⟩
      ·
       rw [if_neg c11] at H; have c11b0 : ((l0_5.length : Int) == (l1_5.length : Int)) = false := beq_eq_false_iff_ne.mpr c11; have c11b1 : ((l0_5.length : Int) != (l1_5.length : Int)) = true := bne_iff_ne.mpr c11; have c11b2 : (l0_5.length == l1_5.length) = false := by first | simpa using c11 | (simp at c11 ⊢; omega)
       have H' := Aside0.mk H; clear H; have hnb32 := NB290_291.out; have hnc32 := NB291_290.out; obtain ⟨hcz33_0, hcz33_1, hcz33_2, hcz33_3, hcz33_4, hcz33_5, hcz33_6, hcz33_7, hfz33_0, hfz33_1, hfz33_2, hfz33_3, hfz33_4, hfz33_5, hfz33_6, hfz33_7⟩ := bx8_ BK290.out; obtain ⟨hcz34_0, hcz34_1, hcz34_2, hcz34_3, hcz34_4, hcz34_5, hcz34_6, hcz34_7, hfz34_0, hfz34_1, hfz34_2, hfz34_3, hfz34_4, hfz34_5, hfz34_6, hfz34_7⟩ := bx8_ BK291.out; have hcv35 := Kd.C_string (P := Try.prog) (A := A0_2) (c := c0_2) Try.underlying27 Try.underlying5 Try.underlying9 (Kd.C_below HR0_2.out HB.out); have hcv36 := Kd.C_string (P := Try.prog) (A := A1_2) (c := c1_2) Try.underlying27 Try.underlying5 Try.underlying9 (Kd.C_below HR1_2.out HB.out); go_wp2_with (first | (go_at_call 74; (with_reducible refine (ref16_ints.calls k _ _ l0_3 _ _ l1_3 true _ ?side1 ?side2 ?side3 ?side4 A9.out).mono ?_); (case side1 => exact kD_ (Kd.C_below HR0_3.out HB.out)); (case side2 => exact HC0_3.out); (case side3 => exact kD_ (Kd.C_below HR1_3.out HB.out)); (case side4 => exact HC1_3.out); rintro e w' ⟨rfl, ⟨nd, rfl⟩⟩))
       go_meet
       case rel => exact ⟨_, (true), rf_, H', ⟨om_⟩, ⟨(bk_ BK290.out)⟩, ⟨(bk_ BK291.out)⟩, ⟨(hb2_ HB.out GE290.out GE291.out)⟩⟩
     ·
      replace c10 := Bool.eq_false_iff.mpr c10; subst c10; have H1 : (ref16_Same.j0 k true a0_0 a0_1 l0_2 l0_3 l0_4 l0_5 l0_6 a0_7 a1_0 a1_1 l1_2 l1_3 l1_4 l1_5 l1_6 a1_7) = some r := by rw [if_neg (show ¬ (false = true) by decide)] at H; exact H
      clear H; have H := H1; clear H1; have H' := Aside0.mk H; clear H; have hnb37 := NB290_291.out; have hnc37 := NB291_290.out; obtain ⟨hcz38_0, hcz38_1, hcz38_2, hcz38_3, hcz38_4, hcz38_5, hcz38_6, hcz38_7, hfz38_0, hfz38_1, hfz38_2, hfz38_3, hfz38_4, hfz38_5, hfz38_6, hfz38_7⟩ := bx8_ BK290.out; obtain ⟨hcz39_0, hcz39_1, hcz39_2, hcz39_3, hcz39_4, hcz39_5, hcz39_6, hcz39_7, hfz39_0, hfz39_1, hfz39_2, hfz39_3, hfz39_4, hfz39_5, hfz39_6, hfz39_7⟩ := bx8_ BK291.out; have hcv40 := Kd.C_string (P := Try.prog) (A := A0_2) (c := c0_2) Try.underlying27 Try.underlying5 Try.underlying9 (Kd.C_below HR0_2.out HB.out); have hcv41 := Kd.C_string (P := Try.prog) (A := A1_2) (c := c1_2) Try.underlying27 Try.underlying5 Try.underlying9 (Kd.C_below HR1_2.out HB.out); go_wp2_with (first | (go_at_call 74; (with_reducible refine (ref16_ints.calls k _ _ l0_3 _ _ l1_3 false _ ?side1 ?side2 ?side3 ?side4 A9.out).mono ?_); (case side1 => exact kD_ (Kd.C_below HR0_3.out HB.out)); (case side2 => exact HC0_3.out); (case side3 => exact kD_ (Kd.C_below HR1_3.out HB.out)); (case side4 => exact HC1_3.out); rintro e w' ⟨rfl, ⟨nd, rfl⟩⟩))
      go_meet
      case rel => exact ⟨_, (true), rf_, H', ⟨om_⟩, ⟨(bk_ BK290.out)⟩, ⟨(bk_ BK291.out)⟩, ⟨(hb2_ HB.out GE290.out GE291.out)⟩⟩
    ·
     rw [if_neg c8] at H; have c8b0 : ((strOfNums l0_2).toList == (strOfNums l1_2).toList) = false := beq_eq_false_iff_ne.mpr c8; have c8b1 : ((strOfNums l0_2).toList != (strOfNums l1_2).toList) = true := bne_iff_ne.mpr c8; have H' := Aside0.mk H; clear H; have hnb42 := NB290_291.out; have hnc42 := NB291_290.out; obtain ⟨hcz43_0, hcz43_1, hcz43_2, hcz43_3, hcz43_4, hcz43_5, hcz43_6, hcz43_7, hfz43_0, hfz43_1, hfz43_2, hfz43_3, hfz43_4, hfz43_5, hfz43_6, hfz43_7⟩ := bx8_ BK290.out; obtain ⟨hcz44_0, hcz44_1, hcz44_2, hcz44_3, hcz44_4, hcz44_5, hcz44_6, hcz44_7, hfz44_0, hfz44_1, hfz44_2, hfz44_3, hfz44_4, hfz44_5, hfz44_6, hfz44_7⟩ := bx8_ BK291.out; have hcv45 := Kd.C_string (P := Try.prog) (A := A0_2) (c := c0_2) Try.underlying27 Try.underlying5 Try.underlying9 (Kd.C_below HR0_2.out HB.out); have hcv46 := Kd.C_string (P := Try.prog) (A := A1_2) (c := c1_2) Try.underlying27 Try.underlying5 Try.underlying9 (Kd.C_below HR1_2.out HB.out); go_wp2
     go_meet
     case rel => exact ⟨_, (true), rf_, H', ⟨om_⟩, ⟨(bk_ BK290.out)⟩, ⟨(bk_ BK291.out)⟩, ⟨(hb2_ HB.out GE290.out GE291.out)⟩⟩
   ·
    rw [if_neg c7] at H; have c7b0 : (a0_1 == a1_1) = false := beq_eq_false_iff_ne.mpr c7; have c7b1 : (a0_1 != a1_1) = true := bne_iff_ne.mpr c7; have H' := Aside0.mk H; clear H; have hnb47 := NB290_291.out; have hnc47 := NB291_290.out; obtain ⟨hcz48_0, hcz48_1, hcz48_2, hcz48_3, hcz48_4, hcz48_5, hcz48_6, hcz48_7, hfz48_0, hfz48_1, hfz48_2, hfz48_3, hfz48_4, hfz48_5, hfz48_6, hfz48_7⟩ := bx8_ BK290.out; obtain ⟨hcz49_0, hcz49_1, hcz49_2, hcz49_3, hcz49_4, hcz49_5, hcz49_6, hcz49_7, hfz49_0, hfz49_1, hfz49_2, hfz49_3, hfz49_4, hfz49_5, hfz49_6, hfz49_7⟩ := bx8_ BK291.out; go_wp2
    go_meet
    case rel => exact ⟨_, (true), rf_, H', ⟨om_⟩, ⟨(bk_ BK290.out)⟩, ⟨(bk_ BK291.out)⟩, ⟨(hb2_ HB.out GE290.out GE291.out)⟩⟩
  ·
   rw [if_neg c6] at H; have c6b0 : (a0_0 == a1_0) = false := beq_eq_false_iff_ne.mpr c6; have c6b1 : (a0_0 != a1_0) = true := bne_iff_ne.mpr c6; (first | rw [c6b0] | (simp only [i64_w, i32_w]; rw [c6b0]) | skip)
   have H' := Aside0.mk H; clear H; have hnb50 := NB290_291.out; have hnc50 := NB291_290.out; obtain ⟨hcz51_0, hcz51_1, hcz51_2, hcz51_3, hcz51_4, hcz51_5, hcz51_6, hcz51_7, hfz51_0, hfz51_1, hfz51_2, hfz51_3, hfz51_4, hfz51_5, hfz51_6, hfz51_7⟩ := bx8_ BK290.out; obtain ⟨hcz52_0, hcz52_1, hcz52_2, hcz52_3, hcz52_4, hcz52_5, hcz52_6, hcz52_7, hfz52_0, hfz52_1, hfz52_2, hfz52_3, hfz52_4, hfz52_5, hfz52_6, hfz52_7⟩ := bx8_ BK291.out; go_wp2
   go_meet
   case rel => exact ⟨_, (true), rf_, H', ⟨om_⟩, ⟨(bk_ BK290.out)⟩, ⟨(bk_ BK291.out)⟩, ⟨(hb2_ HB.out GE290.out GE291.out)⟩⟩
 case rest =>
  clear HC3; try clear c1
  try clear hcv1
  try clear c2
  try clear p2
  try clear hcv2
  try clear c3
  try clear hcv3
  try clear c4
  try clear hcv4
  try clear c5
  try clear c6
  try clear c6b0
  try clear c6b1
  try clear c7
  try clear c7b0
  try clear c7b1
  try clear c8
  try clear c8b0
  try clear c8b1
  try clear c10
  try clear c11
  try clear c11b0
  try clear c11b1
  try clear c11b2
  try clear c13
  try clear c14
  try clear c14b0
  try clear c14b1
  try clear c14b2
  try clear c15
  try clear hcv18
  try clear hcv19
  try clear c21
  try clear hcv24
  try clear hcv25
  try clear c26
  try clear c27
  try clear hcv30
  try clear hcv31
  try clear c32
  try clear hcv35
  try clear hcv36
  try clear c37
  try clear hcv40
  try clear hcv41
  try clear c42
  try clear hcv45
  try clear hcv46
  try clear c47
  try clear c50
  try clear hcz16_0
  try clear hcz16_1
  try clear hcz16_2
  try clear hcz16_3
  try clear hcz16_4
  try clear hcz16_5
  try clear hcz16_6
  try clear hcz16_7
  try clear hcz17_0
  try clear hcz17_1
  try clear hcz17_2
  try clear hcz17_3
  try clear hcz17_4
  try clear hcz17_5
  try clear hcz17_6
  try clear hcz17_7
  try clear hcz22_0
  try clear hcz22_1
  try clear hcz22_2
  try clear hcz22_3
  try clear hcz22_4
  try clear hcz22_5
  try clear hcz22_6
  try clear hcz22_7
  try clear hcz23_0
  try clear hcz23_1
  try clear hcz23_2
  try clear hcz23_3
  try clear hcz23_4
  try clear hcz23_5
  try clear hcz23_6
  try clear hcz23_7
  try clear hcz28_0
  try clear hcz28_1
  try clear hcz28_2
  try clear hcz28_3
  try clear hcz28_4
  try clear hcz28_5
  try clear hcz28_6
  try clear hcz28_7
  try clear hcz29_0
  try clear hcz29_1
  try clear hcz29_2
  try clear hcz29_3
  try clear hcz29_4
  try clear hcz29_5
  try clear hcz29_6
  try clear hcz29_7
  try clear hcz33_0
  try clear hcz33_1
  try clear hcz33_2
  try clear hcz33_3
  try clear hcz33_4
  try clear hcz33_5
  try clear hcz33_6
  try clear hcz33_7
  try clear hcz34_0
  try clear hcz34_1
  try clear hcz34_2
  try clear hcz34_3
  try clear hcz34_4
  try clear hcz34_5
  try clear hcz34_6
  try clear hcz34_7
  try clear hcz38_0
  try clear hcz38_1
  try clear hcz38_2
  try clear hcz38_3
  try clear hcz38_4
  try clear hcz38_5
  try clear hcz38_6
  try clear hcz38_7
  try clear hcz39_0
  try clear hcz39_1
  try clear hcz39_2
  try clear hcz39_3
  try clear hcz39_4
  try clear hcz39_5
  try clear hcz39_6
  try clear hcz39_7
  try clear hcz43_0
  try clear hcz43_1
  try clear hcz43_2
  try clear hcz43_3
  try clear hcz43_4
  try clear hcz43_5
  try clear hcz43_6
  try clear hcz43_7
  try clear hcz44_0
  try clear hcz44_1
  try clear hcz44_2
  try clear hcz44_3
  try clear hcz44_4
  try clear hcz44_5
  try clear hcz44_6
  try clear hcz44_7
  try clear hcz48_0
  try clear hcz48_1
  try clear hcz48_2
  try clear hcz48_3
  try clear hcz48_4
  try clear hcz48_5
  try clear hcz48_6
  try clear hcz48_7
  try clear hcz49_0
  try clear hcz49_1
  try clear hcz49_2
  try clear hcz49_3
  try clear hcz49_4
  try clear hcz49_5
  try clear hcz49_6
  try clear hcz49_7
  try clear hcz51_0
  try clear hcz51_1
  try clear hcz51_2
  try clear hcz51_3
  try clear hcz51_4
  try clear hcz51_5
  try clear hcz51_6
  try clear hcz51_7
  try clear hcz52_0
  try clear hcz52_1
  try clear hcz52_2
  try clear hcz52_3
  try clear hcz52_4
  try clear hcz52_5
  try clear hcz52_6
  try clear hcz52_7
  try clear hfz16_0
  try clear hfz16_1
  try clear hfz16_2
  try clear hfz16_3
  try clear hfz16_4
  try clear hfz16_5
  try clear hfz16_6
  try clear hfz16_7
  try clear hfz17_0
  try clear hfz17_1
  try clear hfz17_2
  try clear hfz17_3
  try clear hfz17_4
  try clear hfz17_5
  try clear hfz17_6
  try clear hfz17_7
  try clear hfz22_0
  try clear hfz22_1
  try clear hfz22_2
  try clear hfz22_3
  try clear hfz22_4
  try clear hfz22_5
  try clear hfz22_6
  try clear hfz22_7
  try clear hfz23_0
  try clear hfz23_1
  try clear hfz23_2
  try clear hfz23_3
  try clear hfz23_4
  try clear hfz23_5
  try clear hfz23_6
  try clear hfz23_7
  try clear hfz28_0
  try clear hfz28_1
  try clear hfz28_2
  try clear hfz28_3
  try clear hfz28_4
  try clear hfz28_5
  try clear hfz28_6
  try clear hfz28_7
  try clear hfz29_0
  try clear hfz29_1
  try clear hfz29_2
  try clear hfz29_3
  try clear hfz29_4
  try clear hfz29_5
  try clear hfz29_6
  try clear hfz29_7
  try clear hfz33_0
  try clear hfz33_1
  try clear hfz33_2
  try clear hfz33_3
  try clear hfz33_4
  try clear hfz33_5
  try clear hfz33_6
  try clear hfz33_7
  try clear hfz34_0
  try clear hfz34_1
  try clear hfz34_2
  try clear hfz34_3
  try clear hfz34_4
  try clear hfz34_5
  try clear hfz34_6
  try clear hfz34_7
  try clear hfz38_0
  try clear hfz38_1
  try clear hfz38_2
  try clear hfz38_3
  try clear hfz38_4
  try clear hfz38_5
  try clear hfz38_6
  try clear hfz38_7
  try clear hfz39_0
  try clear hfz39_1
  try clear hfz39_2
  try clear hfz39_3
  try clear hfz39_4
  try clear hfz39_5
  try clear hfz39_6
  try clear hfz39_7
  try clear hfz43_0
  try clear hfz43_1
  try clear hfz43_2
  try clear hfz43_3
  try clear hfz43_4
  try clear hfz43_5
  try clear hfz43_6
  try clear hfz43_7
  try clear hfz44_0
  try clear hfz44_1
  try clear hfz44_2
  try clear hfz44_3
  try clear hfz44_4
  try clear hfz44_5
  try clear hfz44_6
  try clear hfz44_7
  try clear hfz48_0
  try clear hfz48_1
  try clear hfz48_2
  try clear hfz48_3
  try clear hfz48_4
  try clear hfz48_5
  try clear hfz48_6
  try clear hfz48_7
  try clear hfz49_0
  try clear hfz49_1
  try clear hfz49_2
  try clear hfz49_3
  try clear hfz49_4
  try clear hfz49_5
  try clear hfz49_6
  try clear hfz49_7
  try clear hfz51_0
  try clear hfz51_1
  try clear hfz51_2
  try clear hfz51_3
  try clear hfz51_4
  try clear hfz51_5
  try clear hfz51_6
  try clear hfz51_7
  try clear hfz52_0
  try clear hfz52_1
  try clear hfz52_2
  try clear hfz52_3
  try clear hfz52_4
  try clear hfz52_5
  try clear hfz52_6
  try clear hfz52_7
  obtain ⟨kq, x68_2, rfl, HA, HJ2, BK290, BK291, HB⟩ := hcut; cases kq with
  | zero => exact absurd HA.out (by simp [ref16_Same.j0])
  | succ kj2 =>
   have H := HA.out; clear HA; simp only [ref16_Same.j0] at H; by_cases c53 : x68_2 = true
   ·
    subst c53; have H1 : (some false) = some r := by rw [if_pos rfl] at H; exact H
    clear H; have H := H1; clear H1; obtain rfl := Option.some.inj H; go_wp2
    go_ret
    exact ⟨by first | rfl | (simp [errW_none, errW_some] <;> rfl) | (simp [*, errW_none, errW_some] <;> rfl), (hb2_ HB.out GE290.out GE291.out)⟩
   ·
    replace c53 := Bool.eq_false_iff.mpr c53; subst c53; have H1 : (ref16_Same.l0 kj2 0 a0_0 a0_1 l0_2 l0_3 l0_4 l0_5 l0_6 a0_7 a1_0 a1_1 l1_2 l1_3 l1_4 l1_5 l1_6 a1_7) = some r := by rw [if_neg (show ¬ (false = true) by decide)] at H; exact H
    clear H; have H := H1; clear H1; have H' := Aside0.mk H; clear H; go_wp2
    go_loopg [5] kj2 (fun kq v5 w' => ∃ (x5_2 : Int), v5 = .int .i64 x5_2 ∧ Aside0 (ref16_Same.l0 kq x5_2 a0_0 a0_1 l0_2 l0_3 l0_4 l0_5 l0_6 a0_7 a1_0 a1_1 l1_2 l1_3 l1_4 l1_5 l1_6 a1_7 = some r) ∧ Aside0 (kq ≤ kj2) ∧ Aside0 (w'.heap[gb290]? = some (.cells #[.int .i64 a0_0, .int .i64 a0_1, (.slice A0_2 l0_2.length c0_2), (.slice A0_3 l0_3.length c0_3), (.slice A0_4 l0_4.length c0_4), (.slice A0_5 l0_5.length c0_5), (.slice A0_6 l0_6.length c0_6), .bool a0_7] 31 (0, 0))) ∧ Aside0 (w'.heap[gb291]? = some (.cells #[.int .i64 a1_0, .int .i64 a1_1, (.slice A1_2 l1_2.length c1_2), (.slice A1_3 l1_3.length c1_3), (.slice A1_4 l1_4.length c1_4), (.slice A1_5 l1_5.length c1_5), (.slice A1_6 l1_6.length c1_6), .bool a1_7] 31 (0, 0))) ∧ Aside0 (Below w.heap.size w w'))
    case atStart => exact ⟨(0), rf_, H', ⟨Nat.le_refl _⟩, ⟨(bk_ BK290.out)⟩, ⟨(bk_ BK291.out)⟩, ⟨(hb2_ HB.out GE290.out GE291.out)⟩⟩
    case round =>
     clear H'; try clear c1
     try clear hcv1
     try clear c2
     try clear p2
     try clear hcv2
     try clear c3
     try clear hcv3
     try clear c4
     try clear hcv4
     try clear c5
     try clear c6
     try clear c6b0
     try clear c6b1
     try clear c7
     try clear c7b0
     try clear c7b1
     try clear c8
     try clear c8b0
     try clear c8b1
     try clear c10
     try clear c11
     try clear c11b0
     try clear c11b1
     try clear c11b2
     try clear c13
     try clear c14
     try clear c14b0
     try clear c14b1
     try clear c14b2
     try clear c15
     try clear hcv18
     try clear hcv19
     try clear c21
     try clear hcv24
     try clear hcv25
     try clear c26
     try clear c27
     try clear hcv30
     try clear hcv31
     try clear c32
     try clear hcv35
     try clear hcv36
     try clear c37
     try clear hcv40
     try clear hcv41
     try clear c42
     try clear hcv45
     try clear hcv46
     try clear c47
     try clear c50
     try clear c53
     try clear hcz16_0
     try clear hcz16_1
     try clear hcz16_2
     try clear hcz16_3
     try clear hcz16_4
     try clear hcz16_5
     try clear hcz16_6
     try clear hcz16_7
     try clear hcz17_0
     try clear hcz17_1
     try clear hcz17_2
     try clear hcz17_3
     try clear hcz17_4
     try clear hcz17_5
     try clear hcz17_6
     try clear hcz17_7
     try clear hcz22_0
     try clear hcz22_1
     try clear hcz22_2
     try clear hcz22_3
     try clear hcz22_4
     try clear hcz22_5
     try clear hcz22_6
     try clear hcz22_7
     try clear hcz23_0
     try clear hcz23_1
     try clear hcz23_2
     try clear hcz23_3
     try clear hcz23_4
     try clear hcz23_5
     try clear hcz23_6
     try clear hcz23_7
     try clear hcz28_0
     try clear hcz28_1
     try clear hcz28_2
     try clear hcz28_3
     try clear hcz28_4
     try clear hcz28_5
     try clear hcz28_6
     try clear hcz28_7
     try clear hcz29_0
     try clear hcz29_1
     try clear hcz29_2
     try clear hcz29_3
     try clear hcz29_4
     try clear hcz29_5
     try clear hcz29_6
     try clear hcz29_7
     try clear hcz33_0
     try clear hcz33_1
     try clear hcz33_2
     try clear hcz33_3
     try clear hcz33_4
     try clear hcz33_5
     try clear hcz33_6
     try clear hcz33_7
     try clear hcz34_0
     try clear hcz34_1
     try clear hcz34_2
     try clear hcz34_3
     try clear hcz34_4
     try clear hcz34_5
     try clear hcz34_6
     try clear hcz34_7
     try clear hcz38_0
     try clear hcz38_1
     try clear hcz38_2
     try clear hcz38_3
     try clear hcz38_4
     try clear hcz38_5
     try clear hcz38_6
     try clear hcz38_7
     try clear hcz39_0
     try clear hcz39_1
     try clear hcz39_2
     try clear hcz39_3
     try clear hcz39_4
     try clear hcz39_5
     try clear hcz39_6
     try clear hcz39_7
     try clear hcz43_0
     try clear hcz43_1
     try clear hcz43_2
     try clear hcz43_3
     try clear hcz43_4
     try clear hcz43_5
     try clear hcz43_6
     try clear hcz43_7
     try clear hcz44_0
     try clear hcz44_1
     try clear hcz44_2
     try clear hcz44_3
     try clear hcz44_4
     try clear hcz44_5
     try clear hcz44_6
     try clear hcz44_7
     try clear hcz48_0
     try clear hcz48_1
     try clear hcz48_2
     try clear hcz48_3
     try clear hcz48_4
     try clear hcz48_5
     try clear hcz48_6
     try clear hcz48_7
     try clear hcz49_0
     try clear hcz49_1
     try clear hcz49_2
     try clear hcz49_3
     try clear hcz49_4
     try clear hcz49_5
     try clear hcz49_6
     try clear hcz49_7
     try clear hcz51_0
     try clear hcz51_1
     try clear hcz51_2
     try clear hcz51_3
     try clear hcz51_4
     try clear hcz51_5
     try clear hcz51_6
     try clear hcz51_7
     try clear hcz52_0
     try clear hcz52_1
     try clear hcz52_2
     try clear hcz52_3
     try clear hcz52_4
     try clear hcz52_5
     try clear hcz52_6
     try clear hcz52_7
     try clear hfz16_0
     try clear hfz16_1
     try clear hfz16_2
     try clear hfz16_3
     try clear hfz16_4
     try clear hfz16_5
     try clear hfz16_6
     try clear hfz16_7
     try clear hfz17_0
     try clear hfz17_1
     try clear hfz17_2
     try clear hfz17_3
     try clear hfz17_4
     try clear hfz17_5
     try clear hfz17_6
     try clear hfz17_7
     try clear hfz22_0
     try clear hfz22_1
     try clear hfz22_2
     try clear hfz22_3
     try clear hfz22_4
     try clear hfz22_5
     try clear hfz22_6
     try clear hfz22_7
     try clear hfz23_0
     try clear hfz23_1
     try clear hfz23_2
     try clear hfz23_3
     try clear hfz23_4
     try clear hfz23_5
     try clear hfz23_6
     try clear hfz23_7
     try clear hfz28_0
     try clear hfz28_1
     try clear hfz28_2
     try clear hfz28_3
     try clear hfz28_4
     try clear hfz28_5
     try clear hfz28_6
     try clear hfz28_7
     try clear hfz29_0
     try clear hfz29_1
     try clear hfz29_2
     try clear hfz29_3
     try clear hfz29_4
     try clear hfz29_5
     try clear hfz29_6
     try clear hfz29_7
     try clear hfz33_0
     try clear hfz33_1
     try clear hfz33_2
     try clear hfz33_3
     try clear hfz33_4
     try clear hfz33_5
     try clear hfz33_6
     try clear hfz33_7
     try clear hfz34_0
     try clear hfz34_1
     try clear hfz34_2
     try clear hfz34_3
     try clear hfz34_4
     try clear hfz34_5
     try clear hfz34_6
     try clear hfz34_7
     try clear hfz38_0
     try clear hfz38_1
     try clear hfz38_2
     try clear hfz38_3
     try clear hfz38_4
     try clear hfz38_5
     try clear hfz38_6
     try clear hfz38_7
     try clear hfz39_0
     try clear hfz39_1
     try clear hfz39_2
     try clear hfz39_3
     try clear hfz39_4
     try clear hfz39_5
     try clear hfz39_6
     try clear hfz39_7
     try clear hfz43_0
     try clear hfz43_1
     try clear hfz43_2
     try clear hfz43_3
     try clear hfz43_4
     try clear hfz43_5
     try clear hfz43_6
     try clear hfz43_7
     try clear hfz44_0
     try clear hfz44_1
     try clear hfz44_2
     try clear hfz44_3
     try clear hfz44_4
     try clear hfz44_5
     try clear hfz44_6
     try clear hfz44_7
     try clear hfz48_0
     try clear hfz48_1
     try clear hfz48_2
     try clear hfz48_3
     try clear hfz48_4
     try clear hfz48_5
     try clear hfz48_6
     try clear hfz48_7
     try clear hfz49_0
     try clear hfz49_1
     try clear hfz49_2
     try clear hfz49_3
     try clear hfz49_4
     try clear hfz49_5
     try clear hfz49_6
     try clear hfz49_7
     try clear hfz51_0
     try clear hfz51_1
     try clear hfz51_2
     try clear hfz51_3
     try clear hfz51_4
     try clear hfz51_5
     try clear hfz51_6
     try clear hfz51_7
     try clear hfz52_0
     try clear hfz52_1
     try clear hfz52_2
     try clear hfz52_3
     try clear hfz52_4
     try clear hfz52_5
     try clear hfz52_6
     try clear hfz52_7
     try clear p2
     obtain ⟨x5_2, rfl, HA, HK2, BK290, BK291, HB⟩ := hrel; cases gk with
     | zero => exact absurd HA.out (by simp [ref16_Same.l0])
     | succ k2 =>
      have H := HA.out; clear HA; simp only [ref16_Same.l0] at H; by_cases c54 : x5_2 < (l0_5.length : Int)
      ·
       rw [if_pos c54] at H; have c54b0 : decide (x5_2 < (l0_5.length : Int)) = true := decide_eq_true c54; clear c54; by_cases c55 : 0 ≤ x5_2
       rotate_left
       ·
        rw [if_neg c55] at H; exact absurd H (by simp)
       rw [if_pos c55] at H; have c55b0 : decide (0 ≤ x5_2) = true := decide_eq_true c55; clear c55; by_cases c56 : x5_2 < (l1_5.length : Int)
       rotate_left
       ·
        rw [if_neg c56] at H; exact absurd H (by simp)
       rw [if_pos c56] at H; have c56b0 : decide (x5_2 < (l1_5.length : Int)) = true := decide_eq_true c56; clear c56; have HC57 := Aside0.mk H; clear H; have hnb58 := NB290_291.out; have hnc58 := NB291_290.out; obtain ⟨hcz59_0, hcz59_1, hcz59_2, hcz59_3, hcz59_4, hcz59_5, hcz59_6, hcz59_7, hfz59_0, hfz59_1, hfz59_2, hfz59_3, hfz59_4, hfz59_5, hfz59_6, hfz59_7⟩ := bx8_ BK290.out; try go_wp2
       have n0_ := Aside0.mk (blk_drew BK290.out); have n1_ := Aside0.mk (blk_drew BK291.out); have n2_ := Aside0.mk (below_drew1 HB.out); clear BK290; clear BK291; clear HB; revert n0_ n1_ n2_; intro BK290 BK291 HB; have p295 : 0 ≤ (x5_2 : Int) := od_; have q295 : x5_2 < (l0_5.length : Int) := od_; obtain ⟨ad295, A295_2, c295_2, A295_3, c295_3, e295, hx295_0, hx295_1, hx295_2, hx295_3, hx295_4, hl295_2, hi295_2, hl295_3, hi295_3⟩ := at_T79 HR0_5.out x5_2 p295 q295; have hw295_4 := hx295_4; have hw295_3 := hx295_3; have hw295_2 := hx295_2; have hw295_1 := hx295_1; have hw295_0 := hx295_0; cases e295; replace hx295_0 := (HB.out.cell (World.block_lt_of_cell? w _ hx295_0)).trans hx295_0; replace hx295_1 := (HB.out.cell (World.block_lt_of_cell? w _ hx295_1)).trans hx295_1; replace hx295_2 := (HB.out.cell (World.block_lt_of_cell? w _ hx295_2)).trans hx295_2; replace hx295_3 := (HB.out.cell (World.block_lt_of_cell? w _ hx295_3)).trans hx295_3; replace hx295_4 := (HB.out.cell (World.block_lt_of_cell? w _ hx295_4)).trans hx295_4; have HR295_2 := Aside0.mk hi295_2; have HC295_2 := Aside0.mk hl295_2; clear hi295_2 hl295_2; have HR295_3 := Aside0.mk hi295_3; have HC295_3 := Aside0.mk hl295_3; clear hi295_3 hl295_3; replace p295 := eq_true p295; replace q295 := eq_true q295; have p296 : 0 ≤ (x5_2 : Int) := od_; have q296 : x5_2 < (l1_5.length : Int) := od_; obtain ⟨ad296, A296_2, c296_2, A296_3, c296_3, e296, hx296_0, hx296_1, hx296_2, hx296_3, hx296_4, hl296_2, hi296_2, hl296_3, hi296_3⟩ := at_T79 HR1_5.out x5_2 p296 q296; have hw296_4 := hx296_4; have hw296_3 := hx296_3; have hw296_2 := hx296_2; have hw296_1 := hx296_1; have hw296_0 := hx296_0; cases e296; replace hx296_0 := (HB.out.cell (World.block_lt_of_cell? w _ hx296_0)).trans hx296_0; replace hx296_1 := (HB.out.cell (World.block_lt_of_cell? w _ hx296_1)).trans hx296_1; replace hx296_2 := (HB.out.cell (World.block_lt_of_cell? w _ hx296_2)).trans hx296_2; replace hx296_3 := (HB.out.cell (World.block_lt_of_cell? w _ hx296_3)).trans hx296_3; replace hx296_4 := (HB.out.cell (World.block_lt_of_cell? w _ hx296_4)).trans hx296_4; have HR296_2 := Aside0.mk hi296_2; have HC296_2 := Aside0.mk hl296_2; clear hi296_2 hl296_2; have HR296_3 := Aside0.mk hi296_3; have HC296_3 := Aside0.mk hl296_3; clear hi296_3 hl296_3; replace p296 := eq_true p296; replace q296 := eq_true q296; refine start_ (n := 14) (S := fun w' => w'.cell? ⟨gb290, 0, none⟩ = some (.int .i64 a0_0) ∧ w'.cell? ⟨gb290, 1, none⟩ = some (.int .i64 a0_1) ∧ w'.cell? ⟨gb290, 2, none⟩ = some (.slice A0_2 l0_2.length c0_2) ∧ w'.cell? ⟨gb290, 3, none⟩ = some (.slice A0_3 l0_3.length c0_3) ∧ w'.cell? ⟨gb290, 4, none⟩ = some (.slice A0_4 l0_4.length c0_4) ∧ w'.cell? ⟨gb290, 5, none⟩ = some (.slice (some ad295) l0_5.length c0_5) ∧ w'.cell? ⟨gb290, 6, none⟩ = some (.slice A0_6 l0_6.length c0_6) ∧ w'.cell? ⟨gb290, 7, none⟩ = some (.bool a0_7) ∧ w'.cell? ⟨gb291, 0, none⟩ = some (.int .i64 a1_0) ∧ w'.cell? ⟨gb291, 1, none⟩ = some (.int .i64 a1_1) ∧ w'.cell? ⟨gb291, 2, none⟩ = some (.slice A1_2 l1_2.length c1_2) ∧ w'.cell? ⟨gb291, 3, none⟩ = some (.slice A1_3 l1_3.length c1_3) ∧ w'.cell? ⟨gb291, 4, none⟩ = some (.slice A1_4 l1_4.length c1_4) ∧ w'.cell? ⟨gb291, 5, none⟩ = some (.slice (some ad296) l1_5.length c1_5) ∧ w'.cell? ⟨gb291, 6, none⟩ = some (.slice A1_6 l1_6.length c1_6) ∧ w'.cell? ⟨gb291, 7, none⟩ = some (.bool a1_7) ∧ w'.cell? (ad295.add ((x5_2).toNat * 5)) = some (.string ((rd_T79 l0_5 x5_2).f0)) ∧ w'.cell? ⟨(ad295.add ((x5_2).toNat * 5)).block, (ad295.add ((x5_2).toNat * 5)).off + 1, none⟩ = some (.bool ((rd_T79 l0_5 x5_2).f1)) ∧ w'.cell? ⟨(ad295.add ((x5_2).toNat * 5)).block, (ad295.add ((x5_2).toNat * 5)).off + 2, none⟩ = some (.slice A295_2 ((rd_T79 l0_5 x5_2).f2).length c295_2) ∧ w'.cell? ⟨(ad295.add ((x5_2).toNat * 5)).block, (ad295.add ((x5_2).toNat * 5)).off + 3, none⟩ = some (.slice A295_3 ((rd_T79 l0_5 x5_2).f3).length c295_3) ∧ w'.cell? ⟨(ad295.add ((x5_2).toNat * 5)).block, (ad295.add ((x5_2).toNat * 5)).off + 4, none⟩ = some (.int .i64 ((rd_T79 l0_5 x5_2).f4)) ∧ w'.cell? (ad296.add ((x5_2).toNat * 5)) = some (.string ((rd_T79 l1_5 x5_2).f0)) ∧ w'.cell? ⟨(ad296.add ((x5_2).toNat * 5)).block, (ad296.add ((x5_2).toNat * 5)).off + 1, none⟩ = some (.bool ((rd_T79 l1_5 x5_2).f1)) ∧ w'.cell? ⟨(ad296.add ((x5_2).toNat * 5)).block, (ad296.add ((x5_2).toNat * 5)).off + 2, none⟩ = some (.slice A296_2 ((rd_T79 l1_5 x5_2).f2).length c296_2) ∧ w'.cell? ⟨(ad296.add ((x5_2).toNat * 5)).block, (ad296.add ((x5_2).toNat * 5)).off + 3, none⟩ = some (.slice A296_3 ((rd_T79 l1_5 x5_2).f3).length c296_3) ∧ w'.cell? ⟨(ad296.add ((x5_2).toNat * 5)).block, (ad296.add ((x5_2).toNat * 5)).off + 4, none⟩ = some (.int .i64 ((rd_T79 l1_5 x5_2).f4))) (ds := []) (mk_ 0 14) (by kernel_rfl) rfl rfl ⟨(blk_cell BK290.out 0).trans rfl, (blk_cell BK290.out 1).trans rfl, (blk_cell BK290.out 2).trans rfl, (blk_cell BK290.out 3).trans rfl, (blk_cell BK290.out 4).trans rfl, (blk_cell BK290.out 5).trans rfl, (blk_cell BK290.out 6).trans rfl, (blk_cell BK290.out 7).trans rfl, (blk_cell BK291.out 0).trans rfl, (blk_cell BK291.out 1).trans rfl, (blk_cell BK291.out 2).trans rfl, (blk_cell BK291.out 3).trans rfl, (blk_cell BK291.out 4).trans rfl, (blk_cell BK291.out 5).trans rfl, (blk_cell BK291.out 6).trans rfl, (blk_cell BK291.out 7).trans rfl, ((HB.out.cell (World.block_lt_of_cell? w _ hw295_0)).trans hw295_0), ((HB.out.cell (World.block_lt_of_cell? w _ hw295_1)).trans hw295_1), ((HB.out.cell (World.block_lt_of_cell? w _ hw295_2)).trans hw295_2), ((HB.out.cell (World.block_lt_of_cell? w _ hw295_3)).trans hw295_3), ((HB.out.cell (World.block_lt_of_cell? w _ hw295_4)).trans hw295_4), ((HB.out.cell (World.block_lt_of_cell? w _ hw296_0)).trans hw296_0), ((HB.out.cell (World.block_lt_of_cell? w _ hw296_1)).trans hw296_1), ((HB.out.cell (World.block_lt_of_cell? w _ hw296_2)).trans hw296_2), ((HB.out.cell (World.block_lt_of_cell? w _ hw296_3)).trans hw296_3), ((HB.out.cell (World.block_lt_of_cell? w _ hw296_4)).trans hw296_4)⟩ (fun hHeld => ?_); refine with_tabW ref16_Same.tab6 ref16_Same.bits6 (fun HT_ HW_ => ?_); generalize wr.drew = w60 at BK290 BK291 HB HR295_2 HR295_3 HR296_2 HR296_3 hx295_0 hx295_1 hx295_2 hx295_3 hx295_4 hx296_0 hx296_1 hx296_2 hx296_3 hx296_4 hHeld ⊢; refine pu_ 0 (some 76) (mk_ 1 14) HT_ ?_; refine pu_ 2 (some 78) (bm_ 14 5) HT_ ?_; refine pu_ 5 (some 81) (bm_ 14 37) HT_ ?_; refine pu_ 7 (some 83) (bm_ 14 165) HT_ ?_; refine take_ (i := 1) (N := some 77) (v := ?_) (a' := ?_) (bm_ 14 167) rfl rfl (take_ofW HT_.out HW_.out (by kernel_rfl)) (fun _ _ _ h => h) (Or.inl ⟨by rfl, ?_⟩) hHeld ?_ ?_; rotate_left
       ·
        rintro w' ⟨s0, s1, s2, s3, s4, s5, s6, s7, s8, s9, s10, s11, s12, s13, s14, s15, s16, s17, s18, s19, s20, s21, s22, s23, s24, s25⟩; go_simp
        with_reducible rfl
       rotate_left
       ·
        simp only [Act.put, setIfInBounds_toArray, set_cons_zero, set_cons_succ, i64_w, i32_w]; rfl
       refine pu_ 3 (some 79) (bm_ 14 175) HT_ ?_; refine take_ (i := 4) (N := some 80) (v := ?_) (a' := ?_) (bm_ 14 191) rfl rfl (take_ofW HT_.out HW_.out (by kernel_rfl)) (fun _ _ _ h => h) (Or.inl ⟨by rfl, ?_⟩) hHeld ?_ ?_; rotate_left
       ·
        rintro w' ⟨s0, s1, s2, s3, s4, s5, s6, s7, s8, s9, s10, s11, s12, s13, s14, s15, s16, s17, s18, s19, s20, s21, s22, s23, s24, s25⟩; go_simp
        with_reducible rfl
       rotate_left
       ·
        simp only [Act.put, setIfInBounds_toArray, set_cons_zero, set_cons_succ, i64_w, i32_w]; rfl
       refine take_ (i := 6) (N := some 82) (v := ?_) (a' := ?_) (mk_ 8 14) rfl rfl (take_ofW HT_.out HW_.out (by kernel_rfl)) (fun _ _ _ h => h) (Or.inl ⟨by rfl, ?_⟩) hHeld ?_ ?_; rotate_left
       ·
        rintro w' ⟨s0, s1, s2, s3, s4, s5, s6, s7, s8, s9, s10, s11, s12, s13, s14, s15, s16, s17, s18, s19, s20, s21, s22, s23, s24, s25⟩; go_simp
        with_reducible rfl
       rotate_left
       ·
        simp only [Act.put, setIfInBounds_toArray, set_cons_zero, set_cons_succ, i64_w, i32_w]; rfl
       refine pu_ 8 (some 84) (mk_ 9 14) HT_ ?_; refine take_ (i := 9) (N := some 85) (v := ?_) (a' := ?_) (mk_ 10 14) rfl rfl (take_ofW HT_.out HW_.out (by kernel_rfl)) (fun _ _ _ h => h) (Or.inl ⟨by rfl, ?_⟩) hHeld ?_ ?_; rotate_left
       ·
        rintro w' ⟨s0, s1, s2, s3, s4, s5, s6, s7, s8, s9, s10, s11, s12, s13, s14, s15, s16, s17, s18, s19, s20, s21, s22, s23, s24, s25⟩; go_simp
        with_reducible rfl
       rotate_left
       ·
        simp only [Act.put, setIfInBounds_toArray, set_cons_zero, set_cons_succ, i64_w, i32_w]; rfl
       refine join_ (σ := Nat × Nat) 2 (mk_ 12 14) (fun s_ => [(6, .pointer (some ⟨s_.1, 0, none⟩)), (7, .pointer (some ⟨s_.2, 0, none⟩))]) (fun s_ w' => (w'.cell? ⟨gb290, 0, none⟩ = some (.int .i64 a0_0) ∧ w'.cell? ⟨gb290, 1, none⟩ = some (.int .i64 a0_1) ∧ w'.cell? ⟨gb290, 2, none⟩ = some (.slice A0_2 l0_2.length c0_2) ∧ w'.cell? ⟨gb290, 3, none⟩ = some (.slice A0_3 l0_3.length c0_3) ∧ w'.cell? ⟨gb290, 4, none⟩ = some (.slice A0_4 l0_4.length c0_4) ∧ w'.cell? ⟨gb290, 5, none⟩ = some (.slice (some ad295) l0_5.length c0_5) ∧ w'.cell? ⟨gb290, 6, none⟩ = some (.slice A0_6 l0_6.length c0_6) ∧ w'.cell? ⟨gb290, 7, none⟩ = some (.bool a0_7) ∧ w'.cell? ⟨gb291, 0, none⟩ = some (.int .i64 a1_0) ∧ w'.cell? ⟨gb291, 1, none⟩ = some (.int .i64 a1_1) ∧ w'.cell? ⟨gb291, 2, none⟩ = some (.slice A1_2 l1_2.length c1_2) ∧ w'.cell? ⟨gb291, 3, none⟩ = some (.slice A1_3 l1_3.length c1_3) ∧ w'.cell? ⟨gb291, 4, none⟩ = some (.slice A1_4 l1_4.length c1_4) ∧ w'.cell? ⟨gb291, 5, none⟩ = some (.slice (some ad296) l1_5.length c1_5) ∧ w'.cell? ⟨gb291, 6, none⟩ = some (.slice A1_6 l1_6.length c1_6) ∧ w'.cell? ⟨gb291, 7, none⟩ = some (.bool a1_7) ∧ w'.cell? (ad295.add ((x5_2).toNat * 5)) = some (.string ((rd_T79 l0_5 x5_2).f0)) ∧ w'.cell? ⟨(ad295.add ((x5_2).toNat * 5)).block, (ad295.add ((x5_2).toNat * 5)).off + 1, none⟩ = some (.bool ((rd_T79 l0_5 x5_2).f1)) ∧ w'.cell? ⟨(ad295.add ((x5_2).toNat * 5)).block, (ad295.add ((x5_2).toNat * 5)).off + 2, none⟩ = some (.slice A295_2 ((rd_T79 l0_5 x5_2).f2).length c295_2) ∧ w'.cell? ⟨(ad295.add ((x5_2).toNat * 5)).block, (ad295.add ((x5_2).toNat * 5)).off + 3, none⟩ = some (.slice A295_3 ((rd_T79 l0_5 x5_2).f3).length c295_3) ∧ w'.cell? ⟨(ad295.add ((x5_2).toNat * 5)).block, (ad295.add ((x5_2).toNat * 5)).off + 4, none⟩ = some (.int .i64 ((rd_T79 l0_5 x5_2).f4)) ∧ w'.cell? (ad296.add ((x5_2).toNat * 5)) = some (.string ((rd_T79 l1_5 x5_2).f0)) ∧ w'.cell? ⟨(ad296.add ((x5_2).toNat * 5)).block, (ad296.add ((x5_2).toNat * 5)).off + 1, none⟩ = some (.bool ((rd_T79 l1_5 x5_2).f1)) ∧ w'.cell? ⟨(ad296.add ((x5_2).toNat * 5)).block, (ad296.add ((x5_2).toNat * 5)).off + 2, none⟩ = some (.slice A296_2 ((rd_T79 l1_5 x5_2).f2).length c296_2) ∧ w'.cell? ⟨(ad296.add ((x5_2).toNat * 5)).block, (ad296.add ((x5_2).toNat * 5)).off + 3, none⟩ = some (.slice A296_3 ((rd_T79 l1_5 x5_2).f3).length c296_3) ∧ w'.cell? ⟨(ad296.add ((x5_2).toNat * 5)).block, (ad296.add ((x5_2).toNat * 5)).off + 4, none⟩ = some (.int .i64 ((rd_T79 l1_5 x5_2).f4))) ∧ (w'.heap[gb290]? = some (.cells #[.int .i64 a0_0, .int .i64 a0_1, .slice A0_2 l0_2.length c0_2, .slice A0_3 l0_3.length c0_3, .slice A0_4 l0_4.length c0_4, .slice (some ad295) l0_5.length c0_5, .slice A0_6 l0_6.length c0_6, .bool a0_7] 31 (0, 0))) ∧ (w'.heap[gb291]? = some (.cells #[.int .i64 a1_0, .int .i64 a1_1, .slice A1_2 l1_2.length c1_2, .slice A1_3 l1_3.length c1_3, .slice A1_4 l1_4.length c1_4, .slice (some ad296) l1_5.length c1_5, .slice A1_6 l1_6.length c1_6, .bool a1_7] 31 (0, 0))) ∧ (w'.heap[s_.1]? = some (.cells #[.string (⟨#[]⟩ : ByteArray), .bool false, .slice none 0 0, .slice none 0 0, .int .i64 0] 79 (0, 0))) ∧ (w'.heap[s_.2]? = some (.cells #[.string (⟨#[]⟩ : ByteArray), .bool false, .slice none 0 0, .slice none 0 0, .int .i64 0] 79 (0, 0))) ∧ (w.heap.size ≤ s_.1) ∧ (w.heap.size ≤ s_.1) ∧ (gb290 ≠ s_.1) ∧ (s_.1 ≠ gb290) ∧ (gb291 ≠ s_.1) ∧ (s_.1 ≠ gb291) ∧ (s_.2 ≠ s_.1) ∧ (s_.1 ≠ s_.2) ∧ (w.heap.size ≤ s_.2) ∧ (w.heap.size ≤ s_.2) ∧ (gb290 ≠ s_.2) ∧ (s_.2 ≠ gb290) ∧ (gb291 ≠ s_.2) ∧ (s_.2 ≠ gb291) ∧ (Below w.heap.size w w')) ?_ ?_; rotate_left
       ·
        intro hCont; refine two_ (i := 10) (j := 11) (Ni := some 6) (Nj := some 7) (mk_ 11 14) (bm_ 14 3071) rfl rfl rfl rfl (two_of HT_.out (by kernel_rfl)) (by decide) (by decide) (fun K hK => ?_) (fun K hK => ?_)
        ·
         skip
         refine box_step ?hg (N := 6) ?hd (cs := #[.string (⟨#[]⟩ : ByteArray), .bool false, .slice none 0 0, .slice none 0 0, .int .i64 0]) (t := 79) ?hr ?_; (case hd => rfl); (case hg => rfl); (case hr => first | (go_simp; done) | (go_simp; rfl)); intro gb297 hg w61 hbox hb; have n0_ := Aside0.mk (bb_ BK290.out hb); have n1_ := Aside0.mk (bb_ BK291.out hb); have n2_ := Aside0.mk (below_step (hb2_ HB.out GE290.out GE291.out) hb); have n3_ := Aside0.mk (hbox); have n4_ := Aside0.mk ((by rw [hg]; exact (below_size (hb2_ HB.out GE290.out GE291.out)) : w.heap.size ≤ gb297)); have n5_ := Aside0.mk ((by rw [hg]; exact (below_size (hb2_ HB.out GE290.out GE291.out)) : w.heap.size ≤ gb297)); have n6_ := Aside0.mk ((by rw [hg]; exact Nat.ne_of_lt (blk_lt (g := gb290) (o := .cells #[.int .i64 a0_0, .int .i64 a0_1, .slice A0_2 l0_2.length c0_2, .slice A0_3 l0_3.length c0_3, .slice A0_4 l0_4.length c0_4, .slice (some ad295) l0_5.length c0_5, .slice A0_6 l0_6.length c0_6, .bool a0_7] 31 (0, 0)) (bk_ BK290.out)) : gb290 ≠ gb297)); have n7_ := Aside0.mk ((by rw [hg]; exact Nat.ne_of_gt (blk_lt (g := gb290) (o := .cells #[.int .i64 a0_0, .int .i64 a0_1, .slice A0_2 l0_2.length c0_2, .slice A0_3 l0_3.length c0_3, .slice A0_4 l0_4.length c0_4, .slice (some ad295) l0_5.length c0_5, .slice A0_6 l0_6.length c0_6, .bool a0_7] 31 (0, 0)) (bk_ BK290.out)) : gb297 ≠ gb290)); have n8_ := Aside0.mk ((by rw [hg]; exact Nat.ne_of_lt (blk_lt (g := gb291) (o := .cells #[.int .i64 a1_0, .int .i64 a1_1, .slice A1_2 l1_2.length c1_2, .slice A1_3 l1_3.length c1_3, .slice A1_4 l1_4.length c1_4, .slice (some ad296) l1_5.length c1_5, .slice A1_6 l1_6.length c1_6, .bool a1_7] 31 (0, 0)) (bk_ BK291.out)) : gb291 ≠ gb297)); have n9_ := Aside0.mk ((by rw [hg]; exact Nat.ne_of_gt (blk_lt (g := gb291) (o := .cells #[.int .i64 a1_0, .int .i64 a1_1, .slice A1_2 l1_2.length c1_2, .slice A1_3 l1_3.length c1_3, .slice A1_4 l1_4.length c1_4, .slice (some ad296) l1_5.length c1_5, .slice A1_6 l1_6.length c1_6, .bool a1_7] 31 (0, 0)) (bk_ BK291.out)) : gb297 ≠ gb291)); clear BK290; clear BK291; clear HB; revert n0_ n1_ n2_ n3_ n4_ n5_ n6_ n7_ n8_ n9_; intro BK290 BK291 HB BK297 GW297 GE297 NB290_297 NB297_290 NB291_297 NB297_291; clear hb hbox hg; refine hK.out _ _ ⟨(blk_cell BK290.out 0).trans rfl, (blk_cell BK290.out 1).trans rfl, (blk_cell BK290.out 2).trans rfl, (blk_cell BK290.out 3).trans rfl, (blk_cell BK290.out 4).trans rfl, (blk_cell BK290.out 5).trans rfl, (blk_cell BK290.out 6).trans rfl, (blk_cell BK290.out 7).trans rfl, (blk_cell BK291.out 0).trans rfl, (blk_cell BK291.out 1).trans rfl, (blk_cell BK291.out 2).trans rfl, (blk_cell BK291.out 3).trans rfl, (blk_cell BK291.out 4).trans rfl, (blk_cell BK291.out 5).trans rfl, (blk_cell BK291.out 6).trans rfl, (blk_cell BK291.out 7).trans rfl, ((HB.out.cell (World.block_lt_of_cell? w _ hw295_0)).trans hw295_0), ((HB.out.cell (World.block_lt_of_cell? w _ hw295_1)).trans hw295_1), ((HB.out.cell (World.block_lt_of_cell? w _ hw295_2)).trans hw295_2), ((HB.out.cell (World.block_lt_of_cell? w _ hw295_3)).trans hw295_3), ((HB.out.cell (World.block_lt_of_cell? w _ hw295_4)).trans hw295_4), ((HB.out.cell (World.block_lt_of_cell? w _ hw296_0)).trans hw296_0), ((HB.out.cell (World.block_lt_of_cell? w _ hw296_1)).trans hw296_1), ((HB.out.cell (World.block_lt_of_cell? w _ hw296_2)).trans hw296_2), ((HB.out.cell (World.block_lt_of_cell? w _ hw296_3)).trans hw296_3), ((HB.out.cell (World.block_lt_of_cell? w _ hw296_4)).trans hw296_4)⟩ (fun hHeld => ?_); clear hK K; refine norm_ (a' := ?_) ?_ ?_; rotate_left
         ·
          show Act.put _ (some 6) _ = _
          simp only [Act.put, setIfInBounds_toArray, set_cons_zero, set_cons_succ, i64_w, i32_w]; rfl
         refine one_ (i := 11) (N := some 7) (mk_ 12 14) rfl rfl (one_of HT_.out (by kernel_rfl)) (by decide) (fun K hK => ?_); refine box_step ?hg (N := 7) ?hd (cs := #[.string (⟨#[]⟩ : ByteArray), .bool false, .slice none 0 0, .slice none 0 0, .int .i64 0]) (t := 79) ?hr ?_; (case hd => rfl); (case hg => rfl); (case hr => first | (go_simp; done) | (go_simp; rfl)); intro gb298 hg w62 hbox hb; have n0_ := Aside0.mk (bb_ BK290.out hb); have n1_ := Aside0.mk (bb_ BK291.out hb); have n2_ := Aside0.mk (bb_ BK297.out hb); have n3_ := Aside0.mk (below_step (hb3_ HB.out GE290.out GE291.out GE297.out) hb); have n4_ := Aside0.mk (hbox); have n5_ := Aside0.mk ((by rw [hg]; exact (below_size (hb3_ HB.out GE290.out GE291.out GE297.out)) : w.heap.size ≤ gb298)); have n6_ := Aside0.mk ((by rw [hg]; exact (below_size (hb3_ HB.out GE290.out GE291.out GE297.out)) : w.heap.size ≤ gb298)); have n7_ := Aside0.mk ((by rw [hg]; exact Nat.ne_of_lt (blk_lt (g := gb290) (o := .cells #[.int .i64 a0_0, .int .i64 a0_1, .slice A0_2 l0_2.length c0_2, .slice A0_3 l0_3.length c0_3, .slice A0_4 l0_4.length c0_4, .slice (some ad295) l0_5.length c0_5, .slice A0_6 l0_6.length c0_6, .bool a0_7] 31 (0, 0)) (bk_ BK290.out)) : gb290 ≠ gb298)); have n8_ := Aside0.mk ((by rw [hg]; exact Nat.ne_of_gt (blk_lt (g := gb290) (o := .cells #[.int .i64 a0_0, .int .i64 a0_1, .slice A0_2 l0_2.length c0_2, .slice A0_3 l0_3.length c0_3, .slice A0_4 l0_4.length c0_4, .slice (some ad295) l0_5.length c0_5, .slice A0_6 l0_6.length c0_6, .bool a0_7] 31 (0, 0)) (bk_ BK290.out)) : gb298 ≠ gb290)); have n9_ := Aside0.mk ((by rw [hg]; exact Nat.ne_of_lt (blk_lt (g := gb291) (o := .cells #[.int .i64 a1_0, .int .i64 a1_1, .slice A1_2 l1_2.length c1_2, .slice A1_3 l1_3.length c1_3, .slice A1_4 l1_4.length c1_4, .slice (some ad296) l1_5.length c1_5, .slice A1_6 l1_6.length c1_6, .bool a1_7] 31 (0, 0)) (bk_ BK291.out)) : gb291 ≠ gb298)); have n10_ := Aside0.mk ((by rw [hg]; exact Nat.ne_of_gt (blk_lt (g := gb291) (o := .cells #[.int .i64 a1_0, .int .i64 a1_1, .slice A1_2 l1_2.length c1_2, .slice A1_3 l1_3.length c1_3, .slice A1_4 l1_4.length c1_4, .slice (some ad296) l1_5.length c1_5, .slice A1_6 l1_6.length c1_6, .bool a1_7] 31 (0, 0)) (bk_ BK291.out)) : gb298 ≠ gb291)); have n11_ := Aside0.mk ((by rw [hg]; exact Nat.ne_of_lt (blk_lt (g := gb297) (o := .cells #[.string (⟨#[]⟩ : ByteArray), .bool false, .slice none 0 0, .slice none 0 0, .int .i64 0] 79 (0, 0)) (bk_ BK297.out)) : gb297 ≠ gb298)); have n12_ := Aside0.mk ((by rw [hg]; exact Nat.ne_of_gt (blk_lt (g := gb297) (o := .cells #[.string (⟨#[]⟩ : ByteArray), .bool false, .slice none 0 0, .slice none 0 0, .int .i64 0] 79 (0, 0)) (bk_ BK297.out)) : gb298 ≠ gb297)); clear BK290; clear BK291; clear BK297; clear HB; revert n0_ n1_ n2_ n3_ n4_ n5_ n6_ n7_ n8_ n9_ n10_ n11_ n12_; intro BK290 BK291 BK297 HB BK298 GW298 GE298 NB290_298 NB298_290 NB291_298 NB298_291 NB297_298 NB298_297; clear hb hbox hg; refine hK.out _ _ ⟨(blk_cell BK290.out 0).trans rfl, (blk_cell BK290.out 1).trans rfl, (blk_cell BK290.out 2).trans rfl, (blk_cell BK290.out 3).trans rfl, (blk_cell BK290.out 4).trans rfl, (blk_cell BK290.out 5).trans rfl, (blk_cell BK290.out 6).trans rfl, (blk_cell BK290.out 7).trans rfl, (blk_cell BK291.out 0).trans rfl, (blk_cell BK291.out 1).trans rfl, (blk_cell BK291.out 2).trans rfl, (blk_cell BK291.out 3).trans rfl, (blk_cell BK291.out 4).trans rfl, (blk_cell BK291.out 5).trans rfl, (blk_cell BK291.out 6).trans rfl, (blk_cell BK291.out 7).trans rfl, ((HB.out.cell (World.block_lt_of_cell? w _ hw295_0)).trans hw295_0), ((HB.out.cell (World.block_lt_of_cell? w _ hw295_1)).trans hw295_1), ((HB.out.cell (World.block_lt_of_cell? w _ hw295_2)).trans hw295_2), ((HB.out.cell (World.block_lt_of_cell? w _ hw295_3)).trans hw295_3), ((HB.out.cell (World.block_lt_of_cell? w _ hw295_4)).trans hw295_4), ((HB.out.cell (World.block_lt_of_cell? w _ hw296_0)).trans hw296_0), ((HB.out.cell (World.block_lt_of_cell? w _ hw296_1)).trans hw296_1), ((HB.out.cell (World.block_lt_of_cell? w _ hw296_2)).trans hw296_2), ((HB.out.cell (World.block_lt_of_cell? w _ hw296_3)).trans hw296_3), ((HB.out.cell (World.block_lt_of_cell? w _ hw296_4)).trans hw296_4)⟩ (fun hHeld => ?_); clear hK K; refine norm_ (a' := ?_) ?_ ?_; rotate_left
         ·
          show Act.put _ (some 7) _ = _
          simp only [Act.put, setIfInBounds_toArray, set_cons_zero, set_cons_succ, i64_w, i32_w]; rfl
         exact norm_ (by simp only [putAll, Act.put, setIfInBounds_toArray, set_cons_zero, set_cons_succ]) (hCont (gb297, gb298) _ ⟨hHeld, (bk_ BK290.out), (bk_ BK291.out), (bk_ BK297.out), (bk_ BK298.out), GW297.out, GE297.out, NB290_297.out, NB297_290.out, NB291_297.out, NB297_291.out, NB298_297.out, NB297_298.out, GW298.out, GE298.out, NB290_298.out, NB298_290.out, NB291_298.out, NB298_291.out, (hb4_ HB.out GE290.out GE291.out GE297.out GE298.out)⟩)
        ·
         skip
         refine box_step ?hg (N := 7) ?hd (cs := #[.string (⟨#[]⟩ : ByteArray), .bool false, .slice none 0 0, .slice none 0 0, .int .i64 0]) (t := 79) ?hr ?_; (case hd => rfl); (case hg => rfl); (case hr => first | (go_simp; done) | (go_simp; rfl)); intro gb298 hg w61 hbox hb; have n0_ := Aside0.mk (bb_ BK290.out hb); have n1_ := Aside0.mk (bb_ BK291.out hb); have n2_ := Aside0.mk (below_step (hb2_ HB.out GE290.out GE291.out) hb); have n3_ := Aside0.mk (hbox); have n4_ := Aside0.mk ((by rw [hg]; exact (below_size (hb2_ HB.out GE290.out GE291.out)) : w.heap.size ≤ gb298)); have n5_ := Aside0.mk ((by rw [hg]; exact (below_size (hb2_ HB.out GE290.out GE291.out)) : w.heap.size ≤ gb298)); have n6_ := Aside0.mk ((by rw [hg]; exact Nat.ne_of_lt (blk_lt (g := gb290) (o := .cells #[.int .i64 a0_0, .int .i64 a0_1, .slice A0_2 l0_2.length c0_2, .slice A0_3 l0_3.length c0_3, .slice A0_4 l0_4.length c0_4, .slice (some ad295) l0_5.length c0_5, .slice A0_6 l0_6.length c0_6, .bool a0_7] 31 (0, 0)) (bk_ BK290.out)) : gb290 ≠ gb298)); have n7_ := Aside0.mk ((by rw [hg]; exact Nat.ne_of_gt (blk_lt (g := gb290) (o := .cells #[.int .i64 a0_0, .int .i64 a0_1, .slice A0_2 l0_2.length c0_2, .slice A0_3 l0_3.length c0_3, .slice A0_4 l0_4.length c0_4, .slice (some ad295) l0_5.length c0_5, .slice A0_6 l0_6.length c0_6, .bool a0_7] 31 (0, 0)) (bk_ BK290.out)) : gb298 ≠ gb290)); have n8_ := Aside0.mk ((by rw [hg]; exact Nat.ne_of_lt (blk_lt (g := gb291) (o := .cells #[.int .i64 a1_0, .int .i64 a1_1, .slice A1_2 l1_2.length c1_2, .slice A1_3 l1_3.length c1_3, .slice A1_4 l1_4.length c1_4, .slice (some ad296) l1_5.length c1_5, .slice A1_6 l1_6.length c1_6, .bool a1_7] 31 (0, 0)) (bk_ BK291.out)) : gb291 ≠ gb298)); have n9_ := Aside0.mk ((by rw [hg]; exact Nat.ne_of_gt (blk_lt (g := gb291) (o := .cells #[.int .i64 a1_0, .int .i64 a1_1, .slice A1_2 l1_2.length c1_2, .slice A1_3 l1_3.length c1_3, .slice A1_4 l1_4.length c1_4, .slice (some ad296) l1_5.length c1_5, .slice A1_6 l1_6.length c1_6, .bool a1_7] 31 (0, 0)) (bk_ BK291.out)) : gb298 ≠ gb291)); clear BK290; clear BK291; clear HB; revert n0_ n1_ n2_ n3_ n4_ n5_ n6_ n7_ n8_ n9_; intro BK290 BK291 HB BK298 GW298 GE298 NB290_298 NB298_290 NB291_298 NB298_291; clear hb hbox hg; refine hK.out _ _ ⟨(blk_cell BK290.out 0).trans rfl, (blk_cell BK290.out 1).trans rfl, (blk_cell BK290.out 2).trans rfl, (blk_cell BK290.out 3).trans rfl, (blk_cell BK290.out 4).trans rfl, (blk_cell BK290.out 5).trans rfl, (blk_cell BK290.out 6).trans rfl, (blk_cell BK290.out 7).trans rfl, (blk_cell BK291.out 0).trans rfl, (blk_cell BK291.out 1).trans rfl, (blk_cell BK291.out 2).trans rfl, (blk_cell BK291.out 3).trans rfl, (blk_cell BK291.out 4).trans rfl, (blk_cell BK291.out 5).trans rfl, (blk_cell BK291.out 6).trans rfl, (blk_cell BK291.out 7).trans rfl, ((HB.out.cell (World.block_lt_of_cell? w _ hw295_0)).trans hw295_0), ((HB.out.cell (World.block_lt_of_cell? w _ hw295_1)).trans hw295_1), ((HB.out.cell (World.block_lt_of_cell? w _ hw295_2)).trans hw295_2), ((HB.out.cell (World.block_lt_of_cell? w _ hw295_3)).trans hw295_3), ((HB.out.cell (World.block_lt_of_cell? w _ hw295_4)).trans hw295_4), ((HB.out.cell (World.block_lt_of_cell? w _ hw296_0)).trans hw296_0), ((HB.out.cell (World.block_lt_of_cell? w _ hw296_1)).trans hw296_1), ((HB.out.cell (World.block_lt_of_cell? w _ hw296_2)).trans hw296_2), ((HB.out.cell (World.block_lt_of_cell? w _ hw296_3)).trans hw296_3), ((HB.out.cell (World.block_lt_of_cell? w _ hw296_4)).trans hw296_4)⟩ (fun hHeld => ?_); clear hK K; refine norm_ (a' := ?_) ?_ ?_; rotate_left
         ·
          show Act.put _ (some 7) _ = _
          simp only [Act.put, setIfInBounds_toArray, set_cons_zero, set_cons_succ, i64_w, i32_w]; rfl
         refine one_ (i := 10) (N := some 6) (mk_ 12 14) rfl rfl (one_of HT_.out (by kernel_rfl)) (by decide) (fun K hK => ?_); refine box_step ?hg (N := 6) ?hd (cs := #[.string (⟨#[]⟩ : ByteArray), .bool false, .slice none 0 0, .slice none 0 0, .int .i64 0]) (t := 79) ?hr ?_; (case hd => rfl); (case hg => rfl); (case hr => first | (go_simp; done) | (go_simp; rfl)); intro gb297 hg w62 hbox hb; have n0_ := Aside0.mk (bb_ BK290.out hb); have n1_ := Aside0.mk (bb_ BK291.out hb); have n2_ := Aside0.mk (bb_ BK298.out hb); have n3_ := Aside0.mk (below_step (hb3_ HB.out GE290.out GE291.out GE298.out) hb); have n4_ := Aside0.mk (hbox); have n5_ := Aside0.mk ((by rw [hg]; exact (below_size (hb3_ HB.out GE290.out GE291.out GE298.out)) : w.heap.size ≤ gb297)); have n6_ := Aside0.mk ((by rw [hg]; exact (below_size (hb3_ HB.out GE290.out GE291.out GE298.out)) : w.heap.size ≤ gb297)); have n7_ := Aside0.mk ((by rw [hg]; exact Nat.ne_of_lt (blk_lt (g := gb290) (o := .cells #[.int .i64 a0_0, .int .i64 a0_1, .slice A0_2 l0_2.length c0_2, .slice A0_3 l0_3.length c0_3, .slice A0_4 l0_4.length c0_4, .slice (some ad295) l0_5.length c0_5, .slice A0_6 l0_6.length c0_6, .bool a0_7] 31 (0, 0)) (bk_ BK290.out)) : gb290 ≠ gb297)); have n8_ := Aside0.mk ((by rw [hg]; exact Nat.ne_of_gt (blk_lt (g := gb290) (o := .cells #[.int .i64 a0_0, .int .i64 a0_1, .slice A0_2 l0_2.length c0_2, .slice A0_3 l0_3.length c0_3, .slice A0_4 l0_4.length c0_4, .slice (some ad295) l0_5.length c0_5, .slice A0_6 l0_6.length c0_6, .bool a0_7] 31 (0, 0)) (bk_ BK290.out)) : gb297 ≠ gb290)); have n9_ := Aside0.mk ((by rw [hg]; exact Nat.ne_of_lt (blk_lt (g := gb291) (o := .cells #[.int .i64 a1_0, .int .i64 a1_1, .slice A1_2 l1_2.length c1_2, .slice A1_3 l1_3.length c1_3, .slice A1_4 l1_4.length c1_4, .slice (some ad296) l1_5.length c1_5, .slice A1_6 l1_6.length c1_6, .bool a1_7] 31 (0, 0)) (bk_ BK291.out)) : gb291 ≠ gb297)); have n10_ := Aside0.mk ((by rw [hg]; exact Nat.ne_of_gt (blk_lt (g := gb291) (o := .cells #[.int .i64 a1_0, .int .i64 a1_1, .slice A1_2 l1_2.length c1_2, .slice A1_3 l1_3.length c1_3, .slice A1_4 l1_4.length c1_4, .slice (some ad296) l1_5.length c1_5, .slice A1_6 l1_6.length c1_6, .bool a1_7] 31 (0, 0)) (bk_ BK291.out)) : gb297 ≠ gb291)); have n11_ := Aside0.mk ((by rw [hg]; exact Nat.ne_of_lt (blk_lt (g := gb298) (o := .cells #[.string (⟨#[]⟩ : ByteArray), .bool false, .slice none 0 0, .slice none 0 0, .int .i64 0] 79 (0, 0)) (bk_ BK298.out)) : gb298 ≠ gb297)); have n12_ := Aside0.mk ((by rw [hg]; exact Nat.ne_of_gt (blk_lt (g := gb298) (o := .cells #[.string (⟨#[]⟩ : ByteArray), .bool false, .slice none 0 0, .slice none 0 0, .int .i64 0] 79 (0, 0)) (bk_ BK298.out)) : gb297 ≠ gb298)); clear BK290; clear BK291; clear BK298; clear HB; revert n0_ n1_ n2_ n3_ n4_ n5_ n6_ n7_ n8_ n9_ n10_ n11_ n12_; intro BK290 BK291 BK298 HB BK297 GW297 GE297 NB290_297 NB297_290 NB291_297 NB297_291 NB298_297 NB297_298; clear hb hbox hg; refine hK.out _ _ ⟨(blk_cell BK290.out 0).trans rfl, (blk_cell BK290.out 1).trans rfl, (blk_cell BK290.out 2).trans rfl, (blk_cell BK290.out 3).trans rfl, (blk_cell BK290.out 4).trans rfl, (blk_cell BK290.out 5).trans rfl, (blk_cell BK290.out 6).trans rfl, (blk_cell BK290.out 7).trans rfl, (blk_cell BK291.out 0).trans rfl, (blk_cell BK291.out 1).trans rfl, (blk_cell BK291.out 2).trans rfl, (blk_cell BK291.out 3).trans rfl, (blk_cell BK291.out 4).trans rfl, (blk_cell BK291.out 5).trans rfl, (blk_cell BK291.out 6).trans rfl, (blk_cell BK291.out 7).trans rfl, ((HB.out.cell (World.block_lt_of_cell? w _ hw295_0)).trans hw295_0), ((HB.out.cell (World.block_lt_of_cell? w _ hw295_1)).trans hw295_1), ((HB.out.cell (World.block_lt_of_cell? w _ hw295_2)).trans hw295_2), ((HB.out.cell (World.block_lt_of_cell? w _ hw295_3)).trans hw295_3), ((HB.out.cell (World.block_lt_of_cell? w _ hw295_4)).trans hw295_4), ((HB.out.cell (World.block_lt_of_cell? w _ hw296_0)).trans hw296_0), ((HB.out.cell (World.block_lt_of_cell? w _ hw296_1)).trans hw296_1), ((HB.out.cell (World.block_lt_of_cell? w _ hw296_2)).trans hw296_2), ((HB.out.cell (World.block_lt_of_cell? w _ hw296_3)).trans hw296_3), ((HB.out.cell (World.block_lt_of_cell? w _ hw296_4)).trans hw296_4)⟩ (fun hHeld => ?_); clear hK K; refine norm_ (a' := ?_) ?_ ?_; rotate_left
         ·
          show Act.put _ (some 6) _ = _
          simp only [Act.put, setIfInBounds_toArray, set_cons_zero, set_cons_succ, i64_w, i32_w]; rfl
         exact norm_ (by simp only [putAll, Act.put, setIfInBounds_toArray, set_cons_zero, set_cons_succ]) (hCont (gb297, gb298) _ ⟨hHeld, (bk_ BK290.out), (bk_ BK291.out), (bk_ BK297.out), (bk_ BK298.out), GW297.out, GE297.out, NB290_297.out, NB297_290.out, NB291_297.out, NB297_291.out, NB298_297.out, NB297_298.out, GW298.out, GE298.out, NB290_298.out, NB298_290.out, NB291_298.out, NB298_291.out, (hb4_ HB.out GE290.out GE291.out GE298.out GE297.out)⟩)
       rintro ⟨gb297, gb298⟩ w63 ⟨hS_, h0_, h1_, h2_, h3_, h4_, h5_, h6_, h7_, h8_, h9_, h10_, h11_, h12_, h13_, h14_, h15_, h16_, h17_, h18_⟩; have n0_ : Aside0 (w63.heap[gb290]? = some (.cells #[.int .i64 a0_0, .int .i64 a0_1, .slice A0_2 l0_2.length c0_2, .slice A0_3 l0_3.length c0_3, .slice A0_4 l0_4.length c0_4, .slice (some ad295) l0_5.length c0_5, .slice A0_6 l0_6.length c0_6, .bool a0_7] 31 (0, 0))) := ⟨h0_⟩; have n1_ : Aside0 (w63.heap[gb291]? = some (.cells #[.int .i64 a1_0, .int .i64 a1_1, .slice A1_2 l1_2.length c1_2, .slice A1_3 l1_3.length c1_3, .slice A1_4 l1_4.length c1_4, .slice (some ad296) l1_5.length c1_5, .slice A1_6 l1_6.length c1_6, .bool a1_7] 31 (0, 0))) := ⟨h1_⟩; have n2_ : Aside0 (w63.heap[gb297]? = some (.cells #[.string (⟨#[]⟩ : ByteArray), .bool false, .slice none 0 0, .slice none 0 0, .int .i64 0] 79 (0, 0))) := ⟨h2_⟩; have n3_ : Aside0 (w63.heap[gb298]? = some (.cells #[.string (⟨#[]⟩ : ByteArray), .bool false, .slice none 0 0, .slice none 0 0, .int .i64 0] 79 (0, 0))) := ⟨h3_⟩; have n4_ : Aside0 (w.heap.size ≤ gb297) := ⟨h4_⟩; have n5_ : Aside0 (w.heap.size ≤ gb297) := ⟨h5_⟩; have n6_ : Aside0 (gb290 ≠ gb297) := ⟨h6_⟩; have n7_ : Aside0 (gb297 ≠ gb290) := ⟨h7_⟩; have n8_ : Aside0 (gb291 ≠ gb297) := ⟨h8_⟩; have n9_ : Aside0 (gb297 ≠ gb291) := ⟨h9_⟩; have n10_ : Aside0 (gb298 ≠ gb297) := ⟨h10_⟩; have n11_ : Aside0 (gb297 ≠ gb298) := ⟨h11_⟩; have n12_ : Aside0 (w.heap.size ≤ gb298) := ⟨h12_⟩; have n13_ : Aside0 (w.heap.size ≤ gb298) := ⟨h13_⟩; have n14_ : Aside0 (gb290 ≠ gb298) := ⟨h14_⟩; have n15_ : Aside0 (gb298 ≠ gb290) := ⟨h15_⟩; have n16_ : Aside0 (gb291 ≠ gb298) := ⟨h16_⟩; have n17_ : Aside0 (gb298 ≠ gb291) := ⟨h17_⟩; have n18_ : Aside0 (Below w.heap.size w w63) := ⟨h18_⟩; clear BK290; clear BK291; clear HB; clear h0_ h1_ h2_ h3_ h4_ h5_ h6_ h7_ h8_ h9_ h10_ h11_ h12_ h13_ h14_ h15_ h16_ h17_ h18_; revert n0_ n1_ n2_ n3_ n4_ n5_ n6_ n7_ n8_ n9_ n10_ n11_ n12_ n13_ n14_ n15_ n16_ n17_ n18_; intro BK290 BK291 BK297 BK298 GW297 GE297 NB290_297 NB297_290 NB291_297 NB297_291 NB298_297 NB297_298 GW298 GE298 NB290_298 NB298_290 NB291_298 NB298_291 HB; have hHeld : w63.cell? ⟨gb290, 0, none⟩ = some (.int .i64 a0_0) ∧ w63.cell? ⟨gb290, 1, none⟩ = some (.int .i64 a0_1) ∧ w63.cell? ⟨gb290, 2, none⟩ = some (.slice A0_2 l0_2.length c0_2) ∧ w63.cell? ⟨gb290, 3, none⟩ = some (.slice A0_3 l0_3.length c0_3) ∧ w63.cell? ⟨gb290, 4, none⟩ = some (.slice A0_4 l0_4.length c0_4) ∧ w63.cell? ⟨gb290, 5, none⟩ = some (.slice (some ad295) l0_5.length c0_5) ∧ w63.cell? ⟨gb290, 6, none⟩ = some (.slice A0_6 l0_6.length c0_6) ∧ w63.cell? ⟨gb290, 7, none⟩ = some (.bool a0_7) ∧ w63.cell? ⟨gb291, 0, none⟩ = some (.int .i64 a1_0) ∧ w63.cell? ⟨gb291, 1, none⟩ = some (.int .i64 a1_1) ∧ w63.cell? ⟨gb291, 2, none⟩ = some (.slice A1_2 l1_2.length c1_2) ∧ w63.cell? ⟨gb291, 3, none⟩ = some (.slice A1_3 l1_3.length c1_3) ∧ w63.cell? ⟨gb291, 4, none⟩ = some (.slice A1_4 l1_4.length c1_4) ∧ w63.cell? ⟨gb291, 5, none⟩ = some (.slice (some ad296) l1_5.length c1_5) ∧ w63.cell? ⟨gb291, 6, none⟩ = some (.slice A1_6 l1_6.length c1_6) ∧ w63.cell? ⟨gb291, 7, none⟩ = some (.bool a1_7) ∧ w63.cell? (ad295.add ((x5_2).toNat * 5)) = some (.string ((rd_T79 l0_5 x5_2).f0)) ∧ w63.cell? ⟨(ad295.add ((x5_2).toNat * 5)).block, (ad295.add ((x5_2).toNat * 5)).off + 1, none⟩ = some (.bool ((rd_T79 l0_5 x5_2).f1)) ∧ w63.cell? ⟨(ad295.add ((x5_2).toNat * 5)).block, (ad295.add ((x5_2).toNat * 5)).off + 2, none⟩ = some (.slice A295_2 ((rd_T79 l0_5 x5_2).f2).length c295_2) ∧ w63.cell? ⟨(ad295.add ((x5_2).toNat * 5)).block, (ad295.add ((x5_2).toNat * 5)).off + 3, none⟩ = some (.slice A295_3 ((rd_T79 l0_5 x5_2).f3).length c295_3) ∧ w63.cell? ⟨(ad295.add ((x5_2).toNat * 5)).block, (ad295.add ((x5_2).toNat * 5)).off + 4, none⟩ = some (.int .i64 ((rd_T79 l0_5 x5_2).f4)) ∧ w63.cell? (ad296.add ((x5_2).toNat * 5)) = some (.string ((rd_T79 l1_5 x5_2).f0)) ∧ w63.cell? ⟨(ad296.add ((x5_2).toNat * 5)).block, (ad296.add ((x5_2).toNat * 5)).off + 1, none⟩ = some (.bool ((rd_T79 l1_5 x5_2).f1)) ∧ w63.cell? ⟨(ad296.add ((x5_2).toNat * 5)).block, (ad296.add ((x5_2).toNat * 5)).off + 2, none⟩ = some (.slice A296_2 ((rd_T79 l1_5 x5_2).f2).length c296_2) ∧ w63.cell? ⟨(ad296.add ((x5_2).toNat * 5)).block, (ad296.add ((x5_2).toNat * 5)).off + 3, none⟩ = some (.slice A296_3 ((rd_T79 l1_5 x5_2).f3).length c296_3) ∧ w63.cell? ⟨(ad296.add ((x5_2).toNat * 5)).block, (ad296.add ((x5_2).toNat * 5)).off + 4, none⟩ = some (.int .i64 ((rd_T79 l1_5 x5_2).f4)) := hS_; refine norm_ (a' := ?_) ?_ ?_; rotate_left
       ·
        simp only [putAll, Act.put, setIfInBounds_toArray, set_cons_zero, set_cons_succ]; rfl
       refine one_ (i := 12) (N := none) (mk_ 13 14) rfl rfl (one_of HT_.out (by kernel_rfl)) (by decide) (fun K hK => ?_); have hs64 : w63.cell? ⟨gb297, 0, none⟩ = some (.string (⟨#[]⟩ : ByteArray)) := (blk_cell BK297.out 0).trans rfl; have hfs64 := blk_frozen BK297.out 0; have hns64_0 := NB290_297.out; have hns64_1 := NB291_297.out; have hns64_3 := NB298_297.out; have hms64_0 := NB297_290.out; have hms64_1 := NB297_291.out; have hms64_3 := NB297_298.out; have hs65 : w63.cell? ⟨gb297, 1, none⟩ = some (.bool false) := (blk_cell BK297.out 1).trans rfl; have hfs65 := blk_frozen BK297.out 1; have hns65_0 := NB290_297.out; have hns65_1 := NB291_297.out; have hns65_3 := NB298_297.out; have hms65_0 := NB297_290.out; have hms65_1 := NB297_291.out; have hms65_3 := NB297_298.out; have hs66 : w63.cell? ⟨gb297, 2, none⟩ = some (.slice none 0 0) := (blk_cell BK297.out 2).trans rfl; have hfs66 := blk_frozen BK297.out 2; have hns66_0 := NB290_297.out; have hns66_1 := NB291_297.out; have hns66_3 := NB298_297.out; have hms66_0 := NB297_290.out; have hms66_1 := NB297_291.out; have hms66_3 := NB297_298.out; have hs67 : w63.cell? ⟨gb297, 3, none⟩ = some (.slice none 0 0) := (blk_cell BK297.out 3).trans rfl; have hfs67 := blk_frozen BK297.out 3; have hns67_0 := NB290_297.out; have hns67_1 := NB291_297.out; have hns67_3 := NB298_297.out; have hms67_0 := NB297_290.out; have hms67_1 := NB297_291.out; have hms67_3 := NB297_298.out; have hs68 : w63.cell? ⟨gb297, 4, none⟩ = some (.int .i64 0) := (blk_cell BK297.out 4).trans rfl; have hfs68 := blk_frozen BK297.out 4; have hns68_0 := NB290_297.out; have hns68_1 := NB291_297.out; have hns68_3 := NB298_297.out; have hms68_0 := NB297_290.out; have hms68_1 := NB297_291.out; have hms68_3 := NB297_298.out; refine skip_ (w1 := ?_) (by rfl) rfl ?_ ?_; rotate_left
       ·
        go_simp
        rfl
       refine hK.out _ _ ⟨((cell_far (p := ⟨gb297, _, none⟩) NB290_297.out _).trans (((cell_far (p := ⟨gb297, _, none⟩) NB290_297.out _).trans (((cell_far (p := ⟨gb297, _, none⟩) NB290_297.out _).trans (((cell_far (p := ⟨gb297, _, none⟩) NB290_297.out _).trans (((cell_far (p := ⟨gb297, _, none⟩) NB290_297.out _).trans (hHeld.1)))))))))), ((cell_far (p := ⟨gb297, _, none⟩) NB290_297.out _).trans (((cell_far (p := ⟨gb297, _, none⟩) NB290_297.out _).trans (((cell_far (p := ⟨gb297, _, none⟩) NB290_297.out _).trans (((cell_far (p := ⟨gb297, _, none⟩) NB290_297.out _).trans (((cell_far (p := ⟨gb297, _, none⟩) NB290_297.out _).trans (hHeld.2.1)))))))))), ((cell_far (p := ⟨gb297, _, none⟩) NB290_297.out _).trans (((cell_far (p := ⟨gb297, _, none⟩) NB290_297.out _).trans (((cell_far (p := ⟨gb297, _, none⟩) NB290_297.out _).trans (((cell_far (p := ⟨gb297, _, none⟩) NB290_297.out _).trans (((cell_far (p := ⟨gb297, _, none⟩) NB290_297.out _).trans (hHeld.2.2.1)))))))))), ((cell_far (p := ⟨gb297, _, none⟩) NB290_297.out _).trans (((cell_far (p := ⟨gb297, _, none⟩) NB290_297.out _).trans (((cell_far (p := ⟨gb297, _, none⟩) NB290_297.out _).trans (((cell_far (p := ⟨gb297, _, none⟩) NB290_297.out _).trans (((cell_far (p := ⟨gb297, _, none⟩) NB290_297.out _).trans (hHeld.2.2.2.1)))))))))), ((cell_far (p := ⟨gb297, _, none⟩) NB290_297.out _).trans (((cell_far (p := ⟨gb297, _, none⟩) NB290_297.out _).trans (((cell_far (p := ⟨gb297, _, none⟩) NB290_297.out _).trans (((cell_far (p := ⟨gb297, _, none⟩) NB290_297.out _).trans (((cell_far (p := ⟨gb297, _, none⟩) NB290_297.out _).trans (hHeld.2.2.2.2.1)))))))))), ((cell_far (p := ⟨gb297, _, none⟩) NB290_297.out _).trans (((cell_far (p := ⟨gb297, _, none⟩) NB290_297.out _).trans (((cell_far (p := ⟨gb297, _, none⟩) NB290_297.out _).trans (((cell_far (p := ⟨gb297, _, none⟩) NB290_297.out _).trans (((cell_far (p := ⟨gb297, _, none⟩) NB290_297.out _).trans (hHeld.2.2.2.2.2.1)))))))))), ((cell_far (p := ⟨gb297, _, none⟩) NB290_297.out _).trans (((cell_far (p := ⟨gb297, _, none⟩) NB290_297.out _).trans (((cell_far (p := ⟨gb297, _, none⟩) NB290_297.out _).trans (((cell_far (p := ⟨gb297, _, none⟩) NB290_297.out _).trans (((cell_far (p := ⟨gb297, _, none⟩) NB290_297.out _).trans (hHeld.2.2.2.2.2.2.1)))))))))), ((cell_far (p := ⟨gb297, _, none⟩) NB290_297.out _).trans (((cell_far (p := ⟨gb297, _, none⟩) NB290_297.out _).trans (((cell_far (p := ⟨gb297, _, none⟩) NB290_297.out _).trans (((cell_far (p := ⟨gb297, _, none⟩) NB290_297.out _).trans (((cell_far (p := ⟨gb297, _, none⟩) NB290_297.out _).trans (hHeld.2.2.2.2.2.2.2.1)))))))))), ((cell_far (p := ⟨gb297, _, none⟩) NB291_297.out _).trans (((cell_far (p := ⟨gb297, _, none⟩) NB291_297.out _).trans (((cell_far (p := ⟨gb297, _, none⟩) NB291_297.out _).trans (((cell_far (p := ⟨gb297, _, none⟩) NB291_297.out _).trans (((cell_far (p := ⟨gb297, _, none⟩) NB291_297.out _).trans (hHeld.2.2.2.2.2.2.2.2.1)))))))))), ((cell_far (p := ⟨gb297, _, none⟩) NB291_297.out _).trans (((cell_far (p := ⟨gb297, _, none⟩) NB291_297.out _).trans (((cell_far (p := ⟨gb297, _, none⟩) NB291_297.out _).trans (((cell_far (p := ⟨gb297, _, none⟩) NB291_297.out _).trans (((cell_far (p := ⟨gb297, _, none⟩) NB291_297.out _).trans (hHeld.2.2.2.2.2.2.2.2.2.1)))))))))), ((cell_far (p := ⟨gb297, _, none⟩) NB291_297.out _).trans (((cell_far (p := ⟨gb297, _, none⟩) NB291_297.out _).trans (((cell_far (p := ⟨gb297, _, none⟩) NB291_297.out _).trans (((cell_far (p := ⟨gb297, _, none⟩) NB291_297.out _).trans (((cell_far (p := ⟨gb297, _, none⟩) NB291_297.out _).trans (hHeld.2.2.2.2.2.2.2.2.2.2.1)))))))))), ((cell_far (p := ⟨gb297, _, none⟩) NB291_297.out _).trans (((cell_far (p := ⟨gb297, _, none⟩) NB291_297.out _).trans (((cell_far (p := ⟨gb297, _, none⟩) NB291_297.out _).trans (((cell_far (p := ⟨gb297, _, none⟩) NB291_297.out _).trans (((cell_far (p := ⟨gb297, _, none⟩) NB291_297.out _).trans (hHeld.2.2.2.2.2.2.2.2.2.2.2.1)))))))))), ((cell_far (p := ⟨gb297, _, none⟩) NB291_297.out _).trans (((cell_far (p := ⟨gb297, _, none⟩) NB291_297.out _).trans (((cell_far (p := ⟨gb297, _, none⟩) NB291_297.out _).trans (((cell_far (p := ⟨gb297, _, none⟩) NB291_297.out _).trans (((cell_far (p := ⟨gb297, _, none⟩) NB291_297.out _).trans (hHeld.2.2.2.2.2.2.2.2.2.2.2.2.1)))))))))), ((cell_far (p := ⟨gb297, _, none⟩) NB291_297.out _).trans (((cell_far (p := ⟨gb297, _, none⟩) NB291_297.out _).trans (((cell_far (p := ⟨gb297, _, none⟩) NB291_297.out _).trans (((cell_far (p := ⟨gb297, _, none⟩) NB291_297.out _).trans (((cell_far (p := ⟨gb297, _, none⟩) NB291_297.out _).trans (hHeld.2.2.2.2.2.2.2.2.2.2.2.2.2.1)))))))))), ((cell_far (p := ⟨gb297, _, none⟩) NB291_297.out _).trans (((cell_far (p := ⟨gb297, _, none⟩) NB291_297.out _).trans (((cell_far (p := ⟨gb297, _, none⟩) NB291_297.out _).trans (((cell_far (p := ⟨gb297, _, none⟩) NB291_297.out _).trans (((cell_far (p := ⟨gb297, _, none⟩) NB291_297.out _).trans (hHeld.2.2.2.2.2.2.2.2.2.2.2.2.2.2.1)))))))))), ((cell_far (p := ⟨gb297, _, none⟩) NB291_297.out _).trans (((cell_far (p := ⟨gb297, _, none⟩) NB291_297.out _).trans (((cell_far (p := ⟨gb297, _, none⟩) NB291_297.out _).trans (((cell_far (p := ⟨gb297, _, none⟩) NB291_297.out _).trans (((cell_far (p := ⟨gb297, _, none⟩) NB291_297.out _).trans (hHeld.2.2.2.2.2.2.2.2.2.2.2.2.2.2.2.1)))))))))), ((cell_far (p := ⟨gb297, _, none⟩) (by first | exact Nat.ne_of_lt (Nat.lt_of_lt_of_le (by have := World.block_lt_of_cell? _ _ hw295_0; first | rwa [add_block] at this | exact this) GW297.out) | (rw [add_block]; exact Nat.ne_of_lt (Nat.lt_of_lt_of_le (by have := World.block_lt_of_cell? _ _ hw295_0; first | rwa [add_block] at this | exact this) GW297.out)) | (show (Addr.add _ _).block ≠ _; rw [add_block]; exact Nat.ne_of_lt (Nat.lt_of_lt_of_le (by have := World.block_lt_of_cell? _ _ hw295_0; first | rwa [add_block] at this | exact this) GW297.out)) | (dsimp only; exact Nat.ne_of_lt (Nat.lt_of_lt_of_le (by have := World.block_lt_of_cell? _ _ hw295_0; first | rwa [add_block] at this | exact this) GW297.out))) _).trans (((cell_far (p := ⟨gb297, _, none⟩) (by first | exact Nat.ne_of_lt (Nat.lt_of_lt_of_le (by have := World.block_lt_of_cell? _ _ hw295_0; first | rwa [add_block] at this | exact this) GW297.out) | (rw [add_block]; exact Nat.ne_of_lt (Nat.lt_of_lt_of_le (by have := World.block_lt_of_cell? _ _ hw295_0; first | rwa [add_block] at this | exact this) GW297.out)) | (show (Addr.add _ _).block ≠ _; rw [add_block]; exact Nat.ne_of_lt (Nat.lt_of_lt_of_le (by have := World.block_lt_of_cell? _ _ hw295_0; first | rwa [add_block] at this | exact this) GW297.out)) | (dsimp only; exact Nat.ne_of_lt (Nat.lt_of_lt_of_le (by have := World.block_lt_of_cell? _ _ hw295_0; first | rwa [add_block] at this | exact this) GW297.out))) _).trans (((cell_far (p := ⟨gb297, _, none⟩) (by first | exact Nat.ne_of_lt (Nat.lt_of_lt_of_le (by have := World.block_lt_of_cell? _ _ hw295_0; first | rwa [add_block] at this | exact this) GW297.out) | (rw [add_block]; exact Nat.ne_of_lt (Nat.lt_of_lt_of_le (by have := World.block_lt_of_cell? _ _ hw295_0; first | rwa [add_block] at this | exact this) GW297.out)) | (show (Addr.add _ _).block ≠ _; rw [add_block]; exact Nat.ne_of_lt (Nat.lt_of_lt_of_le (by have := World.block_lt_of_cell? _ _ hw295_0; first | rwa [add_block] at this | exact this) GW297.out)) | (dsimp only; exact Nat.ne_of_lt (Nat.lt_of_lt_of_le (by have := World.block_lt_of_cell? _ _ hw295_0; first | rwa [add_block] at this | exact this) GW297.out))) _).trans (((cell_far (p := ⟨gb297, _, none⟩) (by first | exact Nat.ne_of_lt (Nat.lt_of_lt_of_le (by have := World.block_lt_of_cell? _ _ hw295_0; first | rwa [add_block] at this | exact this) GW297.out) | (rw [add_block]; exact Nat.ne_of_lt (Nat.lt_of_lt_of_le (by have := World.block_lt_of_cell? _ _ hw295_0; first | rwa [add_block] at this | exact this) GW297.out)) | (show (Addr.add _ _).block ≠ _; rw [add_block]; exact Nat.ne_of_lt (Nat.lt_of_lt_of_le (by have := World.block_lt_of_cell? _ _ hw295_0; first | rwa [add_block] at this | exact this) GW297.out)) | (dsimp only; exact Nat.ne_of_lt (Nat.lt_of_lt_of_le (by have := World.block_lt_of_cell? _ _ hw295_0; first | rwa [add_block] at this | exact this) GW297.out))) _).trans (((cell_far (p := ⟨gb297, _, none⟩) (by first | exact Nat.ne_of_lt (Nat.lt_of_lt_of_le (by have := World.block_lt_of_cell? _ _ hw295_0; first | rwa [add_block] at this | exact this) GW297.out) | (rw [add_block]; exact Nat.ne_of_lt (Nat.lt_of_lt_of_le (by have := World.block_lt_of_cell? _ _ hw295_0; first | rwa [add_block] at this | exact this) GW297.out)) | (show (Addr.add _ _).block ≠ _; rw [add_block]; exact Nat.ne_of_lt (Nat.lt_of_lt_of_le (by have := World.block_lt_of_cell? _ _ hw295_0; first | rwa [add_block] at this | exact this) GW297.out)) | (dsimp only; exact Nat.ne_of_lt (Nat.lt_of_lt_of_le (by have := World.block_lt_of_cell? _ _ hw295_0; first | rwa [add_block] at this | exact this) GW297.out))) _).trans (hHeld.2.2.2.2.2.2.2.2.2.2.2.2.2.2.2.2.1)))))))))), ((cell_far (p := ⟨gb297, _, none⟩) (by first | exact Nat.ne_of_lt (Nat.lt_of_lt_of_le (by have := World.block_lt_of_cell? _ _ hw295_1; first | rwa [add_block] at this | exact this) GW297.out) | (rw [add_block]; exact Nat.ne_of_lt (Nat.lt_of_lt_of_le (by have := World.block_lt_of_cell? _ _ hw295_1; first | rwa [add_block] at this | exact this) GW297.out)) | (show (Addr.add _ _).block ≠ _; rw [add_block]; exact Nat.ne_of_lt (Nat.lt_of_lt_of_le (by have := World.block_lt_of_cell? _ _ hw295_1; first | rwa [add_block] at this | exact this) GW297.out)) | (dsimp only; exact Nat.ne_of_lt (Nat.lt_of_lt_of_le (by have := World.block_lt_of_cell? _ _ hw295_1; first | rwa [add_block] at this | exact this) GW297.out))) _).trans (((cell_far (p := ⟨gb297, _, none⟩) (by first | exact Nat.ne_of_lt (Nat.lt_of_lt_of_le (by have := World.block_lt_of_cell? _ _ hw295_1; first | rwa [add_block] at this | exact this) GW297.out) | (rw [add_block]; exact Nat.ne_of_lt (Nat.lt_of_lt_of_le (by have := World.block_lt_of_cell? _ _ hw295_1; first | rwa [add_block] at this | exact this) GW297.out)) | (show (Addr.add _ _).block ≠ _; rw [add_block]; exact Nat.ne_of_lt (Nat.lt_of_lt_of_le (by have := World.block_lt_of_cell? _ _ hw295_1; first | rwa [add_block] at this | exact this) GW297.out)) | (dsimp only; exact Nat.ne_of_lt (Nat.lt_of_lt_of_le (by have := World.block_lt_of_cell? _ _ hw295_1; first | rwa [add_block] at this | exact this) GW297.out))) _).trans (((cell_far (p := ⟨gb297, _, none⟩) (by first | exact Nat.ne_of_lt (Nat.lt_of_lt_of_le (by have := World.block_lt_of_cell? _ _ hw295_1; first | rwa [add_block] at this | exact this) GW297.out) | (rw [add_block]; exact Nat.ne_of_lt (Nat.lt_of_lt_of_le (by have := World.block_lt_of_cell? _ _ hw295_1; first | rwa [add_block] at this | exact this) GW297.out)) | (show (Addr.add _ _).block ≠ _; rw [add_block]; exact Nat.ne_of_lt (Nat.lt_of_lt_of_le (by have := World.block_lt_of_cell? _ _ hw295_1; first | rwa [add_block] at this | exact this) GW297.out)) | (dsimp only; exact Nat.ne_of_lt (Nat.lt_of_lt_of_le (by have := World.block_lt_of_cell? _ _ hw295_1; first | rwa [add_block] at this | exact this) GW297.out))) _).trans (((cell_far (p := ⟨gb297, _, none⟩) (by first | exact Nat.ne_of_lt (Nat.lt_of_lt_of_le (by have := World.block_lt_of_cell? _ _ hw295_1; first | rwa [add_block] at this | exact this) GW297.out) | (rw [add_block]; exact Nat.ne_of_lt (Nat.lt_of_lt_of_le (by have := World.block_lt_of_cell? _ _ hw295_1; first | rwa [add_block] at this | exact this) GW297.out)) | (show (Addr.add _ _).block ≠ _; rw [add_block]; exact Nat.ne_of_lt (Nat.lt_of_lt_of_le (by have := World.block_lt_of_cell? _ _ hw295_1; first | rwa [add_block] at this | exact this) GW297.out)) | (dsimp only; exact Nat.ne_of_lt (Nat.lt_of_lt_of_le (by have := World.block_lt_of_cell? _ _ hw295_1; first | rwa [add_block] at this | exact this) GW297.out))) _).trans (((cell_far (p := ⟨gb297, _, none⟩) (by first | exact Nat.ne_of_lt (Nat.lt_of_lt_of_le (by have := World.block_lt_of_cell? _ _ hw295_1; first | rwa [add_block] at this | exact this) GW297.out) | (rw [add_block]; exact Nat.ne_of_lt (Nat.lt_of_lt_of_le (by have := World.block_lt_of_cell? _ _ hw295_1; first | rwa [add_block] at this | exact this) GW297.out)) | (show (Addr.add _ _).block ≠ _; rw [add_block]; exact Nat.ne_of_lt (Nat.lt_of_lt_of_le (by have := World.block_lt_of_cell? _ _ hw295_1; first | rwa [add_block] at this | exact this) GW297.out)) | (dsimp only; exact Nat.ne_of_lt (Nat.lt_of_lt_of_le (by have := World.block_lt_of_cell? _ _ hw295_1; first | rwa [add_block] at this | exact this) GW297.out))) _).trans (hHeld.2.2.2.2.2.2.2.2.2.2.2.2.2.2.2.2.2.1)))))))))), ((cell_far (p := ⟨gb297, _, none⟩) (by first | exact Nat.ne_of_lt (Nat.lt_of_lt_of_le (by have := World.block_lt_of_cell? _ _ hw295_2; first | rwa [add_block] at this | exact this) GW297.out) | (rw [add_block]; exact Nat.ne_of_lt (Nat.lt_of_lt_of_le (by have := World.block_lt_of_cell? _ _ hw295_2; first | rwa [add_block] at this | exact this) GW297.out)) | (show (Addr.add _ _).block ≠ _; rw [add_block]; exact Nat.ne_of_lt (Nat.lt_of_lt_of_le (by have := World.block_lt_of_cell? _ _ hw295_2; first | rwa [add_block] at this | exact this) GW297.out)) | (dsimp only; exact Nat.ne_of_lt (Nat.lt_of_lt_of_le (by have := World.block_lt_of_cell? _ _ hw295_2; first | rwa [add_block] at this | exact this) GW297.out))) _).trans (((cell_far (p := ⟨gb297, _, none⟩) (by first | exact Nat.ne_of_lt (Nat.lt_of_lt_of_le (by have := World.block_lt_of_cell? _ _ hw295_2; first | rwa [add_block] at this | exact this) GW297.out) | (rw [add_block]; exact Nat.ne_of_lt (Nat.lt_of_lt_of_le (by have := World.block_lt_of_cell? _ _ hw295_2; first | rwa [add_block] at this | exact this) GW297.out)) | (show (Addr.add _ _).block ≠ _; rw [add_block]; exact Nat.ne_of_lt (Nat.lt_of_lt_of_le (by have := World.block_lt_of_cell? _ _ hw295_2; first | rwa [add_block] at this | exact this) GW297.out)) | (dsimp only; exact Nat.ne_of_lt (Nat.lt_of_lt_of_le (by have := World.block_lt_of_cell? _ _ hw295_2; first | rwa [add_block] at this | exact this) GW297.out))) _).trans (((cell_far (p := ⟨gb297, _, none⟩) (by first | exact Nat.ne_of_lt (Nat.lt_of_lt_of_le (by have := World.block_lt_of_cell? _ _ hw295_2; first | rwa [add_block] at this | exact this) GW297.out) | (rw [add_block]; exact Nat.ne_of_lt (Nat.lt_of_lt_of_le (by have := World.block_lt_of_cell? _ _ hw295_2; first | rwa [add_block] at this | exact this) GW297.out)) | (show (Addr.add _ _).block ≠ _; rw [add_block]; exact Nat.ne_of_lt (Nat.lt_of_lt_of_le (by have := World.block_lt_of_cell? _ _ hw295_2; first | rwa [add_block] at this | exact this) GW297.out)) | (dsimp only; exact Nat.ne_of_lt (Nat.lt_of_lt_of_le (by have := World.block_lt_of_cell? _ _ hw295_2; first | rwa [add_block] at this | exact this) GW297.out))) _).trans (((cell_far (p := ⟨gb297, _, none⟩) (by first | exact Nat.ne_of_lt (Nat.lt_of_lt_of_le (by have := World.block_lt_of_cell? _ _ hw295_2; first | rwa [add_block] at this | exact this) GW297.out) | (rw [add_block]; exact Nat.ne_of_lt (Nat.lt_of_lt_of_le (by have := World.block_lt_of_cell? _ _ hw295_2; first | rwa [add_block] at this | exact this) GW297.out)) | (show (Addr.add _ _).block ≠ _; rw [add_block]; exact Nat.ne_of_lt (Nat.lt_of_lt_of_le (by have := World.block_lt_of_cell? _ _ hw295_2; first | rwa [add_block] at this | exact this) GW297.out)) | (dsimp only; exact Nat.ne_of_lt (Nat.lt_of_lt_of_le (by have := World.block_lt_of_cell? _ _ hw295_2; first | rwa [add_block] at this | exact this) GW297.out))) _).trans (((cell_far (p := ⟨gb297, _, none⟩) (by first | exact Nat.ne_of_lt (Nat.lt_of_lt_of_le (by have := World.block_lt_of_cell? _ _ hw295_2; first | rwa [add_block] at this | exact this) GW297.out) | (rw [add_block]; exact Nat.ne_of_lt (Nat.lt_of_lt_of_le (by have := World.block_lt_of_cell? _ _ hw295_2; first | rwa [add_block] at this | exact this) GW297.out)) | (show (Addr.add _ _).block ≠ _; rw [add_block]; exact Nat.ne_of_lt (Nat.lt_of_lt_of_le (by have := World.block_lt_of_cell? _ _ hw295_2; first | rwa [add_block] at this | exact this) GW297.out)) | (dsimp only; exact Nat.ne_of_lt (Nat.lt_of_lt_of_le (by have := World.block_lt_of_cell? _ _ hw295_2; first | rwa [add_block] at this | exact this) GW297.out))) _).trans (hHeld.2.2.2.2.2.2.2.2.2.2.2.2.2.2.2.2.2.2.1)))))))))), ((cell_far (p := ⟨gb297, _, none⟩) (by first | exact Nat.ne_of_lt (Nat.lt_of_lt_of_le (by have := World.block_lt_of_cell? _ _ hw295_3; first | rwa [add_block] at this | exact this) GW297.out) | (rw [add_block]; exact Nat.ne_of_lt (Nat.lt_of_lt_of_le (by have := World.block_lt_of_cell? _ _ hw295_3; first | rwa [add_block] at this | exact this) GW297.out)) | (show (Addr.add _ _).block ≠ _; rw [add_block]; exact Nat.ne_of_lt (Nat.lt_of_lt_of_le (by have := World.block_lt_of_cell? _ _ hw295_3; first | rwa [add_block] at this | exact this) GW297.out)) | (dsimp only; exact Nat.ne_of_lt (Nat.lt_of_lt_of_le (by have := World.block_lt_of_cell? _ _ hw295_3; first | rwa [add_block] at this | exact this) GW297.out))) _).trans (((cell_far (p := ⟨gb297, _, none⟩) (by first | exact Nat.ne_of_lt (Nat.lt_of_lt_of_le (by have := World.block_lt_of_cell? _ _ hw295_3; first | rwa [add_block] at this | exact this) GW297.out) | (rw [add_block]; exact Nat.ne_of_lt (Nat.lt_of_lt_of_le (by have := World.block_lt_of_cell? _ _ hw295_3; first | rwa [add_block] at this | exact this) GW297.out)) | (show (Addr.add _ _).block ≠ _; rw [add_block]; exact Nat.ne_of_lt (Nat.lt_of_lt_of_le (by have := World.block_lt_of_cell? _ _ hw295_3; first | rwa [add_block] at this | exact this) GW297.out)) | (dsimp only; exact Nat.ne_of_lt (Nat.lt_of_lt_of_le (by have := World.block_lt_of_cell? _ _ hw295_3; first | rwa [add_block] at this | exact this) GW297.out))) _).trans (((cell_far (p := ⟨gb297, _, none⟩) (by first | exact Nat.ne_of_lt (Nat.lt_of_lt_of_le (by have := World.block_lt_of_cell? _ _ hw295_3; first | rwa [add_block] at this | exact this) GW297.out) | (rw [add_block]; exact Nat.ne_of_lt (Nat.lt_of_lt_of_le (by have := World.block_lt_of_cell? _ _ hw295_3; first | rwa [add_block] at this | exact this) GW297.out)) | (show (Addr.add _ _).block ≠ _; rw [add_block]; exact Nat.ne_of_lt (Nat.lt_of_lt_of_le (by have := World.block_lt_of_cell? _ _ hw295_3; first | rwa [add_block] at this | exact this) GW297.out)) | (dsimp only; exact Nat.ne_of_lt (Nat.lt_of_lt_of_le (by have := World.block_lt_of_cell? _ _ hw295_3; first | rwa [add_block] at this | exact this) GW297.out))) _).trans (((cell_far (p := ⟨gb297, _, none⟩) (by first | exact Nat.ne_of_lt (Nat.lt_of_lt_of_le (by have := World.block_lt_of_cell? _ _ hw295_3; first | rwa [add_block] at this | exact this) GW297.out) | (rw [add_block]; exact Nat.ne_of_lt (Nat.lt_of_lt_of_le (by have := World.block_lt_of_cell? _ _ hw295_3; first | rwa [add_block] at this | exact this) GW297.out)) | (show (Addr.add _ _).block ≠ _; rw [add_block]; exact Nat.ne_of_lt (Nat.lt_of_lt_of_le (by have := World.block_lt_of_cell? _ _ hw295_3; first | rwa [add_block] at this | exact this) GW297.out)) | (dsimp only; exact Nat.ne_of_lt (Nat.lt_of_lt_of_le (by have := World.block_lt_of_cell? _ _ hw295_3; first | rwa [add_block] at this | exact this) GW297.out))) _).trans (((cell_far (p := ⟨gb297, _, none⟩) (by first | exact Nat.ne_of_lt (Nat.lt_of_lt_of_le (by have := World.block_lt_of_cell? _ _ hw295_3; first | rwa [add_block] at this | exact this) GW297.out) | (rw [add_block]; exact Nat.ne_of_lt (Nat.lt_of_lt_of_le (by have := World.block_lt_of_cell? _ _ hw295_3; first | rwa [add_block] at this | exact this) GW297.out)) | (show (Addr.add _ _).block ≠ _; rw [add_block]; exact Nat.ne_of_lt (Nat.lt_of_lt_of_le (by have := World.block_lt_of_cell? _ _ hw295_3; first | rwa [add_block] at this | exact this) GW297.out)) | (dsimp only; exact Nat.ne_of_lt (Nat.lt_of_lt_of_le (by have := World.block_lt_of_cell? _ _ hw295_3; first | rwa [add_block] at this | exact this) GW297.out))) _).trans (hHeld.2.2.2.2.2.2.2.2.2.2.2.2.2.2.2.2.2.2.2.1)))))))))), ((cell_far (p := ⟨gb297, _, none⟩) (by first | exact Nat.ne_of_lt (Nat.lt_of_lt_of_le (by have := World.block_lt_of_cell? _ _ hw295_4; first | rwa [add_block] at this | exact this) GW297.out) | (rw [add_block]; exact Nat.ne_of_lt (Nat.lt_of_lt_of_le (by have := World.block_lt_of_cell? _ _ hw295_4; first | rwa [add_block] at this | exact this) GW297.out)) | (show (Addr.add _ _).block ≠ _; rw [add_block]; exact Nat.ne_of_lt (Nat.lt_of_lt_of_le (by have := World.block_lt_of_cell? _ _ hw295_4; first | rwa [add_block] at this | exact this) GW297.out)) | (dsimp only; exact Nat.ne_of_lt (Nat.lt_of_lt_of_le (by have := World.block_lt_of_cell? _ _ hw295_4; first | rwa [add_block] at this | exact this) GW297.out))) _).trans (((cell_far (p := ⟨gb297, _, none⟩) (by first | exact Nat.ne_of_lt (Nat.lt_of_lt_of_le (by have := World.block_lt_of_cell? _ _ hw295_4; first | rwa [add_block] at this | exact this) GW297.out) | (rw [add_block]; exact Nat.ne_of_lt (Nat.lt_of_lt_of_le (by have := World.block_lt_of_cell? _ _ hw295_4; first | rwa [add_block] at this | exact this) GW297.out)) | (show (Addr.add _ _).block ≠ _; rw [add_block]; exact Nat.ne_of_lt (Nat.lt_of_lt_of_le (by have := World.block_lt_of_cell? _ _ hw295_4; first | rwa [add_block] at this | exact this) GW297.out)) | (dsimp only; exact Nat.ne_of_lt (Nat.lt_of_lt_of_le (by have := World.block_lt_of_cell? _ _ hw295_4; first | rwa [add_block] at this | exact this) GW297.out))) _).trans (((cell_far (p := ⟨gb297, _, none⟩) (by first | exact Nat.ne_of_lt (Nat.lt_of_lt_of_le (by have := World.block_lt_of_cell? _ _ hw295_4; first | rwa [add_block] at this | exact this) GW297.out) | (rw [add_block]; exact Nat.ne_of_lt (Nat.lt_of_lt_of_le (by have := World.block_lt_of_cell? _ _ hw295_4; first | rwa [add_block] at this | exact this) GW297.out)) | (show (Addr.add _ _).block ≠ _; rw [add_block]; exact Nat.ne_of_lt (Nat.lt_of_lt_of_le (by have := World.block_lt_of_cell? _ _ hw295_4; first | rwa [add_block] at this | exact this) GW297.out)) | (dsimp only; exact Nat.ne_of_lt (Nat.lt_of_lt_of_le (by have := World.block_lt_of_cell? _ _ hw295_4; first | rwa [add_block] at this | exact this) GW297.out))) _).trans (((cell_far (p := ⟨gb297, _, none⟩) (by first | exact Nat.ne_of_lt (Nat.lt_of_lt_of_le (by have := World.block_lt_of_cell? _ _ hw295_4; first | rwa [add_block] at this | exact this) GW297.out) | (rw [add_block]; exact Nat.ne_of_lt (Nat.lt_of_lt_of_le (by have := World.block_lt_of_cell? _ _ hw295_4; first | rwa [add_block] at this | exact this) GW297.out)) | (show (Addr.add _ _).block ≠ _; rw [add_block]; exact Nat.ne_of_lt (Nat.lt_of_lt_of_le (by have := World.block_lt_of_cell? _ _ hw295_4; first | rwa [add_block] at this | exact this) GW297.out)) | (dsimp only; exact Nat.ne_of_lt (Nat.lt_of_lt_of_le (by have := World.block_lt_of_cell? _ _ hw295_4; first | rwa [add_block] at this | exact this) GW297.out))) _).trans (((cell_far (p := ⟨gb297, _, none⟩) (by first | exact Nat.ne_of_lt (Nat.lt_of_lt_of_le (by have := World.block_lt_of_cell? _ _ hw295_4; first | rwa [add_block] at this | exact this) GW297.out) | (rw [add_block]; exact Nat.ne_of_lt (Nat.lt_of_lt_of_le (by have := World.block_lt_of_cell? _ _ hw295_4; first | rwa [add_block] at this | exact this) GW297.out)) | (show (Addr.add _ _).block ≠ _; rw [add_block]; exact Nat.ne_of_lt (Nat.lt_of_lt_of_le (by have := World.block_lt_of_cell? _ _ hw295_4; first | rwa [add_block] at this | exact this) GW297.out)) | (dsimp only; exact Nat.ne_of_lt (Nat.lt_of_lt_of_le (by have := World.block_lt_of_cell? _ _ hw295_4; first | rwa [add_block] at this | exact this) GW297.out))) _).trans (hHeld.2.2.2.2.2.2.2.2.2.2.2.2.2.2.2.2.2.2.2.2.1)))))))))), ((cell_far (p := ⟨gb297, _, none⟩) (by first | exact Nat.ne_of_lt (Nat.lt_of_lt_of_le (by have := World.block_lt_of_cell? _ _ hw296_0; first | rwa [add_block] at this | exact this) GW297.out) | (rw [add_block]; exact Nat.ne_of_lt (Nat.lt_of_lt_of_le (by have := World.block_lt_of_cell? _ _ hw296_0; first | rwa [add_block] at this | exact this) GW297.out)) | (show (Addr.add _ _).block ≠ _; rw [add_block]; exact Nat.ne_of_lt (Nat.lt_of_lt_of_le (by have := World.block_lt_of_cell? _ _ hw296_0; first | rwa [add_block] at this | exact this) GW297.out)) | (dsimp only; exact Nat.ne_of_lt (Nat.lt_of_lt_of_le (by have := World.block_lt_of_cell? _ _ hw296_0; first | rwa [add_block] at this | exact this) GW297.out))) _).trans (((cell_far (p := ⟨gb297, _, none⟩) (by first | exact Nat.ne_of_lt (Nat.lt_of_lt_of_le (by have := World.block_lt_of_cell? _ _ hw296_0; first | rwa [add_block] at this | exact this) GW297.out) | (rw [add_block]; exact Nat.ne_of_lt (Nat.lt_of_lt_of_le (by have := World.block_lt_of_cell? _ _ hw296_0; first | rwa [add_block] at this | exact this) GW297.out)) | (show (Addr.add _ _).block ≠ _; rw [add_block]; exact Nat.ne_of_lt (Nat.lt_of_lt_of_le (by have := World.block_lt_of_cell? _ _ hw296_0; first | rwa [add_block] at this | exact this) GW297.out)) | (dsimp only; exact Nat.ne_of_lt (Nat.lt_of_lt_of_le (by have := World.block_lt_of_cell? _ _ hw296_0; first | rwa [add_block] at this | exact this) GW297.out))) _).trans (((cell_far (p := ⟨gb297, _, none⟩) (by first | exact Nat.ne_of_lt (Nat.lt_of_lt_of_le (by have := World.block_lt_of_cell? _ _ hw296_0; first | rwa [add_block] at this | exact this) GW297.out) | (rw [add_block]; exact Nat.ne_of_lt (Nat.lt_of_lt_of_le (by have := World.block_lt_of_cell? _ _ hw296_0; first | rwa [add_block] at this | exact this) GW297.out)) | (show (Addr.add _ _).block ≠ _; rw [add_block]; exact Nat.ne_of_lt (Nat.lt_of_lt_of_le (by have := World.block_lt_of_cell? _ _ hw296_0; first | rwa [add_block] at this | exact this) GW297.out)) | (dsimp only; exact Nat.ne_of_lt (Nat.lt_of_lt_of_le (by have := World.block_lt_of_cell? _ _ hw296_0; first | rwa [add_block] at this | exact this) GW297.out))) _).trans (((cell_far (p := ⟨gb297, _, none⟩) (by first | exact Nat.ne_of_lt (Nat.lt_of_lt_of_le (by have := World.block_lt_of_cell? _ _ hw296_0; first | rwa [add_block] at this | exact this) GW297.out) | (rw [add_block]; exact Nat.ne_of_lt (Nat.lt_of_lt_of_le (by have := World.block_lt_of_cell? _ _ hw296_0; first | rwa [add_block] at this | exact this) GW297.out)) | (show (Addr.add _ _).block ≠ _; rw [add_block]; exact Nat.ne_of_lt (Nat.lt_of_lt_of_le (by have := World.block_lt_of_cell? _ _ hw296_0; first | rwa [add_block] at this | exact this) GW297.out)) | (dsimp only; exact Nat.ne_of_lt (Nat.lt_of_lt_of_le (by have := World.block_lt_of_cell? _ _ hw296_0; first | rwa [add_block] at this | exact this) GW297.out))) _).trans (((cell_far (p := ⟨gb297, _, none⟩) (by first | exact Nat.ne_of_lt (Nat.lt_of_lt_of_le (by have := World.block_lt_of_cell? _ _ hw296_0; first | rwa [add_block] at this | exact this) GW297.out) | (rw [add_block]; exact Nat.ne_of_lt (Nat.lt_of_lt_of_le (by have := World.block_lt_of_cell? _ _ hw296_0; first | rwa [add_block] at this | exact this) GW297.out)) | (show (Addr.add _ _).block ≠ _; rw [add_block]; exact Nat.ne_of_lt (Nat.lt_of_lt_of_le (by have := World.block_lt_of_cell? _ _ hw296_0; first | rwa [add_block] at this | exact this) GW297.out)) | (dsimp only; exact Nat.ne_of_lt (Nat.lt_of_lt_of_le (by have := World.block_lt_of_cell? _ _ hw296_0; first | rwa [add_block] at this | exact this) GW297.out))) _).trans (hHeld.2.2.2.2.2.2.2.2.2.2.2.2.2.2.2.2.2.2.2.2.2.1)))))))))), ((cell_far (p := ⟨gb297, _, none⟩) (by first | exact Nat.ne_of_lt (Nat.lt_of_lt_of_le (by have := World.block_lt_of_cell? _ _ hw296_1; first | rwa [add_block] at this | exact this) GW297.out) | (rw [add_block]; exact Nat.ne_of_lt (Nat.lt_of_lt_of_le (by have := World.block_lt_of_cell? _ _ hw296_1; first | rwa [add_block] at this | exact this) GW297.out)) | (show (Addr.add _ _).block ≠ _; rw [add_block]; exact Nat.ne_of_lt (Nat.lt_of_lt_of_le (by have := World.block_lt_of_cell? _ _ hw296_1; first | rwa [add_block] at this | exact this) GW297.out)) | (dsimp only; exact Nat.ne_of_lt (Nat.lt_of_lt_of_le (by have := World.block_lt_of_cell? _ _ hw296_1; first | rwa [add_block] at this | exact this) GW297.out))) _).trans (((cell_far (p := ⟨gb297, _, none⟩) (by first | exact Nat.ne_of_lt (Nat.lt_of_lt_of_le (by have := World.block_lt_of_cell? _ _ hw296_1; first | rwa [add_block] at this | exact this) GW297.out) | (rw [add_block]; exact Nat.ne_of_lt (Nat.lt_of_lt_of_le (by have := World.block_lt_of_cell? _ _ hw296_1; first | rwa [add_block] at this | exact this) GW297.out)) | (show (Addr.add _ _).block ≠ _; rw [add_block]; exact Nat.ne_of_lt (Nat.lt_of_lt_of_le (by have := World.block_lt_of_cell? _ _ hw296_1; first | rwa [add_block] at this | exact this) GW297.out)) | (dsimp only; exact Nat.ne_of_lt (Nat.lt_of_lt_of_le (by have := World.block_lt_of_cell? _ _ hw296_1; first | rwa [add_block] at this | exact this) GW297.out))) _).trans (((cell_far (p := ⟨gb297, _, none⟩) (by first | exact Nat.ne_of_lt (Nat.lt_of_lt_of_le (by have := World.block_lt_of_cell? _ _ hw296_1; first | rwa [add_block] at this | exact this) GW297.out) | (rw [add_block]; exact Nat.ne_of_lt (Nat.lt_of_lt_of_le (by have := World.block_lt_of_cell? _ _ hw296_1; first | rwa [add_block] at this | exact this) GW297.out)) | (show (Addr.add _ _).block ≠ _; rw [add_block]; exact Nat.ne_of_lt (Nat.lt_of_lt_of_le (by have := World.block_lt_of_cell? _ _ hw296_1; first | rwa [add_block] at this | exact this) GW297.out)) | (dsimp only; exact Nat.ne_of_lt (Nat.lt_of_lt_of_le (by have := World.block_lt_of_cell? _ _ hw296_1; first | rwa [add_block] at this | exact this) GW297.out))) _).trans (((cell_far (p := ⟨gb297, _, none⟩) (by first | exact Nat.ne_of_lt (Nat.lt_of_lt_of_le (by have := World.block_lt_of_cell? _ _ hw296_1; first | rwa [add_block] at this | exact this) GW297.out) | (rw [add_block]; exact Nat.ne_of_lt (Nat.lt_of_lt_of_le (by have := World.block_lt_of_cell? _ _ hw296_1; first | rwa [add_block] at this | exact this) GW297.out)) | (show (Addr.add _ _).block ≠ _; rw [add_block]; exact Nat.ne_of_lt (Nat.lt_of_lt_of_le (by have := World.block_lt_of_cell? _ _ hw296_1; first | rwa [add_block] at this | exact this) GW297.out)) | (dsimp only; exact Nat.ne_of_lt (Nat.lt_of_lt_of_le (by have := World.block_lt_of_cell? _ _ hw296_1; first | rwa [add_block] at this | exact this) GW297.out))) _).trans (((cell_far (p := ⟨gb297, _, none⟩) (by first | exact Nat.ne_of_lt (Nat.lt_of_lt_of_le (by have := World.block_lt_of_cell? _ _ hw296_1; first | rwa [add_block] at this | exact this) GW297.out) | (rw [add_block]; exact Nat.ne_of_lt (Nat.lt_of_lt_of_le (by have := World.block_lt_of_cell? _ _ hw296_1; first | rwa [add_block] at this | exact this) GW297.out)) | (show (Addr.add _ _).block ≠ _; rw [add_block]; exact Nat.ne_of_lt (Nat.lt_of_lt_of_le (by have := World.block_lt_of_cell? _ _ hw296_1; first | rwa [add_block] at this | exact this) GW297.out)) | (dsimp only; exact Nat.ne_of_lt (Nat.lt_of_lt_of_le (by have := World.block_lt_of_cell? _ _ hw296_1; first | rwa [add_block] at this | exact this) GW297.out))) _).trans (hHeld.2.2.2.2.2.2.2.2.2.2.2.2.2.2.2.2.2.2.2.2.2.2.1)))))))))), ((cell_far (p := ⟨gb297, _, none⟩) (by first | exact Nat.ne_of_lt (Nat.lt_of_lt_of_le (by have := World.block_lt_of_cell? _ _ hw296_2; first | rwa [add_block] at this | exact this) GW297.out) | (rw [add_block]; exact Nat.ne_of_lt (Nat.lt_of_lt_of_le (by have := World.block_lt_of_cell? _ _ hw296_2; first | rwa [add_block] at this | exact this) GW297.out)) | (show (Addr.add _ _).block ≠ _; rw [add_block]; exact Nat.ne_of_lt (Nat.lt_of_lt_of_le (by have := World.block_lt_of_cell? _ _ hw296_2; first | rwa [add_block] at this | exact this) GW297.out)) | (dsimp only; exact Nat.ne_of_lt (Nat.lt_of_lt_of_le (by have := World.block_lt_of_cell? _ _ hw296_2; first | rwa [add_block] at this | exact this) GW297.out))) _).trans (((cell_far (p := ⟨gb297, _, none⟩) (by first | exact Nat.ne_of_lt (Nat.lt_of_lt_of_le (by have := World.block_lt_of_cell? _ _ hw296_2; first | rwa [add_block] at this | exact this) GW297.out) | (rw [add_block]; exact Nat.ne_of_lt (Nat.lt_of_lt_of_le (by have := World.block_lt_of_cell? _ _ hw296_2; first | rwa [add_block] at this | exact this) GW297.out)) | (show (Addr.add _ _).block ≠ _; rw [add_block]; exact Nat.ne_of_lt (Nat.lt_of_lt_of_le (by have := World.block_lt_of_cell? _ _ hw296_2; first | rwa [add_block] at this | exact this) GW297.out)) | (dsimp only; exact Nat.ne_of_lt (Nat.lt_of_lt_of_le (by have := World.block_lt_of_cell? _ _ hw296_2; first | rwa [add_block] at this | exact this) GW297.out))) _).trans (((cell_far (p := ⟨gb297, _, none⟩) (by first | exact Nat.ne_of_lt (Nat.lt_of_lt_of_le (by have := World.block_lt_of_cell? _ _ hw296_2; first | rwa [add_block] at this | exact this) GW297.out) | (rw [add_block]; exact Nat.ne_of_lt (Nat.lt_of_lt_of_le (by have := World.block_lt_of_cell? _ _ hw296_2; first | rwa [add_block] at this | exact this) GW297.out)) | (show (Addr.add _ _).block ≠ _; rw [add_block]; exact Nat.ne_of_lt (Nat.lt_of_lt_of_le (by have := World.block_lt_of_cell? _ _ hw296_2; first | rwa [add_block] at this | exact this) GW297.out)) | (dsimp only; exact Nat.ne_of_lt (Nat.lt_of_lt_of_le (by have := World.block_lt_of_cell? _ _ hw296_2; first | rwa [add_block] at this | exact this) GW297.out))) _).trans (((cell_far (p := ⟨gb297, _, none⟩) (by first | exact Nat.ne_of_lt (Nat.lt_of_lt_of_le (by have := World.block_lt_of_cell? _ _ hw296_2; first | rwa [add_block] at this | exact this) GW297.out) | (rw [add_block]; exact Nat.ne_of_lt (Nat.lt_of_lt_of_le (by have := World.block_lt_of_cell? _ _ hw296_2; first | rwa [add_block] at this | exact this) GW297.out)) | (show (Addr.add _ _).block ≠ _; rw [add_block]; exact Nat.ne_of_lt (Nat.lt_of_lt_of_le (by have := World.block_lt_of_cell? _ _ hw296_2; first | rwa [add_block] at this | exact this) GW297.out)) | (dsimp only; exact Nat.ne_of_lt (Nat.lt_of_lt_of_le (by have := World.block_lt_of_cell? _ _ hw296_2; first | rwa [add_block] at this | exact this) GW297.out))) _).trans (((cell_far (p := ⟨gb297, _, none⟩) (by first | exact Nat.ne_of_lt (Nat.lt_of_lt_of_le (by have := World.block_lt_of_cell? _ _ hw296_2; first | rwa [add_block] at this | exact this) GW297.out) | (rw [add_block]; exact Nat.ne_of_lt (Nat.lt_of_lt_of_le (by have := World.block_lt_of_cell? _ _ hw296_2; first | rwa [add_block] at this | exact this) GW297.out)) | (show (Addr.add _ _).block ≠ _; rw [add_block]; exact Nat.ne_of_lt (Nat.lt_of_lt_of_le (by have := World.block_lt_of_cell? _ _ hw296_2; first | rwa [add_block] at this | exact this) GW297.out)) | (dsimp only; exact Nat.ne_of_lt (Nat.lt_of_lt_of_le (by have := World.block_lt_of_cell? _ _ hw296_2; first | rwa [add_block] at this | exact this) GW297.out))) _).trans (hHeld.2.2.2.2.2.2.2.2.2.2.2.2.2.2.2.2.2.2.2.2.2.2.2.1)))))))))), ((cell_far (p := ⟨gb297, _, none⟩) (by first | exact Nat.ne_of_lt (Nat.lt_of_lt_of_le (by have := World.block_lt_of_cell? _ _ hw296_3; first | rwa [add_block] at this | exact this) GW297.out) | (rw [add_block]; exact Nat.ne_of_lt (Nat.lt_of_lt_of_le (by have := World.block_lt_of_cell? _ _ hw296_3; first | rwa [add_block] at this | exact this) GW297.out)) | (show (Addr.add _ _).block ≠ _; rw [add_block]; exact Nat.ne_of_lt (Nat.lt_of_lt_of_le (by have := World.block_lt_of_cell? _ _ hw296_3; first | rwa [add_block] at this | exact this) GW297.out)) | (dsimp only; exact Nat.ne_of_lt (Nat.lt_of_lt_of_le (by have := World.block_lt_of_cell? _ _ hw296_3; first | rwa [add_block] at this | exact this) GW297.out))) _).trans (((cell_far (p := ⟨gb297, _, none⟩) (by first | exact Nat.ne_of_lt (Nat.lt_of_lt_of_le (by have := World.block_lt_of_cell? _ _ hw296_3; first | rwa [add_block] at this | exact this) GW297.out) | (rw [add_block]; exact Nat.ne_of_lt (Nat.lt_of_lt_of_le (by have := World.block_lt_of_cell? _ _ hw296_3; first | rwa [add_block] at this | exact this) GW297.out)) | (show (Addr.add _ _).block ≠ _; rw [add_block]; exact Nat.ne_of_lt (Nat.lt_of_lt_of_le (by have := World.block_lt_of_cell? _ _ hw296_3; first | rwa [add_block] at this | exact this) GW297.out)) | (dsimp only; exact Nat.ne_of_lt (Nat.lt_of_lt_of_le (by have := World.block_lt_of_cell? _ _ hw296_3; first | rwa [add_block] at this | exact this) GW297.out))) _).trans (((cell_far (p := ⟨gb297, _, none⟩) (by first | exact Nat.ne_of_lt (Nat.lt_of_lt_of_le (by have := World.block_lt_of_cell? _ _ hw296_3; first | rwa [add_block] at this | exact this) GW297.out) | (rw [add_block]; exact Nat.ne_of_lt (Nat.lt_of_lt_of_le (by have := World.block_lt_of_cell? _ _ hw296_3; first | rwa [add_block] at this | exact this) GW297.out)) | (show (Addr.add _ _).block ≠ _; rw [add_block]; exact Nat.ne_of_lt (Nat.lt_of_lt_of_le (by have := World.block_lt_of_cell? _ _ hw296_3; first | rwa [add_block] at this | exact this) GW297.out)) | (dsimp only; exact Nat.ne_of_lt (Nat.lt_of_lt_of_le (by have := World.block_lt_of_cell? _ _ hw296_3; first | rwa [add_block] at this | exact this) GW297.out))) _).trans (((cell_far (p := ⟨gb297, _, none⟩) (by first | exact Nat.ne_of_lt (Nat.lt_of_lt_of_le (by have := World.block_lt_of_cell? _ _ hw296_3; first | rwa [add_block] at this | exact this) GW297.out) | (rw [add_block]; exact Nat.ne_of_lt (Nat.lt_of_lt_of_le (by have := World.block_lt_of_cell? _ _ hw296_3; first | rwa [add_block] at this | exact this) GW297.out)) | (show (Addr.add _ _).block ≠ _; rw [add_block]; exact Nat.ne_of_lt (Nat.lt_of_lt_of_le (by have := World.block_lt_of_cell? _ _ hw296_3; first | rwa [add_block] at this | exact this) GW297.out)) | (dsimp only; exact Nat.ne_of_lt (Nat.lt_of_lt_of_le (by have := World.block_lt_of_cell? _ _ hw296_3; first | rwa [add_block] at this | exact this) GW297.out))) _).trans (((cell_far (p := ⟨gb297, _, none⟩) (by first | exact Nat.ne_of_lt (Nat.lt_of_lt_of_le (by have := World.block_lt_of_cell? _ _ hw296_3; first | rwa [add_block] at this | exact this) GW297.out) | (rw [add_block]; exact Nat.ne_of_lt (Nat.lt_of_lt_of_le (by have := World.block_lt_of_cell? _ _ hw296_3; first | rwa [add_block] at this | exact this) GW297.out)) | (show (Addr.add _ _).block ≠ _; rw [add_block]; exact Nat.ne_of_lt (Nat.lt_of_lt_of_le (by have := World.block_lt_of_cell? _ _ hw296_3; first | rwa [add_block] at this | exact this) GW297.out)) | (dsimp only; exact Nat.ne_of_lt (Nat.lt_of_lt_of_le (by have := World.block_lt_of_cell? _ _ hw296_3; first | rwa [add_block] at this | exact this) GW297.out))) _).trans (hHeld.2.2.2.2.2.2.2.2.2.2.2.2.2.2.2.2.2.2.2.2.2.2.2.2.1)))))))))), ((cell_far (p := ⟨gb297, _, none⟩) (by first | exact Nat.ne_of_lt (Nat.lt_of_lt_of_le (by have := World.block_lt_of_cell? _ _ hw296_4; first | rwa [add_block] at this | exact this) GW297.out) | (rw [add_block]; exact Nat.ne_of_lt (Nat.lt_of_lt_of_le (by have := World.block_lt_of_cell? _ _ hw296_4; first | rwa [add_block] at this | exact this) GW297.out)) | (show (Addr.add _ _).block ≠ _; rw [add_block]; exact Nat.ne_of_lt (Nat.lt_of_lt_of_le (by have := World.block_lt_of_cell? _ _ hw296_4; first | rwa [add_block] at this | exact this) GW297.out)) | (dsimp only; exact Nat.ne_of_lt (Nat.lt_of_lt_of_le (by have := World.block_lt_of_cell? _ _ hw296_4; first | rwa [add_block] at this | exact this) GW297.out))) _).trans (((cell_far (p := ⟨gb297, _, none⟩) (by first | exact Nat.ne_of_lt (Nat.lt_of_lt_of_le (by have := World.block_lt_of_cell? _ _ hw296_4; first | rwa [add_block] at this | exact this) GW297.out) | (rw [add_block]; exact Nat.ne_of_lt (Nat.lt_of_lt_of_le (by have := World.block_lt_of_cell? _ _ hw296_4; first | rwa [add_block] at this | exact this) GW297.out)) | (show (Addr.add _ _).block ≠ _; rw [add_block]; exact Nat.ne_of_lt (Nat.lt_of_lt_of_le (by have := World.block_lt_of_cell? _ _ hw296_4; first | rwa [add_block] at this | exact this) GW297.out)) | (dsimp only; exact Nat.ne_of_lt (Nat.lt_of_lt_of_le (by have := World.block_lt_of_cell? _ _ hw296_4; first | rwa [add_block] at this | exact this) GW297.out))) _).trans (((cell_far (p := ⟨gb297, _, none⟩) (by first | exact Nat.ne_of_lt (Nat.lt_of_lt_of_le (by have := World.block_lt_of_cell? _ _ hw296_4; first | rwa [add_block] at this | exact this) GW297.out) | (rw [add_block]; exact Nat.ne_of_lt (Nat.lt_of_lt_of_le (by have := World.block_lt_of_cell? _ _ hw296_4; first | rwa [add_block] at this | exact this) GW297.out)) | (show (Addr.add _ _).block ≠ _; rw [add_block]; exact Nat.ne_of_lt (Nat.lt_of_lt_of_le (by have := World.block_lt_of_cell? _ _ hw296_4; first | rwa [add_block] at this | exact this) GW297.out)) | (dsimp only; exact Nat.ne_of_lt (Nat.lt_of_lt_of_le (by have := World.block_lt_of_cell? _ _ hw296_4; first | rwa [add_block] at this | exact this) GW297.out))) _).trans (((cell_far (p := ⟨gb297, _, none⟩) (by first | exact Nat.ne_of_lt (Nat.lt_of_lt_of_le (by have := World.block_lt_of_cell? _ _ hw296_4; first | rwa [add_block] at this | exact this) GW297.out) | (rw [add_block]; exact Nat.ne_of_lt (Nat.lt_of_lt_of_le (by have := World.block_lt_of_cell? _ _ hw296_4; first | rwa [add_block] at this | exact this) GW297.out)) | (show (Addr.add _ _).block ≠ _; rw [add_block]; exact Nat.ne_of_lt (Nat.lt_of_lt_of_le (by have := World.block_lt_of_cell? _ _ hw296_4; first | rwa [add_block] at this | exact this) GW297.out)) | (dsimp only; exact Nat.ne_of_lt (Nat.lt_of_lt_of_le (by have := World.block_lt_of_cell? _ _ hw296_4; first | rwa [add_block] at this | exact this) GW297.out))) _).trans (((cell_far (p := ⟨gb297, _, none⟩) (by first | exact Nat.ne_of_lt (Nat.lt_of_lt_of_le (by have := World.block_lt_of_cell? _ _ hw296_4; first | rwa [add_block] at this | exact this) GW297.out) | (rw [add_block]; exact Nat.ne_of_lt (Nat.lt_of_lt_of_le (by have := World.block_lt_of_cell? _ _ hw296_4; first | rwa [add_block] at this | exact this) GW297.out)) | (show (Addr.add _ _).block ≠ _; rw [add_block]; exact Nat.ne_of_lt (Nat.lt_of_lt_of_le (by have := World.block_lt_of_cell? _ _ hw296_4; first | rwa [add_block] at this | exact this) GW297.out)) | (dsimp only; exact Nat.ne_of_lt (Nat.lt_of_lt_of_le (by have := World.block_lt_of_cell? _ _ hw296_4; first | rwa [add_block] at this | exact this) GW297.out))) _).trans (hHeld.2.2.2.2.2.2.2.2.2.2.2.2.2.2.2.2.2.2.2.2.2.2.2.2.2))))))))))⟩ (fun hHeld => ?_); clear hK K; refine one_ (i := 13) (N := none) (mk_ 14 14) rfl rfl (one_of HT_.out (by kernel_rfl)) (by decide) (fun K hK => ?_); have hs69 : w63.cell? ⟨gb298, 0, none⟩ = some (.string (⟨#[]⟩ : ByteArray)) := (blk_cell BK298.out 0).trans rfl; have hfs69 := blk_frozen BK298.out 0; have hns69_0 := NB290_298.out; have hns69_1 := NB291_298.out; have hns69_2 := NB297_298.out; have hms69_0 := NB298_290.out; have hms69_1 := NB298_291.out; have hms69_2 := NB298_297.out; have hs70 : w63.cell? ⟨gb298, 1, none⟩ = some (.bool false) := (blk_cell BK298.out 1).trans rfl; have hfs70 := blk_frozen BK298.out 1; have hns70_0 := NB290_298.out; have hns70_1 := NB291_298.out; have hns70_2 := NB297_298.out; have hms70_0 := NB298_290.out; have hms70_1 := NB298_291.out; have hms70_2 := NB298_297.out; have hs71 : w63.cell? ⟨gb298, 2, none⟩ = some (.slice none 0 0) := (blk_cell BK298.out 2).trans rfl; have hfs71 := blk_frozen BK298.out 2; have hns71_0 := NB290_298.out; have hns71_1 := NB291_298.out; have hns71_2 := NB297_298.out; have hms71_0 := NB298_290.out; have hms71_1 := NB298_291.out; have hms71_2 := NB298_297.out; have hs72 : w63.cell? ⟨gb298, 3, none⟩ = some (.slice none 0 0) := (blk_cell BK298.out 3).trans rfl; have hfs72 := blk_frozen BK298.out 3; have hns72_0 := NB290_298.out; have hns72_1 := NB291_298.out; have hns72_2 := NB297_298.out; have hms72_0 := NB298_290.out; have hms72_1 := NB298_291.out; have hms72_2 := NB298_297.out; have hs73 : w63.cell? ⟨gb298, 4, none⟩ = some (.int .i64 0) := (blk_cell BK298.out 4).trans rfl; have hfs73 := blk_frozen BK298.out 4; have hns73_0 := NB290_298.out; have hns73_1 := NB291_298.out; have hns73_2 := NB297_298.out; have hms73_0 := NB298_290.out; have hms73_1 := NB298_291.out; have hms73_2 := NB298_297.out; refine skip_ (w1 := ?_) (by rfl) rfl ?_ ?_; rotate_left
       ·
        go_simp
        rfl
       refine hK.out _ _ ⟨((cell_far (p := ⟨gb298, _, none⟩) NB290_298.out _).trans (((cell_far (p := ⟨gb298, _, none⟩) NB290_298.out _).trans (((cell_far (p := ⟨gb298, _, none⟩) NB290_298.out _).trans (((cell_far (p := ⟨gb298, _, none⟩) NB290_298.out _).trans (((cell_far (p := ⟨gb298, _, none⟩) NB290_298.out _).trans (hHeld.1)))))))))), ((cell_far (p := ⟨gb298, _, none⟩) NB290_298.out _).trans (((cell_far (p := ⟨gb298, _, none⟩) NB290_298.out _).trans (((cell_far (p := ⟨gb298, _, none⟩) NB290_298.out _).trans (((cell_far (p := ⟨gb298, _, none⟩) NB290_298.out _).trans (((cell_far (p := ⟨gb298, _, none⟩) NB290_298.out _).trans (hHeld.2.1)))))))))), ((cell_far (p := ⟨gb298, _, none⟩) NB290_298.out _).trans (((cell_far (p := ⟨gb298, _, none⟩) NB290_298.out _).trans (((cell_far (p := ⟨gb298, _, none⟩) NB290_298.out _).trans (((cell_far (p := ⟨gb298, _, none⟩) NB290_298.out _).trans (((cell_far (p := ⟨gb298, _, none⟩) NB290_298.out _).trans (hHeld.2.2.1)))))))))), ((cell_far (p := ⟨gb298, _, none⟩) NB290_298.out _).trans (((cell_far (p := ⟨gb298, _, none⟩) NB290_298.out _).trans (((cell_far (p := ⟨gb298, _, none⟩) NB290_298.out _).trans (((cell_far (p := ⟨gb298, _, none⟩) NB290_298.out _).trans (((cell_far (p := ⟨gb298, _, none⟩) NB290_298.out _).trans (hHeld.2.2.2.1)))))))))), ((cell_far (p := ⟨gb298, _, none⟩) NB290_298.out _).trans (((cell_far (p := ⟨gb298, _, none⟩) NB290_298.out _).trans (((cell_far (p := ⟨gb298, _, none⟩) NB290_298.out _).trans (((cell_far (p := ⟨gb298, _, none⟩) NB290_298.out _).trans (((cell_far (p := ⟨gb298, _, none⟩) NB290_298.out _).trans (hHeld.2.2.2.2.1)))))))))), ((cell_far (p := ⟨gb298, _, none⟩) NB290_298.out _).trans (((cell_far (p := ⟨gb298, _, none⟩) NB290_298.out _).trans (((cell_far (p := ⟨gb298, _, none⟩) NB290_298.out _).trans (((cell_far (p := ⟨gb298, _, none⟩) NB290_298.out _).trans (((cell_far (p := ⟨gb298, _, none⟩) NB290_298.out _).trans (hHeld.2.2.2.2.2.1)))))))))), ((cell_far (p := ⟨gb298, _, none⟩) NB290_298.out _).trans (((cell_far (p := ⟨gb298, _, none⟩) NB290_298.out _).trans (((cell_far (p := ⟨gb298, _, none⟩) NB290_298.out _).trans (((cell_far (p := ⟨gb298, _, none⟩) NB290_298.out _).trans (((cell_far (p := ⟨gb298, _, none⟩) NB290_298.out _).trans (hHeld.2.2.2.2.2.2.1)))))))))), ((cell_far (p := ⟨gb298, _, none⟩) NB290_298.out _).trans (((cell_far (p := ⟨gb298, _, none⟩) NB290_298.out _).trans (((cell_far (p := ⟨gb298, _, none⟩) NB290_298.out _).trans (((cell_far (p := ⟨gb298, _, none⟩) NB290_298.out _).trans (((cell_far (p := ⟨gb298, _, none⟩) NB290_298.out _).trans (hHeld.2.2.2.2.2.2.2.1)))))))))), ((cell_far (p := ⟨gb298, _, none⟩) NB291_298.out _).trans (((cell_far (p := ⟨gb298, _, none⟩) NB291_298.out _).trans (((cell_far (p := ⟨gb298, _, none⟩) NB291_298.out _).trans (((cell_far (p := ⟨gb298, _, none⟩) NB291_298.out _).trans (((cell_far (p := ⟨gb298, _, none⟩) NB291_298.out _).trans (hHeld.2.2.2.2.2.2.2.2.1)))))))))), ((cell_far (p := ⟨gb298, _, none⟩) NB291_298.out _).trans (((cell_far (p := ⟨gb298, _, none⟩) NB291_298.out _).trans (((cell_far (p := ⟨gb298, _, none⟩) NB291_298.out _).trans (((cell_far (p := ⟨gb298, _, none⟩) NB291_298.out _).trans (((cell_far (p := ⟨gb298, _, none⟩) NB291_298.out _).trans (hHeld.2.2.2.2.2.2.2.2.2.1)))))))))), ((cell_far (p := ⟨gb298, _, none⟩) NB291_298.out _).trans (((cell_far (p := ⟨gb298, _, none⟩) NB291_298.out _).trans (((cell_far (p := ⟨gb298, _, none⟩) NB291_298.out _).trans (((cell_far (p := ⟨gb298, _, none⟩) NB291_298.out _).trans (((cell_far (p := ⟨gb298, _, none⟩) NB291_298.out _).trans (hHeld.2.2.2.2.2.2.2.2.2.2.1)))))))))), ((cell_far (p := ⟨gb298, _, none⟩) NB291_298.out _).trans (((cell_far (p := ⟨gb298, _, none⟩) NB291_298.out _).trans (((cell_far (p := ⟨gb298, _, none⟩) NB291_298.out _).trans (((cell_far (p := ⟨gb298, _, none⟩) NB291_298.out _).trans (((cell_far (p := ⟨gb298, _, none⟩) NB291_298.out _).trans (hHeld.2.2.2.2.2.2.2.2.2.2.2.1)))))))))), ((cell_far (p := ⟨gb298, _, none⟩) NB291_298.out _).trans (((cell_far (p := ⟨gb298, _, none⟩) NB291_298.out _).trans (((cell_far (p := ⟨gb298, _, none⟩) NB291_298.out _).trans (((cell_far (p := ⟨gb298, _, none⟩) NB291_298.out _).trans (((cell_far (p := ⟨gb298, _, none⟩) NB291_298.out _).trans (hHeld.2.2.2.2.2.2.2.2.2.2.2.2.1)))))))))), ((cell_far (p := ⟨gb298, _, none⟩) NB291_298.out _).trans (((cell_far (p := ⟨gb298, _, none⟩) NB291_298.out _).trans (((cell_far (p := ⟨gb298, _, none⟩) NB291_298.out _).trans (((cell_far (p := ⟨gb298, _, none⟩) NB291_298.out _).trans (((cell_far (p := ⟨gb298, _, none⟩) NB291_298.out _).trans (hHeld.2.2.2.2.2.2.2.2.2.2.2.2.2.1)))))))))), ((cell_far (p := ⟨gb298, _, none⟩) NB291_298.out _).trans (((cell_far (p := ⟨gb298, _, none⟩) NB291_298.out _).trans (((cell_far (p := ⟨gb298, _, none⟩) NB291_298.out _).trans (((cell_far (p := ⟨gb298, _, none⟩) NB291_298.out _).trans (((cell_far (p := ⟨gb298, _, none⟩) NB291_298.out _).trans (hHeld.2.2.2.2.2.2.2.2.2.2.2.2.2.2.1)))))))))), ((cell_far (p := ⟨gb298, _, none⟩) NB291_298.out _).trans (((cell_far (p := ⟨gb298, _, none⟩) NB291_298.out _).trans (((cell_far (p := ⟨gb298, _, none⟩) NB291_298.out _).trans (((cell_far (p := ⟨gb298, _, none⟩) NB291_298.out _).trans (((cell_far (p := ⟨gb298, _, none⟩) NB291_298.out _).trans (hHeld.2.2.2.2.2.2.2.2.2.2.2.2.2.2.2.1)))))))))), ((cell_far (p := ⟨gb298, _, none⟩) (by first | exact Nat.ne_of_lt (Nat.lt_of_lt_of_le (by have := World.block_lt_of_cell? _ _ hw295_0; first | rwa [add_block] at this | exact this) GW298.out) | (rw [add_block]; exact Nat.ne_of_lt (Nat.lt_of_lt_of_le (by have := World.block_lt_of_cell? _ _ hw295_0; first | rwa [add_block] at this | exact this) GW298.out)) | (show (Addr.add _ _).block ≠ _; rw [add_block]; exact Nat.ne_of_lt (Nat.lt_of_lt_of_le (by have := World.block_lt_of_cell? _ _ hw295_0; first | rwa [add_block] at this | exact this) GW298.out)) | (dsimp only; exact Nat.ne_of_lt (Nat.lt_of_lt_of_le (by have := World.block_lt_of_cell? _ _ hw295_0; first | rwa [add_block] at this | exact this) GW298.out))) _).trans (((cell_far (p := ⟨gb298, _, none⟩) (by first | exact Nat.ne_of_lt (Nat.lt_of_lt_of_le (by have := World.block_lt_of_cell? _ _ hw295_0; first | rwa [add_block] at this | exact this) GW298.out) | (rw [add_block]; exact Nat.ne_of_lt (Nat.lt_of_lt_of_le (by have := World.block_lt_of_cell? _ _ hw295_0; first | rwa [add_block] at this | exact this) GW298.out)) | (show (Addr.add _ _).block ≠ _; rw [add_block]; exact Nat.ne_of_lt (Nat.lt_of_lt_of_le (by have := World.block_lt_of_cell? _ _ hw295_0; first | rwa [add_block] at this | exact this) GW298.out)) | (dsimp only; exact Nat.ne_of_lt (Nat.lt_of_lt_of_le (by have := World.block_lt_of_cell? _ _ hw295_0; first | rwa [add_block] at this | exact this) GW298.out))) _).trans (((cell_far (p := ⟨gb298, _, none⟩) (by first | exact Nat.ne_of_lt (Nat.lt_of_lt_of_le (by have := World.block_lt_of_cell? _ _ hw295_0; first | rwa [add_block] at this | exact this) GW298.out) | (rw [add_block]; exact Nat.ne_of_lt (Nat.lt_of_lt_of_le (by have := World.block_lt_of_cell? _ _ hw295_0; first | rwa [add_block] at this | exact this) GW298.out)) | (show (Addr.add _ _).block ≠ _; rw [add_block]; exact Nat.ne_of_lt (Nat.lt_of_lt_of_le (by have := World.block_lt_of_cell? _ _ hw295_0; first | rwa [add_block] at this | exact this) GW298.out)) | (dsimp only; exact Nat.ne_of_lt (Nat.lt_of_lt_of_le (by have := World.block_lt_of_cell? _ _ hw295_0; first | rwa [add_block] at this | exact this) GW298.out))) _).trans (((cell_far (p := ⟨gb298, _, none⟩) (by first | exact Nat.ne_of_lt (Nat.lt_of_lt_of_le (by have := World.block_lt_of_cell? _ _ hw295_0; first | rwa [add_block] at this | exact this) GW298.out) | (rw [add_block]; exact Nat.ne_of_lt (Nat.lt_of_lt_of_le (by have := World.block_lt_of_cell? _ _ hw295_0; first | rwa [add_block] at this | exact this) GW298.out)) | (show (Addr.add _ _).block ≠ _; rw [add_block]; exact Nat.ne_of_lt (Nat.lt_of_lt_of_le (by have := World.block_lt_of_cell? _ _ hw295_0; first | rwa [add_block] at this | exact this) GW298.out)) | (dsimp only; exact Nat.ne_of_lt (Nat.lt_of_lt_of_le (by have := World.block_lt_of_cell? _ _ hw295_0; first | rwa [add_block] at this | exact this) GW298.out))) _).trans (((cell_far (p := ⟨gb298, _, none⟩) (by first | exact Nat.ne_of_lt (Nat.lt_of_lt_of_le (by have := World.block_lt_of_cell? _ _ hw295_0; first | rwa [add_block] at this | exact this) GW298.out) | (rw [add_block]; exact Nat.ne_of_lt (Nat.lt_of_lt_of_le (by have := World.block_lt_of_cell? _ _ hw295_0; first | rwa [add_block] at this | exact this) GW298.out)) | (show (Addr.add _ _).block ≠ _; rw [add_block]; exact Nat.ne_of_lt (Nat.lt_of_lt_of_le (by have := World.block_lt_of_cell? _ _ hw295_0; first | rwa [add_block] at this | exact this) GW298.out)) | (dsimp only; exact Nat.ne_of_lt (Nat.lt_of_lt_of_le (by have := World.block_lt_of_cell? _ _ hw295_0; first | rwa [add_block] at this | exact this) GW298.out))) _).trans (hHeld.2.2.2.2.2.2.2.2.2.2.2.2.2.2.2.2.1)))))))))), ((cell_far (p := ⟨gb298, _, none⟩) (by first | exact Nat.ne_of_lt (Nat.lt_of_lt_of_le (by have := World.block_lt_of_cell? _ _ hw295_1; first | rwa [add_block] at this | exact this) GW298.out) | (rw [add_block]; exact Nat.ne_of_lt (Nat.lt_of_lt_of_le (by have := World.block_lt_of_cell? _ _ hw295_1; first | rwa [add_block] at this | exact this) GW298.out)) | (show (Addr.add _ _).block ≠ _; rw [add_block]; exact Nat.ne_of_lt (Nat.lt_of_lt_of_le (by have := World.block_lt_of_cell? _ _ hw295_1; first | rwa [add_block] at this | exact this) GW298.out)) | (dsimp only; exact Nat.ne_of_lt (Nat.lt_of_lt_of_le (by have := World.block_lt_of_cell? _ _ hw295_1; first | rwa [add_block] at this | exact this) GW298.out))) _).trans (((cell_far (p := ⟨gb298, _, none⟩) (by first | exact Nat.ne_of_lt (Nat.lt_of_lt_of_le (by have := World.block_lt_of_cell? _ _ hw295_1; first | rwa [add_block] at this | exact this) GW298.out) | (rw [add_block]; exact Nat.ne_of_lt (Nat.lt_of_lt_of_le (by have := World.block_lt_of_cell? _ _ hw295_1; first | rwa [add_block] at this | exact this) GW298.out)) | (show (Addr.add _ _).block ≠ _; rw [add_block]; exact Nat.ne_of_lt (Nat.lt_of_lt_of_le (by have := World.block_lt_of_cell? _ _ hw295_1; first | rwa [add_block] at this | exact this) GW298.out)) | (dsimp only; exact Nat.ne_of_lt (Nat.lt_of_lt_of_le (by have := World.block_lt_of_cell? _ _ hw295_1; first | rwa [add_block] at this | exact this) GW298.out))) _).trans (((cell_far (p := ⟨gb298, _, none⟩) (by first | exact Nat.ne_of_lt (Nat.lt_of_lt_of_le (by have := World.block_lt_of_cell? _ _ hw295_1; first | rwa [add_block] at this | exact this) GW298.out) | (rw [add_block]; exact Nat.ne_of_lt (Nat.lt_of_lt_of_le (by have := World.block_lt_of_cell? _ _ hw295_1; first | rwa [add_block] at this | exact this) GW298.out)) | (show (Addr.add _ _).block ≠ _; rw [add_block]; exact Nat.ne_of_lt (Nat.lt_of_lt_of_le (by have := World.block_lt_of_cell? _ _ hw295_1; first | rwa [add_block] at this | exact this) GW298.out)) | (dsimp only; exact Nat.ne_of_lt (Nat.lt_of_lt_of_le (by have := World.block_lt_of_cell? _ _ hw295_1; first | rwa [add_block] at this | exact this) GW298.out))) _).trans (((cell_far (p := ⟨gb298, _, none⟩) (by first | exact Nat.ne_of_lt (Nat.lt_of_lt_of_le (by have := World.block_lt_of_cell? _ _ hw295_1; first | rwa [add_block] at this | exact this) GW298.out) | (rw [add_block]; exact Nat.ne_of_lt (Nat.lt_of_lt_of_le (by have := World.block_lt_of_cell? _ _ hw295_1; first | rwa [add_block] at this | exact this) GW298.out)) | (show (Addr.add _ _).block ≠ _; rw [add_block]; exact Nat.ne_of_lt (Nat.lt_of_lt_of_le (by have := World.block_lt_of_cell? _ _ hw295_1; first | rwa [add_block] at this | exact this) GW298.out)) | (dsimp only; exact Nat.ne_of_lt (Nat.lt_of_lt_of_le (by have := World.block_lt_of_cell? _ _ hw295_1; first | rwa [add_block] at this | exact this) GW298.out))) _).trans (((cell_far (p := ⟨gb298, _, none⟩) (by first | exact Nat.ne_of_lt (Nat.lt_of_lt_of_le (by have := World.block_lt_of_cell? _ _ hw295_1; first | rwa [add_block] at this | exact this) GW298.out) | (rw [add_block]; exact Nat.ne_of_lt (Nat.lt_of_lt_of_le (by have := World.block_lt_of_cell? _ _ hw295_1; first | rwa [add_block] at this | exact this) GW298.out)) | (show (Addr.add _ _).block ≠ _; rw [add_block]; exact Nat.ne_of_lt (Nat.lt_of_lt_of_le (by have := World.block_lt_of_cell? _ _ hw295_1; first | rwa [add_block] at this | exact this) GW298.out)) | (dsimp only; exact Nat.ne_of_lt (Nat.lt_of_lt_of_le (by have := World.block_lt_of_cell? _ _ hw295_1; first | rwa [add_block] at this | exact this) GW298.out))) _).trans (hHeld.2.2.2.2.2.2.2.2.2.2.2.2.2.2.2.2.2.1)))))))))), ((cell_far (p := ⟨gb298, _, none⟩) (by first | exact Nat.ne_of_lt (Nat.lt_of_lt_of_le (by have := World.block_lt_of_cell? _ _ hw295_2; first | rwa [add_block] at this | exact this) GW298.out) | (rw [add_block]; exact Nat.ne_of_lt (Nat.lt_of_lt_of_le (by have := World.block_lt_of_cell? _ _ hw295_2; first | rwa [add_block] at this | exact this) GW298.out)) | (show (Addr.add _ _).block ≠ _; rw [add_block]; exact Nat.ne_of_lt (Nat.lt_of_lt_of_le (by have := World.block_lt_of_cell? _ _ hw295_2; first | rwa [add_block] at this | exact this) GW298.out)) | (dsimp only; exact Nat.ne_of_lt (Nat.lt_of_lt_of_le (by have := World.block_lt_of_cell? _ _ hw295_2; first | rwa [add_block] at this | exact this) GW298.out))) _).trans (((cell_far (p := ⟨gb298, _, none⟩) (by first | exact Nat.ne_of_lt (Nat.lt_of_lt_of_le (by have := World.block_lt_of_cell? _ _ hw295_2; first | rwa [add_block] at this | exact this) GW298.out) | (rw [add_block]; exact Nat.ne_of_lt (Nat.lt_of_lt_of_le (by have := World.block_lt_of_cell? _ _ hw295_2; first | rwa [add_block] at this | exact this) GW298.out)) | (show (Addr.add _ _).block ≠ _; rw [add_block]; exact Nat.ne_of_lt (Nat.lt_of_lt_of_le (by have := World.block_lt_of_cell? _ _ hw295_2; first | rwa [add_block] at this | exact this) GW298.out)) | (dsimp only; exact Nat.ne_of_lt (Nat.lt_of_lt_of_le (by have := World.block_lt_of_cell? _ _ hw295_2; first | rwa [add_block] at this | exact this) GW298.out))) _).trans (((cell_far (p := ⟨gb298, _, none⟩) (by first | exact Nat.ne_of_lt (Nat.lt_of_lt_of_le (by have := World.block_lt_of_cell? _ _ hw295_2; first | rwa [add_block] at this | exact this) GW298.out) | (rw [add_block]; exact Nat.ne_of_lt (Nat.lt_of_lt_of_le (by have := World.block_lt_of_cell? _ _ hw295_2; first | rwa [add_block] at this | exact this) GW298.out)) | (show (Addr.add _ _).block ≠ _; rw [add_block]; exact Nat.ne_of_lt (Nat.lt_of_lt_of_le (by have := World.block_lt_of_cell? _ _ hw295_2; first | rwa [add_block] at this | exact this) GW298.out)) | (dsimp only; exact Nat.ne_of_lt (Nat.lt_of_lt_of_le (by have := World.block_lt_of_cell? _ _ hw295_2; first | rwa [add_block] at this | exact this) GW298.out))) _).trans (((cell_far (p := ⟨gb298, _, none⟩) (by first | exact Nat.ne_of_lt (Nat.lt_of_lt_of_le (by have := World.block_lt_of_cell? _ _ hw295_2; first | rwa [add_block] at this | exact this) GW298.out) | (rw [add_block]; exact Nat.ne_of_lt (Nat.lt_of_lt_of_le (by have := World.block_lt_of_cell? _ _ hw295_2; first | rwa [add_block] at this | exact this) GW298.out)) | (show (Addr.add _ _).block ≠ _; rw [add_block]; exact Nat.ne_of_lt (Nat.lt_of_lt_of_le (by have := World.block_lt_of_cell? _ _ hw295_2; first | rwa [add_block] at this | exact this) GW298.out)) | (dsimp only; exact Nat.ne_of_lt (Nat.lt_of_lt_of_le (by have := World.block_lt_of_cell? _ _ hw295_2; first | rwa [add_block] at this | exact this) GW298.out))) _).trans (((cell_far (p := ⟨gb298, _, none⟩) (by first | exact Nat.ne_of_lt (Nat.lt_of_lt_of_le (by have := World.block_lt_of_cell? _ _ hw295_2; first | rwa [add_block] at this | exact this) GW298.out) | (rw [add_block]; exact Nat.ne_of_lt (Nat.lt_of_lt_of_le (by have := World.block_lt_of_cell? _ _ hw295_2; first | rwa [add_block] at this | exact this) GW298.out)) | (show (Addr.add _ _).block ≠ _; rw [add_block]; exact Nat.ne_of_lt (Nat.lt_of_lt_of_le (by have := World.block_lt_of_cell? _ _ hw295_2; first | rwa [add_block] at this | exact this) GW298.out)) | (dsimp only; exact Nat.ne_of_lt (Nat.lt_of_lt_of_le (by have := World.block_lt_of_cell? _ _ hw295_2; first | rwa [add_block] at this | exact this) GW298.out))) _).trans (hHeld.2.2.2.2.2.2.2.2.2.2.2.2.2.2.2.2.2.2.1)))))))))), ((cell_far (p := ⟨gb298, _, none⟩) (by first | exact Nat.ne_of_lt (Nat.lt_of_lt_of_le (by have := World.block_lt_of_cell? _ _ hw295_3; first | rwa [add_block] at this | exact this) GW298.out) | (rw [add_block]; exact Nat.ne_of_lt (Nat.lt_of_lt_of_le (by have := World.block_lt_of_cell? _ _ hw295_3; first | rwa [add_block] at this | exact this) GW298.out)) | (show (Addr.add _ _).block ≠ _; rw [add_block]; exact Nat.ne_of_lt (Nat.lt_of_lt_of_le (by have := World.block_lt_of_cell? _ _ hw295_3; first | rwa [add_block] at this | exact this) GW298.out)) | (dsimp only; exact Nat.ne_of_lt (Nat.lt_of_lt_of_le (by have := World.block_lt_of_cell? _ _ hw295_3; first | rwa [add_block] at this | exact this) GW298.out))) _).trans (((cell_far (p := ⟨gb298, _, none⟩) (by first | exact Nat.ne_of_lt (Nat.lt_of_lt_of_le (by have := World.block_lt_of_cell? _ _ hw295_3; first | rwa [add_block] at this | exact this) GW298.out) | (rw [add_block]; exact Nat.ne_of_lt (Nat.lt_of_lt_of_le (by have := World.block_lt_of_cell? _ _ hw295_3; first | rwa [add_block] at this | exact this) GW298.out)) | (show (Addr.add _ _).block ≠ _; rw [add_block]; exact Nat.ne_of_lt (Nat.lt_of_lt_of_le (by have := World.block_lt_of_cell? _ _ hw295_3; first | rwa [add_block] at this | exact this) GW298.out)) | (dsimp only; exact Nat.ne_of_lt (Nat.lt_of_lt_of_le (by have := World.block_lt_of_cell? _ _ hw295_3; first | rwa [add_block] at this | exact this) GW298.out))) _).trans (((cell_far (p := ⟨gb298, _, none⟩) (by first | exact Nat.ne_of_lt (Nat.lt_of_lt_of_le (by have := World.block_lt_of_cell? _ _ hw295_3; first | rwa [add_block] at this | exact this) GW298.out) | (rw [add_block]; exact Nat.ne_of_lt (Nat.lt_of_lt_of_le (by have := World.block_lt_of_cell? _ _ hw295_3; first | rwa [add_block] at this | exact this) GW298.out)) | (show (Addr.add _ _).block ≠ _; rw [add_block]; exact Nat.ne_of_lt (Nat.lt_of_lt_of_le (by have := World.block_lt_of_cell? _ _ hw295_3; first | rwa [add_block] at this | exact this) GW298.out)) | (dsimp only; exact Nat.ne_of_lt (Nat.lt_of_lt_of_le (by have := World.block_lt_of_cell? _ _ hw295_3; first | rwa [add_block] at this | exact this) GW298.out))) _).trans (((cell_far (p := ⟨gb298, _, none⟩) (by first | exact Nat.ne_of_lt (Nat.lt_of_lt_of_le (by have := World.block_lt_of_cell? _ _ hw295_3; first | rwa [add_block] at this | exact this) GW298.out) | (rw [add_block]; exact Nat.ne_of_lt (Nat.lt_of_lt_of_le (by have := World.block_lt_of_cell? _ _ hw295_3; first | rwa [add_block] at this | exact this) GW298.out)) | (show (Addr.add _ _).block ≠ _; rw [add_block]; exact Nat.ne_of_lt (Nat.lt_of_lt_of_le (by have := World.block_lt_of_cell? _ _ hw295_3; first | rwa [add_block] at this | exact this) GW298.out)) | (dsimp only; exact Nat.ne_of_lt (Nat.lt_of_lt_of_le (by have := World.block_lt_of_cell? _ _ hw295_3; first | rwa [add_block] at this | exact this) GW298.out))) _).trans (((cell_far (p := ⟨gb298, _, none⟩) (by first | exact Nat.ne_of_lt (Nat.lt_of_lt_of_le (by have := World.block_lt_of_cell? _ _ hw295_3; first | rwa [add_block] at this | exact this) GW298.out) | (rw [add_block]; exact Nat.ne_of_lt (Nat.lt_of_lt_of_le (by have := World.block_lt_of_cell? _ _ hw295_3; first | rwa [add_block] at this | exact this) GW298.out)) | (show (Addr.add _ _).block ≠ _; rw [add_block]; exact Nat.ne_of_lt (Nat.lt_of_lt_of_le (by have := World.block_lt_of_cell? _ _ hw295_3; first | rwa [add_block] at this | exact this) GW298.out)) | (dsimp only; exact Nat.ne_of_lt (Nat.lt_of_lt_of_le (by have := World.block_lt_of_cell? _ _ hw295_3; first | rwa [add_block] at this | exact this) GW298.out))) _).trans (hHeld.2.2.2.2.2.2.2.2.2.2.2.2.2.2.2.2.2.2.2.1)))))))))), ((cell_far (p := ⟨gb298, _, none⟩) (by first | exact Nat.ne_of_lt (Nat.lt_of_lt_of_le (by have := World.block_lt_of_cell? _ _ hw295_4; first | rwa [add_block] at this | exact this) GW298.out) | (rw [add_block]; exact Nat.ne_of_lt (Nat.lt_of_lt_of_le (by have := World.block_lt_of_cell? _ _ hw295_4; first | rwa [add_block] at this | exact this) GW298.out)) | (show (Addr.add _ _).block ≠ _; rw [add_block]; exact Nat.ne_of_lt (Nat.lt_of_lt_of_le (by have := World.block_lt_of_cell? _ _ hw295_4; first | rwa [add_block] at this | exact this) GW298.out)) | (dsimp only; exact Nat.ne_of_lt (Nat.lt_of_lt_of_le (by have := World.block_lt_of_cell? _ _ hw295_4; first | rwa [add_block] at this | exact this) GW298.out))) _).trans (((cell_far (p := ⟨gb298, _, none⟩) (by first | exact Nat.ne_of_lt (Nat.lt_of_lt_of_le (by have := World.block_lt_of_cell? _ _ hw295_4; first | rwa [add_block] at this | exact this) GW298.out) | (rw [add_block]; exact Nat.ne_of_lt (Nat.lt_of_lt_of_le (by have := World.block_lt_of_cell? _ _ hw295_4; first | rwa [add_block] at this | exact this) GW298.out)) | (show (Addr.add _ _).block ≠ _; rw [add_block]; exact Nat.ne_of_lt (Nat.lt_of_lt_of_le (by have := World.block_lt_of_cell? _ _ hw295_4; first | rwa [add_block] at this | exact this) GW298.out)) | (dsimp only; exact Nat.ne_of_lt (Nat.lt_of_lt_of_le (by have := World.block_lt_of_cell? _ _ hw295_4; first | rwa [add_block] at this | exact this) GW298.out))) _).trans (((cell_far (p := ⟨gb298, _, none⟩) (by first | exact Nat.ne_of_lt (Nat.lt_of_lt_of_le (by have := World.block_lt_of_cell? _ _ hw295_4; first | rwa [add_block] at this | exact this) GW298.out) | (rw [add_block]; exact Nat.ne_of_lt (Nat.lt_of_lt_of_le (by have := World.block_lt_of_cell? _ _ hw295_4; first | rwa [add_block] at this | exact this) GW298.out)) | (show (Addr.add _ _).block ≠ _; rw [add_block]; exact Nat.ne_of_lt (Nat.lt_of_lt_of_le (by have := World.block_lt_of_cell? _ _ hw295_4; first | rwa [add_block] at this | exact this) GW298.out)) | (dsimp only; exact Nat.ne_of_lt (Nat.lt_of_lt_of_le (by have := World.block_lt_of_cell? _ _ hw295_4; first | rwa [add_block] at this | exact this) GW298.out))) _).trans (((cell_far (p := ⟨gb298, _, none⟩) (by first | exact Nat.ne_of_lt (Nat.lt_of_lt_of_le (by have := World.block_lt_of_cell? _ _ hw295_4; first | rwa [add_block] at this | exact this) GW298.out) | (rw [add_block]; exact Nat.ne_of_lt (Nat.lt_of_lt_of_le (by have := World.block_lt_of_cell? _ _ hw295_4; first | rwa [add_block] at this | exact this) GW298.out)) | (show (Addr.add _ _).block ≠ _; rw [add_block]; exact Nat.ne_of_lt (Nat.lt_of_lt_of_le (by have := World.block_lt_of_cell? _ _ hw295_4; first | rwa [add_block] at this | exact this) GW298.out)) | (dsimp only; exact Nat.ne_of_lt (Nat.lt_of_lt_of_le (by have := World.block_lt_of_cell? _ _ hw295_4; first | rwa [add_block] at this | exact this) GW298.out))) _).trans (((cell_far (p := ⟨gb298, _, none⟩) (by first | exact Nat.ne_of_lt (Nat.lt_of_lt_of_le (by have := World.block_lt_of_cell? _ _ hw295_4; first | rwa [add_block] at this | exact this) GW298.out) | (rw [add_block]; exact Nat.ne_of_lt (Nat.lt_of_lt_of_le (by have := World.block_lt_of_cell? _ _ hw295_4; first | rwa [add_block] at this | exact this) GW298.out)) | (show (Addr.add _ _).block ≠ _; rw [add_block]; exact Nat.ne_of_lt (Nat.lt_of_lt_of_le (by have := World.block_lt_of_cell? _ _ hw295_4; first | rwa [add_block] at this | exact this) GW298.out)) | (dsimp only; exact Nat.ne_of_lt (Nat.lt_of_lt_of_le (by have := World.block_lt_of_cell? _ _ hw295_4; first | rwa [add_block] at this | exact this) GW298.out))) _).trans (hHeld.2.2.2.2.2.2.2.2.2.2.2.2.2.2.2.2.2.2.2.2.1)))))))))), ((cell_far (p := ⟨gb298, _, none⟩) (by first | exact Nat.ne_of_lt (Nat.lt_of_lt_of_le (by have := World.block_lt_of_cell? _ _ hw296_0; first | rwa [add_block] at this | exact this) GW298.out) | (rw [add_block]; exact Nat.ne_of_lt (Nat.lt_of_lt_of_le (by have := World.block_lt_of_cell? _ _ hw296_0; first | rwa [add_block] at this | exact this) GW298.out)) | (show (Addr.add _ _).block ≠ _; rw [add_block]; exact Nat.ne_of_lt (Nat.lt_of_lt_of_le (by have := World.block_lt_of_cell? _ _ hw296_0; first | rwa [add_block] at this | exact this) GW298.out)) | (dsimp only; exact Nat.ne_of_lt (Nat.lt_of_lt_of_le (by have := World.block_lt_of_cell? _ _ hw296_0; first | rwa [add_block] at this | exact this) GW298.out))) _).trans (((cell_far (p := ⟨gb298, _, none⟩) (by first | exact Nat.ne_of_lt (Nat.lt_of_lt_of_le (by have := World.block_lt_of_cell? _ _ hw296_0; first | rwa [add_block] at this | exact this) GW298.out) | (rw [add_block]; exact Nat.ne_of_lt (Nat.lt_of_lt_of_le (by have := World.block_lt_of_cell? _ _ hw296_0; first | rwa [add_block] at this | exact this) GW298.out)) | (show (Addr.add _ _).block ≠ _; rw [add_block]; exact Nat.ne_of_lt (Nat.lt_of_lt_of_le (by have := World.block_lt_of_cell? _ _ hw296_0; first | rwa [add_block] at this | exact this) GW298.out)) | (dsimp only; exact Nat.ne_of_lt (Nat.lt_of_lt_of_le (by have := World.block_lt_of_cell? _ _ hw296_0; first | rwa [add_block] at this | exact this) GW298.out))) _).trans (((cell_far (p := ⟨gb298, _, none⟩) (by first | exact Nat.ne_of_lt (Nat.lt_of_lt_of_le (by have := World.block_lt_of_cell? _ _ hw296_0; first | rwa [add_block] at this | exact this) GW298.out) | (rw [add_block]; exact Nat.ne_of_lt (Nat.lt_of_lt_of_le (by have := World.block_lt_of_cell? _ _ hw296_0; first | rwa [add_block] at this | exact this) GW298.out)) | (show (Addr.add _ _).block ≠ _; rw [add_block]; exact Nat.ne_of_lt (Nat.lt_of_lt_of_le (by have := World.block_lt_of_cell? _ _ hw296_0; first | rwa [add_block] at this | exact this) GW298.out)) | (dsimp only; exact Nat.ne_of_lt (Nat.lt_of_lt_of_le (by have := World.block_lt_of_cell? _ _ hw296_0; first | rwa [add_block] at this | exact this) GW298.out))) _).trans (((cell_far (p := ⟨gb298, _, none⟩) (by first | exact Nat.ne_of_lt (Nat.lt_of_lt_of_le (by have := World.block_lt_of_cell? _ _ hw296_0; first | rwa [add_block] at this | exact this) GW298.out) | (rw [add_block]; exact Nat.ne_of_lt (Nat.lt_of_lt_of_le (by have := World.block_lt_of_cell? _ _ hw296_0; first | rwa [add_block] at this | exact this) GW298.out)) | (show (Addr.add _ _).block ≠ _; rw [add_block]; exact Nat.ne_of_lt (Nat.lt_of_lt_of_le (by have := World.block_lt_of_cell? _ _ hw296_0; first | rwa [add_block] at this | exact this) GW298.out)) | (dsimp only; exact Nat.ne_of_lt (Nat.lt_of_lt_of_le (by have := World.block_lt_of_cell? _ _ hw296_0; first | rwa [add_block] at this | exact this) GW298.out))) _).trans (((cell_far (p := ⟨gb298, _, none⟩) (by first | exact Nat.ne_of_lt (Nat.lt_of_lt_of_le (by have := World.block_lt_of_cell? _ _ hw296_0; first | rwa [add_block] at this | exact this) GW298.out) | (rw [add_block]; exact Nat.ne_of_lt (Nat.lt_of_lt_of_le (by have := World.block_lt_of_cell? _ _ hw296_0; first | rwa [add_block] at this | exact this) GW298.out)) | (show (Addr.add _ _).block ≠ _; rw [add_block]; exact Nat.ne_of_lt (Nat.lt_of_lt_of_le (by have := World.block_lt_of_cell? _ _ hw296_0; first | rwa [add_block] at this | exact this) GW298.out)) | (dsimp only; exact Nat.ne_of_lt (Nat.lt_of_lt_of_le (by have := World.block_lt_of_cell? _ _ hw296_0; first | rwa [add_block] at this | exact this) GW298.out))) _).trans (hHeld.2.2.2.2.2.2.2.2.2.2.2.2.2.2.2.2.2.2.2.2.2.1)))))))))), ((cell_far (p := ⟨gb298, _, none⟩) (by first | exact Nat.ne_of_lt (Nat.lt_of_lt_of_le (by have := World.block_lt_of_cell? _ _ hw296_1; first | rwa [add_block] at this | exact this) GW298.out) | (rw [add_block]; exact Nat.ne_of_lt (Nat.lt_of_lt_of_le (by have := World.block_lt_of_cell? _ _ hw296_1; first | rwa [add_block] at this | exact this) GW298.out)) | (show (Addr.add _ _).block ≠ _; rw [add_block]; exact Nat.ne_of_lt (Nat.lt_of_lt_of_le (by have := World.block_lt_of_cell? _ _ hw296_1; first | rwa [add_block] at this | exact this) GW298.out)) | (dsimp only; exact Nat.ne_of_lt (Nat.lt_of_lt_of_le (by have := World.block_lt_of_cell? _ _ hw296_1; first | rwa [add_block] at this | exact this) GW298.out))) _).trans (((cell_far (p := ⟨gb298, _, none⟩) (by first | exact Nat.ne_of_lt (Nat.lt_of_lt_of_le (by have := World.block_lt_of_cell? _ _ hw296_1; first | rwa [add_block] at this | exact this) GW298.out) | (rw [add_block]; exact Nat.ne_of_lt (Nat.lt_of_lt_of_le (by have := World.block_lt_of_cell? _ _ hw296_1; first | rwa [add_block] at this | exact this) GW298.out)) | (show (Addr.add _ _).block ≠ _; rw [add_block]; exact Nat.ne_of_lt (Nat.lt_of_lt_of_le (by have := World.block_lt_of_cell? _ _ hw296_1; first | rwa [add_block] at this | exact this) GW298.out)) | (dsimp only; exact Nat.ne_of_lt (Nat.lt_of_lt_of_le (by have := World.block_lt_of_cell? _ _ hw296_1; first | rwa [add_block] at this | exact this) GW298.out))) _).trans (((cell_far (p := ⟨gb298, _, none⟩) (by first | exact Nat.ne_of_lt (Nat.lt_of_lt_of_le (by have := World.block_lt_of_cell? _ _ hw296_1; first | rwa [add_block] at this | exact this) GW298.out) | (rw [add_block]; exact Nat.ne_of_lt (Nat.lt_of_lt_of_le (by have := World.block_lt_of_cell? _ _ hw296_1; first | rwa [add_block] at this | exact this) GW298.out)) | (show (Addr.add _ _).block ≠ _; rw [add_block]; exact Nat.ne_of_lt (Nat.lt_of_lt_of_le (by have := World.block_lt_of_cell? _ _ hw296_1; first | rwa [add_block] at this | exact this) GW298.out)) | (dsimp only; exact Nat.ne_of_lt (Nat.lt_of_lt_of_le (by have := World.block_lt_of_cell? _ _ hw296_1; first | rwa [add_block] at this | exact this) GW298.out))) _).trans (((cell_far (p := ⟨gb298, _, none⟩) (by first | exact Nat.ne_of_lt (Nat.lt_of_lt_of_le (by have := World.block_lt_of_cell? _ _ hw296_1; first | rwa [add_block] at this | exact this) GW298.out) | (rw [add_block]; exact Nat.ne_of_lt (Nat.lt_of_lt_of_le (by have := World.block_lt_of_cell? _ _ hw296_1; first | rwa [add_block] at this | exact this) GW298.out)) | (show (Addr.add _ _).block ≠ _; rw [add_block]; exact Nat.ne_of_lt (Nat.lt_of_lt_of_le (by have := World.block_lt_of_cell? _ _ hw296_1; first | rwa [add_block] at this | exact this) GW298.out)) | (dsimp only; exact Nat.ne_of_lt (Nat.lt_of_lt_of_le (by have := World.block_lt_of_cell? _ _ hw296_1; first | rwa [add_block] at this | exact this) GW298.out))) _).trans (((cell_far (p := ⟨gb298, _, none⟩) (by first | exact Nat.ne_of_lt (Nat.lt_of_lt_of_le (by have := World.block_lt_of_cell? _ _ hw296_1; first | rwa [add_block] at this | exact this) GW298.out) | (rw [add_block]; exact Nat.ne_of_lt (Nat.lt_of_lt_of_le (by have := World.block_lt_of_cell? _ _ hw296_1; first | rwa [add_block] at this | exact this) GW298.out)) | (show (Addr.add _ _).block ≠ _; rw [add_block]; exact Nat.ne_of_lt (Nat.lt_of_lt_of_le (by have := World.block_lt_of_cell? _ _ hw296_1; first | rwa [add_block] at this | exact this) GW298.out)) | (dsimp only; exact Nat.ne_of_lt (Nat.lt_of_lt_of_le (by have := World.block_lt_of_cell? _ _ hw296_1; first | rwa [add_block] at this | exact this) GW298.out))) _).trans (hHeld.2.2.2.2.2.2.2.2.2.2.2.2.2.2.2.2.2.2.2.2.2.2.1)))))))))), ((cell_far (p := ⟨gb298, _, none⟩) (by first | exact Nat.ne_of_lt (Nat.lt_of_lt_of_le (by have := World.block_lt_of_cell? _ _ hw296_2; first | rwa [add_block] at this | exact this) GW298.out) | (rw [add_block]; exact Nat.ne_of_lt (Nat.lt_of_lt_of_le (by have := World.block_lt_of_cell? _ _ hw296_2; first | rwa [add_block] at this | exact this) GW298.out)) | (show (Addr.add _ _).block ≠ _; rw [add_block]; exact Nat.ne_of_lt (Nat.lt_of_lt_of_le (by have := World.block_lt_of_cell? _ _ hw296_2; first | rwa [add_block] at this | exact this) GW298.out)) | (dsimp only; exact Nat.ne_of_lt (Nat.lt_of_lt_of_le (by have := World.block_lt_of_cell? _ _ hw296_2; first | rwa [add_block] at this | exact this) GW298.out))) _).trans (((cell_far (p := ⟨gb298, _, none⟩) (by first | exact Nat.ne_of_lt (Nat.lt_of_lt_of_le (by have := World.block_lt_of_cell? _ _ hw296_2; first | rwa [add_block] at this | exact this) GW298.out) | (rw [add_block]; exact Nat.ne_of_lt (Nat.lt_of_lt_of_le (by have := World.block_lt_of_cell? _ _ hw296_2; first | rwa [add_block] at this | exact this) GW298.out)) | (show (Addr.add _ _).block ≠ _; rw [add_block]; exact Nat.ne_of_lt (Nat.lt_of_lt_of_le (by have := World.block_lt_of_cell? _ _ hw296_2; first | rwa [add_block] at this | exact this) GW298.out)) | (dsimp only; exact Nat.ne_of_lt (Nat.lt_of_lt_of_le (by have := World.block_lt_of_cell? _ _ hw296_2; first | rwa [add_block] at this | exact this) GW298.out))) _).trans (((cell_far (p := ⟨gb298, _, none⟩) (by first | exact Nat.ne_of_lt (Nat.lt_of_lt_of_le (by have := World.block_lt_of_cell? _ _ hw296_2; first | rwa [add_block] at this | exact this) GW298.out) | (rw [add_block]; exact Nat.ne_of_lt (Nat.lt_of_lt_of_le (by have := World.block_lt_of_cell? _ _ hw296_2; first | rwa [add_block] at this | exact this) GW298.out)) | (show (Addr.add _ _).block ≠ _; rw [add_block]; exact Nat.ne_of_lt (Nat.lt_of_lt_of_le (by have := World.block_lt_of_cell? _ _ hw296_2; first | rwa [add_block] at this | exact this) GW298.out)) | (dsimp only; exact Nat.ne_of_lt (Nat.lt_of_lt_of_le (by have := World.block_lt_of_cell? _ _ hw296_2; first | rwa [add_block] at this | exact this) GW298.out))) _).trans (((cell_far (p := ⟨gb298, _, none⟩) (by first | exact Nat.ne_of_lt (Nat.lt_of_lt_of_le (by have := World.block_lt_of_cell? _ _ hw296_2; first | rwa [add_block] at this | exact this) GW298.out) | (rw [add_block]; exact Nat.ne_of_lt (Nat.lt_of_lt_of_le (by have := World.block_lt_of_cell? _ _ hw296_2; first | rwa [add_block] at this | exact this) GW298.out)) | (show (Addr.add _ _).block ≠ _; rw [add_block]; exact Nat.ne_of_lt (Nat.lt_of_lt_of_le (by have := World.block_lt_of_cell? _ _ hw296_2; first | rwa [add_block] at this | exact this) GW298.out)) | (dsimp only; exact Nat.ne_of_lt (Nat.lt_of_lt_of_le (by have := World.block_lt_of_cell? _ _ hw296_2; first | rwa [add_block] at this | exact this) GW298.out))) _).trans (((cell_far (p := ⟨gb298, _, none⟩) (by first | exact Nat.ne_of_lt (Nat.lt_of_lt_of_le (by have := World.block_lt_of_cell? _ _ hw296_2; first | rwa [add_block] at this | exact this) GW298.out) | (rw [add_block]; exact Nat.ne_of_lt (Nat.lt_of_lt_of_le (by have := World.block_lt_of_cell? _ _ hw296_2; first | rwa [add_block] at this | exact this) GW298.out)) | (show (Addr.add _ _).block ≠ _; rw [add_block]; exact Nat.ne_of_lt (Nat.lt_of_lt_of_le (by have := World.block_lt_of_cell? _ _ hw296_2; first | rwa [add_block] at this | exact this) GW298.out)) | (dsimp only; exact Nat.ne_of_lt (Nat.lt_of_lt_of_le (by have := World.block_lt_of_cell? _ _ hw296_2; first | rwa [add_block] at this | exact this) GW298.out))) _).trans (hHeld.2.2.2.2.2.2.2.2.2.2.2.2.2.2.2.2.2.2.2.2.2.2.2.1)))))))))), ((cell_far (p := ⟨gb298, _, none⟩) (by first | exact Nat.ne_of_lt (Nat.lt_of_lt_of_le (by have := World.block_lt_of_cell? _ _ hw296_3; first | rwa [add_block] at this | exact this) GW298.out) | (rw [add_block]; exact Nat.ne_of_lt (Nat.lt_of_lt_of_le (by have := World.block_lt_of_cell? _ _ hw296_3; first | rwa [add_block] at this | exact this) GW298.out)) | (show (Addr.add _ _).block ≠ _; rw [add_block]; exact Nat.ne_of_lt (Nat.lt_of_lt_of_le (by have := World.block_lt_of_cell? _ _ hw296_3; first | rwa [add_block] at this | exact this) GW298.out)) | (dsimp only; exact Nat.ne_of_lt (Nat.lt_of_lt_of_le (by have := World.block_lt_of_cell? _ _ hw296_3; first | rwa [add_block] at this | exact this) GW298.out))) _).trans (((cell_far (p := ⟨gb298, _, none⟩) (by first | exact Nat.ne_of_lt (Nat.lt_of_lt_of_le (by have := World.block_lt_of_cell? _ _ hw296_3; first | rwa [add_block] at this | exact this) GW298.out) | (rw [add_block]; exact Nat.ne_of_lt (Nat.lt_of_lt_of_le (by have := World.block_lt_of_cell? _ _ hw296_3; first | rwa [add_block] at this | exact this) GW298.out)) | (show (Addr.add _ _).block ≠ _; rw [add_block]; exact Nat.ne_of_lt (Nat.lt_of_lt_of_le (by have := World.block_lt_of_cell? _ _ hw296_3; first | rwa [add_block] at this | exact this) GW298.out)) | (dsimp only; exact Nat.ne_of_lt (Nat.lt_of_lt_of_le (by have := World.block_lt_of_cell? _ _ hw296_3; first | rwa [add_block] at this | exact this) GW298.out))) _).trans (((cell_far (p := ⟨gb298, _, none⟩) (by first | exact Nat.ne_of_lt (Nat.lt_of_lt_of_le (by have := World.block_lt_of_cell? _ _ hw296_3; first | rwa [add_block] at this | exact this) GW298.out) | (rw [add_block]; exact Nat.ne_of_lt (Nat.lt_of_lt_of_le (by have := World.block_lt_of_cell? _ _ hw296_3; first | rwa [add_block] at this | exact this) GW298.out)) | (show (Addr.add _ _).block ≠ _; rw [add_block]; exact Nat.ne_of_lt (Nat.lt_of_lt_of_le (by have := World.block_lt_of_cell? _ _ hw296_3; first | rwa [add_block] at this | exact this) GW298.out)) | (dsimp only; exact Nat.ne_of_lt (Nat.lt_of_lt_of_le (by have := World.block_lt_of_cell? _ _ hw296_3; first | rwa [add_block] at this | exact this) GW298.out))) _).trans (((cell_far (p := ⟨gb298, _, none⟩) (by first | exact Nat.ne_of_lt (Nat.lt_of_lt_of_le (by have := World.block_lt_of_cell? _ _ hw296_3; first | rwa [add_block] at this | exact this) GW298.out) | (rw [add_block]; exact Nat.ne_of_lt (Nat.lt_of_lt_of_le (by have := World.block_lt_of_cell? _ _ hw296_3; first | rwa [add_block] at this | exact this) GW298.out)) | (show (Addr.add _ _).block ≠ _; rw [add_block]; exact Nat.ne_of_lt (Nat.lt_of_lt_of_le (by have := World.block_lt_of_cell? _ _ hw296_3; first | rwa [add_block] at this | exact this) GW298.out)) | (dsimp only; exact Nat.ne_of_lt (Nat.lt_of_lt_of_le (by have := World.block_lt_of_cell? _ _ hw296_3; first | rwa [add_block] at this | exact this) GW298.out))) _).trans (((cell_far (p := ⟨gb298, _, none⟩) (by first | exact Nat.ne_of_lt (Nat.lt_of_lt_of_le (by have := World.block_lt_of_cell? _ _ hw296_3; first | rwa [add_block] at this | exact this) GW298.out) | (rw [add_block]; exact Nat.ne_of_lt (Nat.lt_of_lt_of_le (by have := World.block_lt_of_cell? _ _ hw296_3; first | rwa [add_block] at this | exact this) GW298.out)) | (show (Addr.add _ _).block ≠ _; rw [add_block]; exact Nat.ne_of_lt (Nat.lt_of_lt_of_le (by have := World.block_lt_of_cell? _ _ hw296_3; first | rwa [add_block] at this | exact this) GW298.out)) | (dsimp only; exact Nat.ne_of_lt (Nat.lt_of_lt_of_le (by have := World.block_lt_of_cell? _ _ hw296_3; first | rwa [add_block] at this | exact this) GW298.out))) _).trans (hHeld.2.2.2.2.2.2.2.2.2.2.2.2.2.2.2.2.2.2.2.2.2.2.2.2.1)))))))))), ((cell_far (p := ⟨gb298, _, none⟩) (by first | exact Nat.ne_of_lt (Nat.lt_of_lt_of_le (by have := World.block_lt_of_cell? _ _ hw296_4; first | rwa [add_block] at this | exact this) GW298.out) | (rw [add_block]; exact Nat.ne_of_lt (Nat.lt_of_lt_of_le (by have := World.block_lt_of_cell? _ _ hw296_4; first | rwa [add_block] at this | exact this) GW298.out)) | (show (Addr.add _ _).block ≠ _; rw [add_block]; exact Nat.ne_of_lt (Nat.lt_of_lt_of_le (by have := World.block_lt_of_cell? _ _ hw296_4; first | rwa [add_block] at this | exact this) GW298.out)) | (dsimp only; exact Nat.ne_of_lt (Nat.lt_of_lt_of_le (by have := World.block_lt_of_cell? _ _ hw296_4; first | rwa [add_block] at this | exact this) GW298.out))) _).trans (((cell_far (p := ⟨gb298, _, none⟩) (by first | exact Nat.ne_of_lt (Nat.lt_of_lt_of_le (by have := World.block_lt_of_cell? _ _ hw296_4; first | rwa [add_block] at this | exact this) GW298.out) | (rw [add_block]; exact Nat.ne_of_lt (Nat.lt_of_lt_of_le (by have := World.block_lt_of_cell? _ _ hw296_4; first | rwa [add_block] at this | exact this) GW298.out)) | (show (Addr.add _ _).block ≠ _; rw [add_block]; exact Nat.ne_of_lt (Nat.lt_of_lt_of_le (by have := World.block_lt_of_cell? _ _ hw296_4; first | rwa [add_block] at this | exact this) GW298.out)) | (dsimp only; exact Nat.ne_of_lt (Nat.lt_of_lt_of_le (by have := World.block_lt_of_cell? _ _ hw296_4; first | rwa [add_block] at this | exact this) GW298.out))) _).trans (((cell_far (p := ⟨gb298, _, none⟩) (by first | exact Nat.ne_of_lt (Nat.lt_of_lt_of_le (by have := World.block_lt_of_cell? _ _ hw296_4; first | rwa [add_block] at this | exact this) GW298.out) | (rw [add_block]; exact Nat.ne_of_lt (Nat.lt_of_lt_of_le (by have := World.block_lt_of_cell? _ _ hw296_4; first | rwa [add_block] at this | exact this) GW298.out)) | (show (Addr.add _ _).block ≠ _; rw [add_block]; exact Nat.ne_of_lt (Nat.lt_of_lt_of_le (by have := World.block_lt_of_cell? _ _ hw296_4; first | rwa [add_block] at this | exact this) GW298.out)) | (dsimp only; exact Nat.ne_of_lt (Nat.lt_of_lt_of_le (by have := World.block_lt_of_cell? _ _ hw296_4; first | rwa [add_block] at this | exact this) GW298.out))) _).trans (((cell_far (p := ⟨gb298, _, none⟩) (by first | exact Nat.ne_of_lt (Nat.lt_of_lt_of_le (by have := World.block_lt_of_cell? _ _ hw296_4; first | rwa [add_block] at this | exact this) GW298.out) | (rw [add_block]; exact Nat.ne_of_lt (Nat.lt_of_lt_of_le (by have := World.block_lt_of_cell? _ _ hw296_4; first | rwa [add_block] at this | exact this) GW298.out)) | (show (Addr.add _ _).block ≠ _; rw [add_block]; exact Nat.ne_of_lt (Nat.lt_of_lt_of_le (by have := World.block_lt_of_cell? _ _ hw296_4; first | rwa [add_block] at this | exact this) GW298.out)) | (dsimp only; exact Nat.ne_of_lt (Nat.lt_of_lt_of_le (by have := World.block_lt_of_cell? _ _ hw296_4; first | rwa [add_block] at this | exact this) GW298.out))) _).trans (((cell_far (p := ⟨gb298, _, none⟩) (by first | exact Nat.ne_of_lt (Nat.lt_of_lt_of_le (by have := World.block_lt_of_cell? _ _ hw296_4; first | rwa [add_block] at this | exact this) GW298.out) | (rw [add_block]; exact Nat.ne_of_lt (Nat.lt_of_lt_of_le (by have := World.block_lt_of_cell? _ _ hw296_4; first | rwa [add_block] at this | exact this) GW298.out)) | (show (Addr.add _ _).block ≠ _; rw [add_block]; exact Nat.ne_of_lt (Nat.lt_of_lt_of_le (by have := World.block_lt_of_cell? _ _ hw296_4; first | rwa [add_block] at this | exact this) GW298.out)) | (dsimp only; exact Nat.ne_of_lt (Nat.lt_of_lt_of_le (by have := World.block_lt_of_cell? _ _ hw296_4; first | rwa [add_block] at this | exact this) GW298.out))) _).trans (hHeld.2.2.2.2.2.2.2.2.2.2.2.2.2.2.2.2.2.2.2.2.2.2.2.2.2))))))))))⟩ (fun hHeld => ?_); clear hK K; refine done_ (done_of HT_.out (by kernel_rfl)) ?_; go_upto_region 7 with (fail)
       go_cut [120] (fun v120 wc => ∃ (kq : Nat) (x120_56 : Bool), v120 = .bool x120_56 ∧ Aside0 (ref16_Same.j2 kq x5_2 x120_56 a0_0 a0_1 l0_2 l0_3 l0_4 l0_5 l0_6 a0_7 a1_0 a1_1 l1_2 l1_3 l1_4 l1_5 l1_6 a1_7 = some r) ∧ Aside0 (kq ≤ k2) ∧ Aside0 (wc.heap[gb290]? = some (.cells #[.int .i64 a0_0, .int .i64 a0_1, (.slice A0_2 l0_2.length c0_2), (.slice A0_3 l0_3.length c0_3), (.slice A0_4 l0_4.length c0_4), (.slice (some ad295) l0_5.length c0_5), (.slice A0_6 l0_6.length c0_6), .bool a0_7] 31 (0, 0))) ∧ Aside0 (wc.heap[gb291]? = some (.cells #[.int .i64 a1_0, .int .i64 a1_1, (.slice A1_2 l1_2.length c1_2), (.slice A1_3 l1_3.length c1_3), (.slice A1_4 l1_4.length c1_4), (.slice (some ad296) l1_5.length c1_5), (.slice A1_6 l1_6.length c1_6), .bool a1_7] 31 (0, 0))) ∧ Aside0 (wc.heap[gb297]? = some (.cells #[.string ((rd_T79 l0_5 x5_2).f0), .bool ((rd_T79 l0_5 x5_2).f1), (.slice A295_2 ((rd_T79 l0_5 x5_2).f2).length c295_2), (.slice A295_3 ((rd_T79 l0_5 x5_2).f3).length c295_3), .int .i64 ((rd_T79 l0_5 x5_2).f4)] 79 (0, 0))) ∧ Aside0 (wc.heap[gb298]? = some (.cells #[.string ((rd_T79 l1_5 x5_2).f0), .bool ((rd_T79 l1_5 x5_2).f1), (.slice A296_2 ((rd_T79 l1_5 x5_2).f2).length c296_2), (.slice A296_3 ((rd_T79 l1_5 x5_2).f3).length c296_3), .int .i64 ((rd_T79 l1_5 x5_2).f4)] 79 (0, 0))) ∧ Aside0 (Below w.heap.size w wc))
       case first =>
        have H := HC57.out; clear HC57; by_cases c74 : ((rd_T79 l0_5 x5_2).f0).toList = ((rd_T79 l1_5 x5_2).f0).toList
        ·
         rw [if_pos c74] at H; have c74b0 : (((rd_T79 l0_5 x5_2).f0).toList == ((rd_T79 l1_5 x5_2).f0).toList) = true := beq_iff_eq.mpr c74; have c74b1 : (((rd_T79 l0_5 x5_2).f0).toList != ((rd_T79 l1_5 x5_2).f0).toList) = false := bne_eq_false_iff_eq.mpr c74; clear c74; (first | rw [c74b0] | (simp only [i64_w, i32_w]; rw [c74b0]) | skip)
         by_cases c75 : (((rd_T79 l0_5 x5_2).f1) != ((rd_T79 l1_5 x5_2).f1)) = true
         ·
          rw [if_pos c75] at H; have c75b0 : (((rd_T79 l0_5 x5_2).f1) != ((rd_T79 l1_5 x5_2).f1)) = true := c75; (try (have c75b1 : decide (((rd_T79 l0_5 x5_2).f1) = ((rd_T79 l1_5 x5_2).f1)) = false := by simpa using c75))
          (try (have c75b2 : (((rd_T79 l0_5 x5_2).f1) == ((rd_T79 l1_5 x5_2).f1)) = false := by simpa using c75))
          (try (have c75b3 : ¬ (((rd_T79 l0_5 x5_2).f1) = ((rd_T79 l1_5 x5_2).f1)) := by simpa using c75))
          clear c75; have H' := Aside0.mk H; clear H; have hnb76 := NB297_290.out; have hnc76 := NB290_297.out; have hnb77 := NB297_291.out; have hnc77 := NB291_297.out; have hnb78 := NB297_298.out; have hnc78 := NB298_297.out; have hcz79_0 : w63.cell? ⟨gb297, 0, none⟩ = some (.string (⟨#[]⟩ : ByteArray)) := (blk_cell BK297.out 0).trans rfl; have hcz79_1 : w63.cell? ⟨gb297, 1, none⟩ = some (.bool false) := (blk_cell BK297.out 1).trans rfl; have hcz79_2 : w63.cell? ⟨gb297, 2, none⟩ = some (.slice none 0 0) := (blk_cell BK297.out 2).trans rfl; have hcz79_3 : w63.cell? ⟨gb297, 3, none⟩ = some (.slice none 0 0) := (blk_cell BK297.out 3).trans rfl; have hcz79_4 : w63.cell? ⟨gb297, 4, none⟩ = some (.int .i64 0) := (blk_cell BK297.out 4).trans rfl; have hfz79_0 := blk_frozen BK297.out 0; have hfz79_1 := blk_frozen BK297.out 1; have hfz79_2 := blk_frozen BK297.out 2; have hfz79_3 := blk_frozen BK297.out 3; have hfz79_4 := blk_frozen BK297.out 4; have hnb80 := NB298_290.out; have hnc80 := NB290_298.out; have hnb81 := NB298_291.out; have hnc81 := NB291_298.out; have hcz82_0 : w63.cell? ⟨gb298, 0, none⟩ = some (.string (⟨#[]⟩ : ByteArray)) := (blk_cell BK298.out 0).trans rfl; have hcz82_1 : w63.cell? ⟨gb298, 1, none⟩ = some (.bool false) := (blk_cell BK298.out 1).trans rfl; have hcz82_2 : w63.cell? ⟨gb298, 2, none⟩ = some (.slice none 0 0) := (blk_cell BK298.out 2).trans rfl; have hcz82_3 : w63.cell? ⟨gb298, 3, none⟩ = some (.slice none 0 0) := (blk_cell BK298.out 3).trans rfl; have hcz82_4 : w63.cell? ⟨gb298, 4, none⟩ = some (.int .i64 0) := (blk_cell BK298.out 4).trans rfl; have hfz82_0 := blk_frozen BK298.out 0; have hfz82_1 := blk_frozen BK298.out 1; have hfz82_2 := blk_frozen BK298.out 2; have hfz82_3 := blk_frozen BK298.out 3; have hfz82_4 := blk_frozen BK298.out 4; go_wp2
          go_meet
          case rel => exact ⟨_, (true), rf_, H', ⟨by have := HJ2.out; have := HK2.out; first | omega | exact Nat.le_refl _⟩, ⟨(bf2_ BK290.out NB290_298.out NB290_297.out)⟩, ⟨(bf2_ BK291.out NB291_298.out NB291_297.out)⟩, ⟨by (with_reducible repeat (first | refine blk_drewN ?_ _ | refine blk_drew ?_ | refine blk_alloc ?_ _)); refine blk_far ?_ NB297_298.out _; (with_reducible repeat (first | refine blk_drewN ?_ _ | refine blk_drew ?_ | refine blk_alloc ?_ _)); refine blk_far ?_ NB297_298.out _; (with_reducible repeat (first | refine blk_drewN ?_ _ | refine blk_drew ?_ | refine blk_alloc ?_ _)); refine blk_far ?_ NB297_298.out _; (with_reducible repeat (first | refine blk_drewN ?_ _ | refine blk_drew ?_ | refine blk_alloc ?_ _)); refine blk_far ?_ NB297_298.out _; (with_reducible repeat (first | refine blk_drewN ?_ _ | refine blk_drew ?_ | refine blk_alloc ?_ _)); refine blk_far ?_ NB297_298.out _; (with_reducible repeat (first | refine blk_drewN ?_ _ | refine blk_drew ?_ | refine blk_alloc ?_ _)); refine blk_put (cs := #[.string ((rd_T79 l0_5 x5_2).f0), .bool ((rd_T79 l0_5 x5_2).f1), .slice A295_2 ((rd_T79 l0_5 x5_2).f2).length c295_2, .slice A295_3 ((rd_T79 l0_5 x5_2).f3).length c295_3, .int .i64 0]) ?_ 4 _ rfl; (with_reducible repeat (first | refine blk_drewN ?_ _ | refine blk_drew ?_ | refine blk_alloc ?_ _)); refine blk_put (cs := #[.string ((rd_T79 l0_5 x5_2).f0), .bool ((rd_T79 l0_5 x5_2).f1), .slice A295_2 ((rd_T79 l0_5 x5_2).f2).length c295_2, .slice none 0 0, .int .i64 0]) ?_ 3 _ rfl; (with_reducible repeat (first | refine blk_drewN ?_ _ | refine blk_drew ?_ | refine blk_alloc ?_ _)); refine blk_put (cs := #[.string ((rd_T79 l0_5 x5_2).f0), .bool ((rd_T79 l0_5 x5_2).f1), .slice none 0 0, .slice none 0 0, .int .i64 0]) ?_ 2 _ rfl; (with_reducible repeat (first | refine blk_drewN ?_ _ | refine blk_drew ?_ | refine blk_alloc ?_ _)); refine blk_put (cs := #[.string ((rd_T79 l0_5 x5_2).f0), .bool false, .slice none 0 0, .slice none 0 0, .int .i64 0]) ?_ 1 _ rfl; (with_reducible repeat (first | refine blk_drewN ?_ _ | refine blk_drew ?_ | refine blk_alloc ?_ _)); refine blk_put (cs := #[.string (⟨#[]⟩ : ByteArray), .bool false, .slice none 0 0, .slice none 0 0, .int .i64 0]) ?_ 0 _ rfl; (with_reducible repeat (first | refine blk_drewN ?_ _ | refine blk_drew ?_ | refine blk_alloc ?_ _)); exact BK297.out⟩, ⟨by (with_reducible repeat (first | refine blk_drewN ?_ _ | refine blk_drew ?_ | refine blk_alloc ?_ _)); refine blk_put (cs := #[.string ((rd_T79 l1_5 x5_2).f0), .bool ((rd_T79 l1_5 x5_2).f1), .slice A296_2 ((rd_T79 l1_5 x5_2).f2).length c296_2, .slice A296_3 ((rd_T79 l1_5 x5_2).f3).length c296_3, .int .i64 0]) ?_ 4 _ rfl; (with_reducible repeat (first | refine blk_drewN ?_ _ | refine blk_drew ?_ | refine blk_alloc ?_ _)); refine blk_put (cs := #[.string ((rd_T79 l1_5 x5_2).f0), .bool ((rd_T79 l1_5 x5_2).f1), .slice A296_2 ((rd_T79 l1_5 x5_2).f2).length c296_2, .slice none 0 0, .int .i64 0]) ?_ 3 _ rfl; (with_reducible repeat (first | refine blk_drewN ?_ _ | refine blk_drew ?_ | refine blk_alloc ?_ _)); refine blk_put (cs := #[.string ((rd_T79 l1_5 x5_2).f0), .bool ((rd_T79 l1_5 x5_2).f1), .slice none 0 0, .slice none 0 0, .int .i64 0]) ?_ 2 _ rfl; (with_reducible repeat (first | refine blk_drewN ?_ _ | refine blk_drew ?_ | refine blk_alloc ?_ _)); refine blk_put (cs := #[.string ((rd_T79 l1_5 x5_2).f0), .bool false, .slice none 0 0, .slice none 0 0, .int .i64 0]) ?_ 1 _ rfl; (with_reducible repeat (first | refine blk_drewN ?_ _ | refine blk_drew ?_ | refine blk_alloc ?_ _)); refine blk_put (cs := #[.string (⟨#[]⟩ : ByteArray), .bool false, .slice none 0 0, .slice none 0 0, .int .i64 0]) ?_ 0 _ rfl; (with_reducible repeat (first | refine blk_drewN ?_ _ | refine blk_drew ?_ | refine blk_alloc ?_ _)); refine blk_far ?_ NB298_297.out _; (with_reducible repeat (first | refine blk_drewN ?_ _ | refine blk_drew ?_ | refine blk_alloc ?_ _)); refine blk_far ?_ NB298_297.out _; (with_reducible repeat (first | refine blk_drewN ?_ _ | refine blk_drew ?_ | refine blk_alloc ?_ _)); refine blk_far ?_ NB298_297.out _; (with_reducible repeat (first | refine blk_drewN ?_ _ | refine blk_drew ?_ | refine blk_alloc ?_ _)); refine blk_far ?_ NB298_297.out _; (with_reducible repeat (first | refine blk_drewN ?_ _ | refine blk_drew ?_ | refine blk_alloc ?_ _)); refine blk_far ?_ NB298_297.out _; (with_reducible repeat (first | refine blk_drewN ?_ _ | refine blk_drew ?_ | refine blk_alloc ?_ _)); exact BK298.out⟩, ⟨(hb4_ HB.out GE290.out GE291.out GE297.out GE298.out)⟩⟩
         ·
          rw [if_neg c75] at H; have c75b0 : (((rd_T79 l0_5 x5_2).f1) != ((rd_T79 l1_5 x5_2).f1)) = false := by simpa using c75
          (try (have c75b1 : decide (((rd_T79 l0_5 x5_2).f1) = ((rd_T79 l1_5 x5_2).f1)) = true := by simpa using c75))
          (try (have c75b2 : (((rd_T79 l0_5 x5_2).f1) == ((rd_T79 l1_5 x5_2).f1)) = true := by simpa using c75))
          clear c75; replace H := Option.bind_eq_some_iff.mp H; obtain ⟨t299, A830, H⟩ := H; (try dsimp only at H); have A83 := Aside0.mk A830; clear A830; by_cases c84 : t299 = true
          ·
           subst c84; have H1 : (if ((rd_T79 l0_5 x5_2).f4) = ((rd_T79 l1_5 x5_2).f4) then ((ref16_types.f k2 ((rd_T79 l0_5 x5_2).f3) ((rd_T79 l1_5 x5_2).f3)).bind fun t300 => (ref16_Same.j2 k2 x5_2 (!t300) a0_0 a0_1 l0_2 l0_3 l0_4 l0_5 l0_6 a0_7 a1_0 a1_1 l1_2 l1_3 l1_4 l1_5 l1_6 a1_7)) else (ref16_Same.j2 k2 x5_2 true a0_0 a0_1 l0_2 l0_3 l0_4 l0_5 l0_6 a0_7 a1_0 a1_1 l1_2 l1_3 l1_4 l1_5 l1_6 a1_7)) = some r := by rw [if_pos rfl] at H; exact H
           clear H; have H := H1; clear H1; by_cases c85 : ((rd_T79 l0_5 x5_2).f4) = ((rd_T79 l1_5 x5_2).f4)
           ·
            rw [if_pos c85] at H; have c85b0 : (((rd_T79 l0_5 x5_2).f4) == ((rd_T79 l1_5 x5_2).f4)) = true := beq_iff_eq.mpr c85; have c85b1 : (((rd_T79 l0_5 x5_2).f4) != ((rd_T79 l1_5 x5_2).f4)) = false := bne_eq_false_iff_eq.mpr c85; clear c85; replace H := Option.bind_eq_some_iff.mp H; obtain ⟨t300, A860, H⟩ := H; (try dsimp only at H); have A86 := Aside0.mk A860; clear A860; have H' := Aside0.mk H; clear H; have hnb87 := NB297_290.out; have hnc87 := NB290_297.out; have hnb88 := NB297_291.out; have hnc88 := NB291_297.out; have hnb89 := NB297_298.out; have hnc89 := NB298_297.out; have hcz90_0 : w63.cell? ⟨gb297, 0, none⟩ = some (.string (⟨#[]⟩ : ByteArray)) := (blk_cell BK297.out 0).trans rfl; have hcz90_1 : w63.cell? ⟨gb297, 1, none⟩ = some (.bool false) := (blk_cell BK297.out 1).trans rfl; have hcz90_2 : w63.cell? ⟨gb297, 2, none⟩ = some (.slice none 0 0) := (blk_cell BK297.out 2).trans rfl; have hcz90_3 : w63.cell? ⟨gb297, 3, none⟩ = some (.slice none 0 0) := (blk_cell BK297.out 3).trans rfl; have hcz90_4 : w63.cell? ⟨gb297, 4, none⟩ = some (.int .i64 0) := (blk_cell BK297.out 4).trans rfl; have hfz90_0 := blk_frozen BK297.out 0; have hfz90_1 := blk_frozen BK297.out 1; have hfz90_2 := blk_frozen BK297.out 2; have hfz90_3 := blk_frozen BK297.out 3; have hfz90_4 := blk_frozen BK297.out 4; have hnb91 := NB298_290.out; have hnc91 := NB290_298.out; have hnb92 := NB298_291.out; have hnc92 := NB291_298.out; have hcz93_0 : w63.cell? ⟨gb298, 0, none⟩ = some (.string (⟨#[]⟩ : ByteArray)) := (blk_cell BK298.out 0).trans rfl; have hcz93_1 : w63.cell? ⟨gb298, 1, none⟩ = some (.bool false) := (blk_cell BK298.out 1).trans rfl; have hcz93_2 : w63.cell? ⟨gb298, 2, none⟩ = some (.slice none 0 0) := (blk_cell BK298.out 2).trans rfl; have hcz93_3 : w63.cell? ⟨gb298, 3, none⟩ = some (.slice none 0 0) := (blk_cell BK298.out 3).trans rfl; have hcz93_4 : w63.cell? ⟨gb298, 4, none⟩ = some (.int .i64 0) := (blk_cell BK298.out 4).trans rfl; have hfz93_0 := blk_frozen BK298.out 0; have hfz93_1 := blk_frozen BK298.out 1; have hfz93_2 := blk_frozen BK298.out 2; have hfz93_3 := blk_frozen BK298.out 3; have hfz93_4 := blk_frozen BK298.out 4; go_wp2_with (first | (go_at_call 74; (with_reducible refine (ref16_ints.calls k2 _ _ ((rd_T79 l0_5 x5_2).f2) _ _ ((rd_T79 l1_5 x5_2).f2) true _ ?side1 ?side2 ?side3 ?side4 A83.out).mono ?_); (case side1 => exact Kd.C_below HR295_2.out (hb4_ HB.out GE290.out GE291.out GE297.out GE298.out)); (case side2 => exact HC295_2.out); (case side3 => exact Kd.C_below HR296_2.out (hb4_ HB.out GE290.out GE291.out GE297.out GE298.out)); (case side4 => exact HC296_2.out); rintro e w' ⟨rfl, ⟨nd, rfl⟩⟩) | (go_at_call 75; (with_reducible refine (ref16_types.calls k2 _ _ ((rd_T79 l0_5 x5_2).f3) _ _ ((rd_T79 l1_5 x5_2).f3) t300 _ ?side1 ?side2 ?side3 ?side4 A86.out).mono ?_); (case side1 => exact Kd.C_below HR295_3.out (hb4_ HB.out GE290.out GE291.out GE297.out GE298.out)); (case side2 => exact HC295_3.out); (case side3 => exact Kd.C_below HR296_3.out (hb4_ HB.out GE290.out GE291.out GE297.out GE298.out)); (case side4 => exact HC296_3.out); rintro e w94 ⟨rfl, hb⟩; have n0_ := Aside0.mk (blk_below (g := gb290) (o := .cells #[.int .i64 a0_0, .int .i64 a0_1, .slice A0_2 l0_2.length c0_2, .slice A0_3 l0_3.length c0_3, .slice A0_4 l0_4.length c0_4, .slice (some ad295) l0_5.length c0_5, .slice A0_6 l0_6.length c0_6, .bool a0_7] 31 (0, 0)) (bf2_ BK290.out NB290_298.out NB290_297.out) hb); have n1_ := Aside0.mk (blk_below (g := gb291) (o := .cells #[.int .i64 a1_0, .int .i64 a1_1, .slice A1_2 l1_2.length c1_2, .slice A1_3 l1_3.length c1_3, .slice A1_4 l1_4.length c1_4, .slice (some ad296) l1_5.length c1_5, .slice A1_6 l1_6.length c1_6, .bool a1_7] 31 (0, 0)) (bf2_ BK291.out NB291_298.out NB291_297.out) hb); have n2_ := Aside0.mk (blk_below (g := gb297) (o := .cells #[.string ((rd_T79 l0_5 x5_2).f0), .bool ((rd_T79 l0_5 x5_2).f1), .slice A295_2 ((rd_T79 l0_5 x5_2).f2).length c295_2, .slice A295_3 ((rd_T79 l0_5 x5_2).f3).length c295_3, .int .i64 ((rd_T79 l0_5 x5_2).f4)] 79 (0, 0)) (by (with_reducible repeat (first | refine blk_drewN ?_ _ | refine blk_drew ?_ | refine blk_alloc ?_ _)); refine blk_far ?_ NB297_298.out _; (with_reducible repeat (first | refine blk_drewN ?_ _ | refine blk_drew ?_ | refine blk_alloc ?_ _)); refine blk_far ?_ NB297_298.out _; (with_reducible repeat (first | refine blk_drewN ?_ _ | refine blk_drew ?_ | refine blk_alloc ?_ _)); refine blk_far ?_ NB297_298.out _; (with_reducible repeat (first | refine blk_drewN ?_ _ | refine blk_drew ?_ | refine blk_alloc ?_ _)); refine blk_far ?_ NB297_298.out _; (with_reducible repeat (first | refine blk_drewN ?_ _ | refine blk_drew ?_ | refine blk_alloc ?_ _)); refine blk_far ?_ NB297_298.out _; (with_reducible repeat (first | refine blk_drewN ?_ _ | refine blk_drew ?_ | refine blk_alloc ?_ _)); refine blk_put (cs := #[.string ((rd_T79 l0_5 x5_2).f0), .bool ((rd_T79 l0_5 x5_2).f1), .slice A295_2 ((rd_T79 l0_5 x5_2).f2).length c295_2, .slice A295_3 ((rd_T79 l0_5 x5_2).f3).length c295_3, .int .i64 0]) ?_ 4 _ rfl; (with_reducible repeat (first | refine blk_drewN ?_ _ | refine blk_drew ?_ | refine blk_alloc ?_ _)); refine blk_put (cs := #[.string ((rd_T79 l0_5 x5_2).f0), .bool ((rd_T79 l0_5 x5_2).f1), .slice A295_2 ((rd_T79 l0_5 x5_2).f2).length c295_2, .slice none 0 0, .int .i64 0]) ?_ 3 _ rfl; (with_reducible repeat (first | refine blk_drewN ?_ _ | refine blk_drew ?_ | refine blk_alloc ?_ _)); refine blk_put (cs := #[.string ((rd_T79 l0_5 x5_2).f0), .bool ((rd_T79 l0_5 x5_2).f1), .slice none 0 0, .slice none 0 0, .int .i64 0]) ?_ 2 _ rfl; (with_reducible repeat (first | refine blk_drewN ?_ _ | refine blk_drew ?_ | refine blk_alloc ?_ _)); refine blk_put (cs := #[.string ((rd_T79 l0_5 x5_2).f0), .bool false, .slice none 0 0, .slice none 0 0, .int .i64 0]) ?_ 1 _ rfl; (with_reducible repeat (first | refine blk_drewN ?_ _ | refine blk_drew ?_ | refine blk_alloc ?_ _)); refine blk_put (cs := #[.string (⟨#[]⟩ : ByteArray), .bool false, .slice none 0 0, .slice none 0 0, .int .i64 0]) ?_ 0 _ rfl; (with_reducible repeat (first | refine blk_drewN ?_ _ | refine blk_drew ?_ | refine blk_alloc ?_ _)); exact BK297.out) hb); have n3_ := Aside0.mk (blk_below (g := gb298) (o := .cells #[.string ((rd_T79 l1_5 x5_2).f0), .bool ((rd_T79 l1_5 x5_2).f1), .slice A296_2 ((rd_T79 l1_5 x5_2).f2).length c296_2, .slice A296_3 ((rd_T79 l1_5 x5_2).f3).length c296_3, .int .i64 ((rd_T79 l1_5 x5_2).f4)] 79 (0, 0)) (by (with_reducible repeat (first | refine blk_drewN ?_ _ | refine blk_drew ?_ | refine blk_alloc ?_ _)); refine blk_put (cs := #[.string ((rd_T79 l1_5 x5_2).f0), .bool ((rd_T79 l1_5 x5_2).f1), .slice A296_2 ((rd_T79 l1_5 x5_2).f2).length c296_2, .slice A296_3 ((rd_T79 l1_5 x5_2).f3).length c296_3, .int .i64 0]) ?_ 4 _ rfl; (with_reducible repeat (first | refine blk_drewN ?_ _ | refine blk_drew ?_ | refine blk_alloc ?_ _)); refine blk_put (cs := #[.string ((rd_T79 l1_5 x5_2).f0), .bool ((rd_T79 l1_5 x5_2).f1), .slice A296_2 ((rd_T79 l1_5 x5_2).f2).length c296_2, .slice none 0 0, .int .i64 0]) ?_ 3 _ rfl; (with_reducible repeat (first | refine blk_drewN ?_ _ | refine blk_drew ?_ | refine blk_alloc ?_ _)); refine blk_put (cs := #[.string ((rd_T79 l1_5 x5_2).f0), .bool ((rd_T79 l1_5 x5_2).f1), .slice none 0 0, .slice none 0 0, .int .i64 0]) ?_ 2 _ rfl; (with_reducible repeat (first | refine blk_drewN ?_ _ | refine blk_drew ?_ | refine blk_alloc ?_ _)); refine blk_put (cs := #[.string ((rd_T79 l1_5 x5_2).f0), .bool false, .slice none 0 0, .slice none 0 0, .int .i64 0]) ?_ 1 _ rfl; (with_reducible repeat (first | refine blk_drewN ?_ _ | refine blk_drew ?_ | refine blk_alloc ?_ _)); refine blk_put (cs := #[.string (⟨#[]⟩ : ByteArray), .bool false, .slice none 0 0, .slice none 0 0, .int .i64 0]) ?_ 0 _ rfl; (with_reducible repeat (first | refine blk_drewN ?_ _ | refine blk_drew ?_ | refine blk_alloc ?_ _)); refine blk_far ?_ NB298_297.out _; (with_reducible repeat (first | refine blk_drewN ?_ _ | refine blk_drew ?_ | refine blk_alloc ?_ _)); refine blk_far ?_ NB298_297.out _; (with_reducible repeat (first | refine blk_drewN ?_ _ | refine blk_drew ?_ | refine blk_alloc ?_ _)); refine blk_far ?_ NB298_297.out _; (with_reducible repeat (first | refine blk_drewN ?_ _ | refine blk_drew ?_ | refine blk_alloc ?_ _)); refine blk_far ?_ NB298_297.out _; (with_reducible repeat (first | refine blk_drewN ?_ _ | refine blk_drew ?_ | refine blk_alloc ?_ _)); refine blk_far ?_ NB298_297.out _; (with_reducible repeat (first | refine blk_drewN ?_ _ | refine blk_drew ?_ | refine blk_alloc ?_ _)); exact BK298.out) hb); have n4_ := Aside0.mk (below_step (hb4_ HB.out GE290.out GE291.out GE297.out GE298.out) hb); clear BK290 BK291 BK297 BK298 HB; revert n0_ n1_ n2_ n3_ n4_; intro BK290 BK291 BK297 BK298 HB; (try clear hb); (try clear hb2); (try clear hk); (try clear hi)))
            go_meet
            case rel => exact ⟨_, (!t300), rf_, H', ⟨by have := HJ2.out; have := HK2.out; first | omega | exact Nat.le_refl _⟩, ⟨(bk_ BK290.out)⟩, ⟨(bk_ BK291.out)⟩, ⟨(bk_ BK297.out)⟩, ⟨(bk_ BK298.out)⟩, ⟨(hb4_ HB.out GE290.out GE291.out GE297.out GE298.out)⟩⟩
           ·
            rw [if_neg c85] at H; have c85b0 : (((rd_T79 l0_5 x5_2).f4) == ((rd_T79 l1_5 x5_2).f4)) = false := beq_eq_false_iff_ne.mpr c85; have c85b1 : (((rd_T79 l0_5 x5_2).f4) != ((rd_T79 l1_5 x5_2).f4)) = true := bne_iff_ne.mpr c85; have H' := Aside0.mk H; clear H; have hnb95 := NB297_290.out; have hnc95 := NB290_297.out; have hnb96 := NB297_291.out; have hnc96 := NB291_297.out; have hnb97 := NB297_298.out; have hnc97 := NB298_297.out; have hcz98_0 : w63.cell? ⟨gb297, 0, none⟩ = some (.string (⟨#[]⟩ : ByteArray)) := (blk_cell BK297.out 0).trans rfl; have hcz98_1 : w63.cell? ⟨gb297, 1, none⟩ = some (.bool false) := (blk_cell BK297.out 1).trans rfl; have hcz98_2 : w63.cell? ⟨gb297, 2, none⟩ = some (.slice none 0 0) := (blk_cell BK297.out 2).trans rfl; have hcz98_3 : w63.cell? ⟨gb297, 3, none⟩ = some (.slice none 0 0) := (blk_cell BK297.out 3).trans rfl; have hcz98_4 : w63.cell? ⟨gb297, 4, none⟩ = some (.int .i64 0) := (blk_cell BK297.out 4).trans rfl; have hfz98_0 := blk_frozen BK297.out 0; have hfz98_1 := blk_frozen BK297.out 1; have hfz98_2 := blk_frozen BK297.out 2; have hfz98_3 := blk_frozen BK297.out 3; have hfz98_4 := blk_frozen BK297.out 4; have hnb99 := NB298_290.out; have hnc99 := NB290_298.out; have hnb100 := NB298_291.out; have hnc100 := NB291_298.out; have hcz101_0 : w63.cell? ⟨gb298, 0, none⟩ = some (.string (⟨#[]⟩ : ByteArray)) := (blk_cell BK298.out 0).trans rfl; have hcz101_1 : w63.cell? ⟨gb298, 1, none⟩ = some (.bool false) := (blk_cell BK298.out 1).trans rfl; have hcz101_2 : w63.cell? ⟨gb298, 2, none⟩ = some (.slice none 0 0) := (blk_cell BK298.out 2).trans rfl; have hcz101_3 : w63.cell? ⟨gb298, 3, none⟩ = some (.slice none 0 0) := (blk_cell BK298.out 3).trans rfl; have hcz101_4 : w63.cell? ⟨gb298, 4, none⟩ = some (.int .i64 0) := (blk_cell BK298.out 4).trans rfl; have hfz101_0 := blk_frozen BK298.out 0; have hfz101_1 := blk_frozen BK298.out 1; have hfz101_2 := blk_frozen BK298.out 2; have hfz101_3 := blk_frozen BK298.out 3; have hfz101_4 := blk_frozen BK298.out 4; go_wp2_with (first | (go_at_call 74; (with_reducible refine (ref16_ints.calls k2 _ _ ((rd_T79 l0_5 x5_2).f2) _ _ ((rd_T79 l1_5 x5_2).f2) true _ ?side1 ?side2 ?side3 ?side4 A83.out).mono ?_); (case side1 => exact Kd.C_below HR295_2.out (hb4_ HB.out GE290.out GE291.out GE297.out GE298.out)); (case side2 => exact HC295_2.out); (case side3 => exact Kd.C_below HR296_2.out (hb4_ HB.out GE290.out GE291.out GE297.out GE298.out)); (case side4 => exact HC296_2.out); rintro e w' ⟨rfl, ⟨nd, rfl⟩⟩))
            go_meet
            case rel => exact ⟨_, (true), rf_, H', ⟨by have := HJ2.out; have := HK2.out; first | omega | exact Nat.le_refl _⟩, ⟨(bf2_ BK290.out NB290_298.out NB290_297.out)⟩, ⟨(bf2_ BK291.out NB291_298.out NB291_297.out)⟩, ⟨by (with_reducible repeat (first | refine blk_drewN ?_ _ | refine blk_drew ?_ | refine blk_alloc ?_ _)); refine blk_far ?_ NB297_298.out _; (with_reducible repeat (first | refine blk_drewN ?_ _ | refine blk_drew ?_ | refine blk_alloc ?_ _)); refine blk_far ?_ NB297_298.out _; (with_reducible repeat (first | refine blk_drewN ?_ _ | refine blk_drew ?_ | refine blk_alloc ?_ _)); refine blk_far ?_ NB297_298.out _; (with_reducible repeat (first | refine blk_drewN ?_ _ | refine blk_drew ?_ | refine blk_alloc ?_ _)); refine blk_far ?_ NB297_298.out _; (with_reducible repeat (first | refine blk_drewN ?_ _ | refine blk_drew ?_ | refine blk_alloc ?_ _)); refine blk_far ?_ NB297_298.out _; (with_reducible repeat (first | refine blk_drewN ?_ _ | refine blk_drew ?_ | refine blk_alloc ?_ _)); refine blk_put (cs := #[.string ((rd_T79 l0_5 x5_2).f0), .bool ((rd_T79 l0_5 x5_2).f1), .slice A295_2 ((rd_T79 l0_5 x5_2).f2).length c295_2, .slice A295_3 ((rd_T79 l0_5 x5_2).f3).length c295_3, .int .i64 0]) ?_ 4 _ rfl; (with_reducible repeat (first | refine blk_drewN ?_ _ | refine blk_drew ?_ | refine blk_alloc ?_ _)); refine blk_put (cs := #[.string ((rd_T79 l0_5 x5_2).f0), .bool ((rd_T79 l0_5 x5_2).f1), .slice A295_2 ((rd_T79 l0_5 x5_2).f2).length c295_2, .slice none 0 0, .int .i64 0]) ?_ 3 _ rfl; (with_reducible repeat (first | refine blk_drewN ?_ _ | refine blk_drew ?_ | refine blk_alloc ?_ _)); refine blk_put (cs := #[.string ((rd_T79 l0_5 x5_2).f0), .bool ((rd_T79 l0_5 x5_2).f1), .slice none 0 0, .slice none 0 0, .int .i64 0]) ?_ 2 _ rfl; (with_reducible repeat (first | refine blk_drewN ?_ _ | refine blk_drew ?_ | refine blk_alloc ?_ _)); refine blk_put (cs := #[.string ((rd_T79 l0_5 x5_2).f0), .bool false, .slice none 0 0, .slice none 0 0, .int .i64 0]) ?_ 1 _ rfl; (with_reducible repeat (first | refine blk_drewN ?_ _ | refine blk_drew ?_ | refine blk_alloc ?_ _)); refine blk_put (cs := #[.string (⟨#[]⟩ : ByteArray), .bool false, .slice none 0 0, .slice none 0 0, .int .i64 0]) ?_ 0 _ rfl; (with_reducible repeat (first | refine blk_drewN ?_ _ | refine blk_drew ?_ | refine blk_alloc ?_ _)); exact BK297.out⟩, ⟨by (with_reducible repeat (first | refine blk_drewN ?_ _ | refine blk_drew ?_ | refine blk_alloc ?_ _)); refine blk_put (cs := #[.string ((rd_T79 l1_5 x5_2).f0), .bool ((rd_T79 l1_5 x5_2).f1), .slice A296_2 ((rd_T79 l1_5 x5_2).f2).length c296_2, .slice A296_3 ((rd_T79 l1_5 x5_2).f3).length c296_3, .int .i64 0]) ?_ 4 _ rfl; (with_reducible repeat (first | refine blk_drewN ?_ _ | refine blk_drew ?_ | refine blk_alloc ?_ _)); refine blk_put (cs := #[.string ((rd_T79 l1_5 x5_2).f0), .bool ((rd_T79 l1_5 x5_2).f1), .slice A296_2 ((rd_T79 l1_5 x5_2).f2).length c296_2, .slice none 0 0, .int .i64 0]) ?_ 3 _ rfl; (with_reducible repeat (first | refine blk_drewN ?_ _ | refine blk_drew ?_ | refine blk_alloc ?_ _)); refine blk_put (cs := #[.string ((rd_T79 l1_5 x5_2).f0), .bool ((rd_T79 l1_5 x5_2).f1), .slice none 0 0, .slice none 0 0, .int .i64 0]) ?_ 2 _ rfl; (with_reducible repeat (first | refine blk_drewN ?_ _ | refine blk_drew ?_ | refine blk_alloc ?_ _)); refine blk_put (cs := #[.string ((rd_T79 l1_5 x5_2).f0), .bool false, .slice none 0 0, .slice none 0 0, .int .i64 0]) ?_ 1 _ rfl; (with_reducible repeat (first | refine blk_drewN ?_ _ | refine blk_drew ?_ | refine blk_alloc ?_ _)); refine blk_put (cs := #[.string (⟨#[]⟩ : ByteArray), .bool false, .slice none 0 0, .slice none 0 0, .int .i64 0]) ?_ 0 _ rfl; (with_reducible repeat (first | refine blk_drewN ?_ _ | refine blk_drew ?_ | refine blk_alloc ?_ _)); refine blk_far ?_ NB298_297.out _; (with_reducible repeat (first | refine blk_drewN ?_ _ | refine blk_drew ?_ | refine blk_alloc ?_ _)); refine blk_far ?_ NB298_297.out _; (with_reducible repeat (first | refine blk_drewN ?_ _ | refine blk_drew ?_ | refine blk_alloc ?_ _)); refine blk_far ?_ NB298_297.out _; (with_reducible repeat (first | refine blk_drewN ?_ _ | refine blk_drew ?_ | refine blk_alloc ?_ _)); refine blk_far ?_ NB298_297.out _; (with_reducible repeat (first | refine blk_drewN ?_ _ | refine blk_drew ?_ | refine blk_alloc ?_ _)); refine blk_far ?_ NB298_297.out _; (with_reducible repeat (first | refine blk_drewN ?_ _ | refine blk_drew ?_ | refine blk_alloc ?_ _)); exact BK298.out⟩, ⟨(hb4_ HB.out GE290.out GE291.out GE297.out GE298.out)⟩⟩
          ·
           replace c84 := Bool.eq_false_iff.mpr c84; subst c84; have H1 : (ref16_Same.j2 k2 x5_2 true a0_0 a0_1 l0_2 l0_3 l0_4 l0_5 l0_6 a0_7 a1_0 a1_1 l1_2 l1_3 l1_4 l1_5 l1_6 a1_7) = some r := by rw [if_neg (show ¬ (false = true) by decide)] at H; exact H
           clear H; have H := H1; clear H1; have H' := Aside0.mk H; clear H; have hnb102 := NB297_290.out; have hnc102 := NB290_297.out; have hnb103 := NB297_291.out; have hnc103 := NB291_297.out; have hnb104 := NB297_298.out; have hnc104 := NB298_297.out; have hcz105_0 : w63.cell? ⟨gb297, 0, none⟩ = some (.string (⟨#[]⟩ : ByteArray)) := (blk_cell BK297.out 0).trans rfl; have hcz105_1 : w63.cell? ⟨gb297, 1, none⟩ = some (.bool false) := (blk_cell BK297.out 1).trans rfl; have hcz105_2 : w63.cell? ⟨gb297, 2, none⟩ = some (.slice none 0 0) := (blk_cell BK297.out 2).trans rfl; have hcz105_3 : w63.cell? ⟨gb297, 3, none⟩ = some (.slice none 0 0) := (blk_cell BK297.out 3).trans rfl; have hcz105_4 : w63.cell? ⟨gb297, 4, none⟩ = some (.int .i64 0) := (blk_cell BK297.out 4).trans rfl; have hfz105_0 := blk_frozen BK297.out 0; have hfz105_1 := blk_frozen BK297.out 1; have hfz105_2 := blk_frozen BK297.out 2; have hfz105_3 := blk_frozen BK297.out 3; have hfz105_4 := blk_frozen BK297.out 4; have hnb106 := NB298_290.out; have hnc106 := NB290_298.out; have hnb107 := NB298_291.out; have hnc107 := NB291_298.out; have hcz108_0 : w63.cell? ⟨gb298, 0, none⟩ = some (.string (⟨#[]⟩ : ByteArray)) := (blk_cell BK298.out 0).trans rfl; have hcz108_1 : w63.cell? ⟨gb298, 1, none⟩ = some (.bool false) := (blk_cell BK298.out 1).trans rfl; have hcz108_2 : w63.cell? ⟨gb298, 2, none⟩ = some (.slice none 0 0) := (blk_cell BK298.out 2).trans rfl; have hcz108_3 : w63.cell? ⟨gb298, 3, none⟩ = some (.slice none 0 0) := (blk_cell BK298.out 3).trans rfl; have hcz108_4 : w63.cell? ⟨gb298, 4, none⟩ = some (.int .i64 0) := (blk_cell BK298.out 4).trans rfl; have hfz108_0 := blk_frozen BK298.out 0; have hfz108_1 := blk_frozen BK298.out 1; have hfz108_2 := blk_frozen BK298.out 2; have hfz108_3 := blk_frozen BK298.out 3; have hfz108_4 := blk_frozen BK298.out 4; go_wp2_with (first | (go_at_call 74; (with_reducible refine (ref16_ints.calls k2 _ _ ((rd_T79 l0_5 x5_2).f2) _ _ ((rd_T79 l1_5 x5_2).f2) false _ ?side1 ?side2 ?side3 ?side4 A83.out).mono ?_); (case side1 => exact Kd.C_below HR295_2.out (hb4_ HB.out GE290.out GE291.out GE297.out GE298.out)); (case side2 => exact HC295_2.out); (case side3 => exact Kd.C_below HR296_2.out (hb4_ HB.out GE290.out GE291.out GE297.out GE298.out)); (case side4 => exact HC296_2.out); rintro e w' ⟨rfl, ⟨nd, rfl⟩⟩))
           go_meet
           case rel => exact ⟨_, (true), rf_, H', ⟨by have := HJ2.out; have := HK2.out; first | omega | exact Nat.le_refl _⟩, ⟨(bf2_ BK290.out NB290_298.out NB290_297.out)⟩, ⟨(bf2_ BK291.out NB291_298.out NB291_297.out)⟩, ⟨by (with_reducible repeat (first | refine blk_drewN ?_ _ | refine blk_drew ?_ | refine blk_alloc ?_ _)); refine blk_far ?_ NB297_298.out _; (with_reducible repeat (first | refine blk_drewN ?_ _ | refine blk_drew ?_ | refine blk_alloc ?_ _)); refine blk_far ?_ NB297_298.out _; (with_reducible repeat (first | refine blk_drewN ?_ _ | refine blk_drew ?_ | refine blk_alloc ?_ _)); refine blk_far ?_ NB297_298.out _; (with_reducible repeat (first | refine blk_drewN ?_ _ | refine blk_drew ?_ | refine blk_alloc ?_ _)); refine blk_far ?_ NB297_298.out _; (with_reducible repeat (first | refine blk_drewN ?_ _ | refine blk_drew ?_ | refine blk_alloc ?_ _)); refine blk_far ?_ NB297_298.out _; (with_reducible repeat (first | refine blk_drewN ?_ _ | refine blk_drew ?_ | refine blk_alloc ?_ _)); refine blk_put (cs := #[.string ((rd_T79 l0_5 x5_2).f0), .bool ((rd_T79 l0_5 x5_2).f1), .slice A295_2 ((rd_T79 l0_5 x5_2).f2).length c295_2, .slice A295_3 ((rd_T79 l0_5 x5_2).f3).length c295_3, .int .i64 0]) ?_ 4 _ rfl; (with_reducible repeat (first | refine blk_drewN ?_ _ | refine blk_drew ?_ | refine blk_alloc ?_ _)); refine blk_put (cs := #[.string ((rd_T79 l0_5 x5_2).f0), .bool ((rd_T79 l0_5 x5_2).f1), .slice A295_2 ((rd_T79 l0_5 x5_2).f2).length c295_2, .slice none 0 0, .int .i64 0]) ?_ 3 _ rfl; (with_reducible repeat (first | refine blk_drewN ?_ _ | refine blk_drew ?_ | refine blk_alloc ?_ _)); refine blk_put (cs := #[.string ((rd_T79 l0_5 x5_2).f0), .bool ((rd_T79 l0_5 x5_2).f1), .slice none 0 0, .slice none 0 0, .int .i64 0]) ?_ 2 _ rfl; (with_reducible repeat (first | refine blk_drewN ?_ _ | refine blk_drew ?_ | refine blk_alloc ?_ _)); refine blk_put (cs := #[.string ((rd_T79 l0_5 x5_2).f0), .bool false, .slice none 0 0, .slice none 0 0, .int .i64 0]) ?_ 1 _ rfl; (with_reducible repeat (first | refine blk_drewN ?_ _ | refine blk_drew ?_ | refine blk_alloc ?_ _)); refine blk_put (cs := #[.string (⟨#[]⟩ : ByteArray), .bool false, .slice none 0 0, .slice none 0 0, .int .i64 0]) ?_ 0 _ rfl; (with_reducible repeat (first | refine blk_drewN ?_ _ | refine blk_drew ?_ | refine blk_alloc ?_ _)); exact BK297.out⟩, ⟨by (with_reducible repeat (first | refine blk_drewN ?_ _ | refine blk_drew ?_ | refine blk_alloc ?_ _)); refine blk_put (cs := #[.string ((rd_T79 l1_5 x5_2).f0), .bool ((rd_T79 l1_5 x5_2).f1), .slice A296_2 ((rd_T79 l1_5 x5_2).f2).length c296_2, .slice A296_3 ((rd_T79 l1_5 x5_2).f3).length c296_3, .int .i64 0]) ?_ 4 _ rfl; (with_reducible repeat (first | refine blk_drewN ?_ _ | refine blk_drew ?_ | refine blk_alloc ?_ _)); refine blk_put (cs := #[.string ((rd_T79 l1_5 x5_2).f0), .bool ((rd_T79 l1_5 x5_2).f1), .slice A296_2 ((rd_T79 l1_5 x5_2).f2).length c296_2, .slice none 0 0, .int .i64 0]) ?_ 3 _ rfl; (with_reducible repeat (first | refine blk_drewN ?_ _ | refine blk_drew ?_ | refine blk_alloc ?_ _)); refine blk_put (cs := #[.string ((rd_T79 l1_5 x5_2).f0), .bool ((rd_T79 l1_5 x5_2).f1), .slice none 0 0, .slice none 0 0, .int .i64 0]) ?_ 2 _ rfl; (with_reducible repeat (first | refine blk_drewN ?_ _ | refine blk_drew ?_ | refine blk_alloc ?_ _)); refine blk_put (cs := #[.string ((rd_T79 l1_5 x5_2).f0), .bool false, .slice none 0 0, .slice none 0 0, .int .i64 0]) ?_ 1 _ rfl; (with_reducible repeat (first | refine blk_drewN ?_ _ | refine blk_drew ?_ | refine blk_alloc ?_ _)); refine blk_put (cs := #[.string (⟨#[]⟩ : ByteArray), .bool false, .slice none 0 0, .slice none 0 0, .int .i64 0]) ?_ 0 _ rfl; (with_reducible repeat (first | refine blk_drewN ?_ _ | refine blk_drew ?_ | refine blk_alloc ?_ _)); refine blk_far ?_ NB298_297.out _; (with_reducible repeat (first | refine blk_drewN ?_ _ | refine blk_drew ?_ | refine blk_alloc ?_ _)); refine blk_far ?_ NB298_297.out _; (with_reducible repeat (first | refine blk_drewN ?_ _ | refine blk_drew ?_ | refine blk_alloc ?_ _)); refine blk_far ?_ NB298_297.out _; (with_reducible repeat (first | refine blk_drewN ?_ _ | refine blk_drew ?_ | refine blk_alloc ?_ _)); refine blk_far ?_ NB298_297.out _; (with_reducible repeat (first | refine blk_drewN ?_ _ | refine blk_drew ?_ | refine blk_alloc ?_ _)); refine blk_far ?_ NB298_297.out _; (with_reducible repeat (first | refine blk_drewN ?_ _ | refine blk_drew ?_ | refine blk_alloc ?_ _)); exact BK298.out⟩, ⟨(hb4_ HB.out GE290.out GE291.out GE297.out GE298.out)⟩⟩
        ·
         rw [if_neg c74] at H; have c74b0 : (((rd_T79 l0_5 x5_2).f0).toList == ((rd_T79 l1_5 x5_2).f0).toList) = false := beq_eq_false_iff_ne.mpr c74; have c74b1 : (((rd_T79 l0_5 x5_2).f0).toList != ((rd_T79 l1_5 x5_2).f0).toList) = true := bne_iff_ne.mpr c74; (first | rw [c74b0] | (simp only [i64_w, i32_w]; rw [c74b0]) | skip)
         have H' := Aside0.mk H; clear H; have hnb109 := NB297_290.out; have hnc109 := NB290_297.out; have hnb110 := NB297_291.out; have hnc110 := NB291_297.out; have hnb111 := NB297_298.out; have hnc111 := NB298_297.out; have hcz112_0 : w63.cell? ⟨gb297, 0, none⟩ = some (.string (⟨#[]⟩ : ByteArray)) := (blk_cell BK297.out 0).trans rfl; have hcz112_1 : w63.cell? ⟨gb297, 1, none⟩ = some (.bool false) := (blk_cell BK297.out 1).trans rfl; have hcz112_2 : w63.cell? ⟨gb297, 2, none⟩ = some (.slice none 0 0) := (blk_cell BK297.out 2).trans rfl; have hcz112_3 : w63.cell? ⟨gb297, 3, none⟩ = some (.slice none 0 0) := (blk_cell BK297.out 3).trans rfl; have hcz112_4 : w63.cell? ⟨gb297, 4, none⟩ = some (.int .i64 0) := (blk_cell BK297.out 4).trans rfl; have hfz112_0 := blk_frozen BK297.out 0; have hfz112_1 := blk_frozen BK297.out 1; have hfz112_2 := blk_frozen BK297.out 2; have hfz112_3 := blk_frozen BK297.out 3; have hfz112_4 := blk_frozen BK297.out 4; have hnb113 := NB298_290.out; have hnc113 := NB290_298.out; have hnb114 := NB298_291.out; have hnc114 := NB291_298.out; have hcz115_0 : w63.cell? ⟨gb298, 0, none⟩ = some (.string (⟨#[]⟩ : ByteArray)) := (blk_cell BK298.out 0).trans rfl; have hcz115_1 : w63.cell? ⟨gb298, 1, none⟩ = some (.bool false) := (blk_cell BK298.out 1).trans rfl; have hcz115_2 : w63.cell? ⟨gb298, 2, none⟩ = some (.slice none 0 0) := (blk_cell BK298.out 2).trans rfl; have hcz115_3 : w63.cell? ⟨gb298, 3, none⟩ = some (.slice none 0 0) := (blk_cell BK298.out 3).trans rfl; have hcz115_4 : w63.cell? ⟨gb298, 4, none⟩ = some (.int .i64 0) := (blk_cell BK298.out 4).trans rfl; have hfz115_0 := blk_frozen BK298.out 0; have hfz115_1 := blk_frozen BK298.out 1; have hfz115_2 := blk_frozen BK298.out 2; have hfz115_3 := blk_frozen BK298.out 3; have hfz115_4 := blk_frozen BK298.out 4; go_wp2
         go_meet
         case rel => exact ⟨_, (true), rf_, H', ⟨by have := HJ2.out; have := HK2.out; first | omega | exact Nat.le_refl _⟩, ⟨(bf2_ BK290.out NB290_298.out NB290_297.out)⟩, ⟨(bf2_ BK291.out NB291_298.out NB291_297.out)⟩, ⟨by (with_reducible repeat (first | refine blk_drewN ?_ _ | refine blk_drew ?_ | refine blk_alloc ?_ _)); refine blk_far ?_ NB297_298.out _; (with_reducible repeat (first | refine blk_drewN ?_ _ | refine blk_drew ?_ | refine blk_alloc ?_ _)); refine blk_far ?_ NB297_298.out _; (with_reducible repeat (first | refine blk_drewN ?_ _ | refine blk_drew ?_ | refine blk_alloc ?_ _)); refine blk_far ?_ NB297_298.out _; (with_reducible repeat (first | refine blk_drewN ?_ _ | refine blk_drew ?_ | refine blk_alloc ?_ _)); refine blk_far ?_ NB297_298.out _; (with_reducible repeat (first | refine blk_drewN ?_ _ | refine blk_drew ?_ | refine blk_alloc ?_ _)); refine blk_far ?_ NB297_298.out _; (with_reducible repeat (first | refine blk_drewN ?_ _ | refine blk_drew ?_ | refine blk_alloc ?_ _)); refine blk_put (cs := #[.string ((rd_T79 l0_5 x5_2).f0), .bool ((rd_T79 l0_5 x5_2).f1), .slice A295_2 ((rd_T79 l0_5 x5_2).f2).length c295_2, .slice A295_3 ((rd_T79 l0_5 x5_2).f3).length c295_3, .int .i64 0]) ?_ 4 _ rfl; (with_reducible repeat (first | refine blk_drewN ?_ _ | refine blk_drew ?_ | refine blk_alloc ?_ _)); refine blk_put (cs := #[.string ((rd_T79 l0_5 x5_2).f0), .bool ((rd_T79 l0_5 x5_2).f1), .slice A295_2 ((rd_T79 l0_5 x5_2).f2).length c295_2, .slice none 0 0, .int .i64 0]) ?_ 3 _ rfl; (with_reducible repeat (first | refine blk_drewN ?_ _ | refine blk_drew ?_ | refine blk_alloc ?_ _)); refine blk_put (cs := #[.string ((rd_T79 l0_5 x5_2).f0), .bool ((rd_T79 l0_5 x5_2).f1), .slice none 0 0, .slice none 0 0, .int .i64 0]) ?_ 2 _ rfl; (with_reducible repeat (first | refine blk_drewN ?_ _ | refine blk_drew ?_ | refine blk_alloc ?_ _)); refine blk_put (cs := #[.string ((rd_T79 l0_5 x5_2).f0), .bool false, .slice none 0 0, .slice none 0 0, .int .i64 0]) ?_ 1 _ rfl; (with_reducible repeat (first | refine blk_drewN ?_ _ | refine blk_drew ?_ | refine blk_alloc ?_ _)); refine blk_put (cs := #[.string (⟨#[]⟩ : ByteArray), .bool false, .slice none 0 0, .slice none 0 0, .int .i64 0]) ?_ 0 _ rfl; (with_reducible repeat (first | refine blk_drewN ?_ _ | refine blk_drew ?_ | refine blk_alloc ?_ _)); exact BK297.out⟩, ⟨by (with_reducible repeat (first | refine blk_drewN ?_ _ | refine blk_drew ?_ | refine blk_alloc ?_ _)); refine blk_put (cs := #[.string ((rd_T79 l1_5 x5_2).f0), .bool ((rd_T79 l1_5 x5_2).f1), .slice A296_2 ((rd_T79 l1_5 x5_2).f2).length c296_2, .slice A296_3 ((rd_T79 l1_5 x5_2).f3).length c296_3, .int .i64 0]) ?_ 4 _ rfl; (with_reducible repeat (first | refine blk_drewN ?_ _ | refine blk_drew ?_ | refine blk_alloc ?_ _)); refine blk_put (cs := #[.string ((rd_T79 l1_5 x5_2).f0), .bool ((rd_T79 l1_5 x5_2).f1), .slice A296_2 ((rd_T79 l1_5 x5_2).f2).length c296_2, .slice none 0 0, .int .i64 0]) ?_ 3 _ rfl; (with_reducible repeat (first | refine blk_drewN ?_ _ | refine blk_drew ?_ | refine blk_alloc ?_ _)); refine blk_put (cs := #[.string ((rd_T79 l1_5 x5_2).f0), .bool ((rd_T79 l1_5 x5_2).f1), .slice none 0 0, .slice none 0 0, .int .i64 0]) ?_ 2 _ rfl; (with_reducible repeat (first | refine blk_drewN ?_ _ | refine blk_drew ?_ | refine blk_alloc ?_ _)); refine blk_put (cs := #[.string ((rd_T79 l1_5 x5_2).f0), .bool false, .slice none 0 0, .slice none 0 0, .int .i64 0]) ?_ 1 _ rfl; (with_reducible repeat (first | refine blk_drewN ?_ _ | refine blk_drew ?_ | refine blk_alloc ?_ _)); refine blk_put (cs := #[.string (⟨#[]⟩ : ByteArray), .bool false, .slice none 0 0, .slice none 0 0, .int .i64 0]) ?_ 0 _ rfl; (with_reducible repeat (first | refine blk_drewN ?_ _ | refine blk_drew ?_ | refine blk_alloc ?_ _)); refine blk_far ?_ NB298_297.out _; (with_reducible repeat (first | refine blk_drewN ?_ _ | refine blk_drew ?_ | refine blk_alloc ?_ _)); refine blk_far ?_ NB298_297.out _; (with_reducible repeat (first | refine blk_drewN ?_ _ | refine blk_drew ?_ | refine blk_alloc ?_ _)); refine blk_far ?_ NB298_297.out _; (with_reducible repeat (first | refine blk_drewN ?_ _ | refine blk_drew ?_ | refine blk_alloc ?_ _)); refine blk_far ?_ NB298_297.out _; (with_reducible repeat (first | refine blk_drewN ?_ _ | refine blk_drew ?_ | refine blk_alloc ?_ _)); refine blk_far ?_ NB298_297.out _; (with_reducible repeat (first | refine blk_drewN ?_ _ | refine blk_drew ?_ | refine blk_alloc ?_ _)); exact BK298.out⟩, ⟨(hb4_ HB.out GE290.out GE291.out GE297.out GE298.out)⟩⟩
       case rest =>
        clear HC57; try clear c1
        try clear c2
        try clear p2
        try clear c7
        try clear c8
        try clear c9
        try clear c10
        try clear c11
        try clear c29
        try clear c74
        try clear c74b0
        try clear c74b1
        try clear c75
        try clear c75b0
        try clear c75b1
        try clear c75b2
        try clear c76
        try clear c77
        try clear c78
        try clear c80
        try clear c81
        try clear c84
        try clear c85
        try clear c85b0
        try clear c85b1
        try clear c87
        try clear c88
        try clear c89
        try clear c91
        try clear c92
        try clear c95
        try clear c96
        try clear c97
        try clear c99
        try clear c100
        try clear c102
        try clear c103
        try clear c104
        try clear c106
        try clear c107
        try clear c109
        try clear c110
        try clear c111
        try clear c113
        try clear c114
        try clear hcz101_0
        try clear hcz101_1
        try clear hcz101_2
        try clear hcz101_3
        try clear hcz101_4
        try clear hcz105_0
        try clear hcz105_1
        try clear hcz105_2
        try clear hcz105_3
        try clear hcz105_4
        try clear hcz108_0
        try clear hcz108_1
        try clear hcz108_2
        try clear hcz108_3
        try clear hcz108_4
        try clear hcz112_0
        try clear hcz112_1
        try clear hcz112_2
        try clear hcz112_3
        try clear hcz112_4
        try clear hcz115_0
        try clear hcz115_1
        try clear hcz115_2
        try clear hcz115_3
        try clear hcz115_4
        try clear hcz79_0
        try clear hcz79_1
        try clear hcz79_2
        try clear hcz79_3
        try clear hcz79_4
        try clear hcz82_0
        try clear hcz82_1
        try clear hcz82_2
        try clear hcz82_3
        try clear hcz82_4
        try clear hcz90_0
        try clear hcz90_1
        try clear hcz90_2
        try clear hcz90_3
        try clear hcz90_4
        try clear hcz93_0
        try clear hcz93_1
        try clear hcz93_2
        try clear hcz93_3
        try clear hcz93_4
        try clear hcz98_0
        try clear hcz98_1
        try clear hcz98_2
        try clear hcz98_3
        try clear hcz98_4
        try clear hfz101_0
        try clear hfz101_1
        try clear hfz101_2
        try clear hfz101_3
        try clear hfz101_4
        try clear hfz105_0
        try clear hfz105_1
        try clear hfz105_2
        try clear hfz105_3
        try clear hfz105_4
        try clear hfz108_0
        try clear hfz108_1
        try clear hfz108_2
        try clear hfz108_3
        try clear hfz108_4
        try clear hfz112_0
        try clear hfz112_1
        try clear hfz112_2
        try clear hfz112_3
        try clear hfz112_4
        try clear hfz115_0
        try clear hfz115_1
        try clear hfz115_2
        try clear hfz115_3
        try clear hfz115_4
        try clear hfz79_0
        try clear hfz79_1
        try clear hfz79_2
        try clear hfz79_3
        try clear hfz79_4
        try clear hfz82_0
        try clear hfz82_1
        try clear hfz82_2
        try clear hfz82_3
        try clear hfz82_4
        try clear hfz90_0
        try clear hfz90_1
        try clear hfz90_2
        try clear hfz90_3
        try clear hfz90_4
        try clear hfz93_0
        try clear hfz93_1
        try clear hfz93_2
        try clear hfz93_3
        try clear hfz93_4
        try clear hfz98_0
        try clear hfz98_1
        try clear hfz98_2
        try clear hfz98_3
        try clear hfz98_4
        obtain ⟨kq, x120_56, rfl, HA, HJ56, BK290, BK291, BK297, BK298, HB⟩ := hcut; cases kq with
        | zero => exact absurd HA.out (by simp [ref16_Same.j2])
        | succ kj56 =>
         have H := HA.out; clear HA; simp only [ref16_Same.j2] at H; by_cases c116 : x120_56 = true
         ·
          subst c116; have H1 : (some false) = some r := by rw [if_pos rfl] at H; exact H
          clear H; have H := H1; clear H1; obtain rfl := Option.some.inj H; go_wp2
          go_ret
          exact ⟨by first | rfl | (simp [errW_none, errW_some] <;> rfl) | (simp [*, errW_none, errW_some] <;> rfl), (hb4_ HB.out GE290.out GE291.out GE297.out GE298.out)⟩
         ·
          replace c116 := Bool.eq_false_iff.mpr c116; subst c116; have H1 : (ref16_Same.l0 kj56 (wrap64 (x5_2 + 1)) a0_0 a0_1 l0_2 l0_3 l0_4 l0_5 l0_6 a0_7 a1_0 a1_1 l1_2 l1_3 l1_4 l1_5 l1_6 a1_7) = some r := by rw [if_neg (show ¬ (false = true) by decide)] at H; exact H
          clear H; have H := H1; clear H1; have H' := Aside0.mk H; clear H; go_wp2
          go_roundg kj56
          case measure => have := HJ2.out; have := HK2.out; have := HJ56.out; omega
          case rel => exact ⟨(wrap64 (x5_2 + 1)), rf_, H', ⟨by have := HJ2.out; have := HK2.out; have := HJ56.out; omega⟩, ⟨(bk_ BK290.out)⟩, ⟨(bk_ BK291.out)⟩, ⟨(hb4_ HB.out GE290.out GE291.out GE297.out GE298.out)⟩⟩
      ·
       rw [if_neg c54] at H; have c54b0 : decide (x5_2 < (l0_5.length : Int)) = false := decide_eq_false c54; clear c54; obtain rfl := Option.some.inj H; have hnb117 := NB290_291.out; have hnc117 := NB291_290.out; obtain ⟨hcz118_0, hcz118_1, hcz118_2, hcz118_3, hcz118_4, hcz118_5, hcz118_6, hcz118_7, hfz118_0, hfz118_1, hfz118_2, hfz118_3, hfz118_4, hfz118_5, hfz118_6, hfz118_7⟩ := bx8_ BK290.out; go_wp2
       go_ret
       exact ⟨by first | rfl | (simp [errW_none, errW_some] <;> rfl) | (simp [*, errW_none, errW_some] <;> rfl), (hb2_ HB.out GE290.out GE291.out)⟩

end Go.Proofs.Ytpcephbhnbfcmaa.L
