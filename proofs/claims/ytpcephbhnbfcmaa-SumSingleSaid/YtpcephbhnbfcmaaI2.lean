-- Written by this session's program fork.py: a Lean function for each Go function and its walk. Not trusted: Lean checks it.
import Derived.Test.YtpcephbhnbfcmaaI0
import Derived.Test.YtpcephbhnbfcmaaI1
namespace Go.Proofs.Ytpcephbhnbfcmaa.I
open Go.RowKit Go.Proofs.YtpcephbhnbfcmaaW.PrintWords Go.Proofs.YtpcephbhnbfcmaaW.PrintLast Go.Proofs.YtpcephbhnbfcmaaW.PrintMore
attribute [local go_sem] max2_int min2_int max_two min_two max_three min_three max_four min_four   -- for this text's walks alone
set_option linter.unusedVariables false
set_option linter.unusedSimpArgs false

/-! ### made_Dice_Layout: function 22 -/
def made_Dice_Layout.f : Nat → List Int → Int → Option (Int × Int × List Int × List Int × (List (S101)) × (List (S79)) × List Int × Bool × Int)
 | 0, _, _ => none
 | k + 1, s0_0, s0_1 => (made_Dice_Next.f s0_0 s0_1 7).bind fun bt132 => (if bt132.1 = 0 then (some (8, 8, (List.replicate 8 0), ([] : List Int), ([] : List (S101)), ([] : List (S79)), ([] : List Int), false, bt132.2)) else (if bt132.1 = 1 then (some (1, 1, (([0] : List Int)), ([] : List Int), ([] : List (S101)), ([] : List (S79)), ([] : List Int), false, bt132.2)) else (if bt132.1 = 2 then (some (1, 1, (([254] : List Int)), ([] : List Int), ([] : List (S101)), ([] : List (S79)), ([] : List Int), false, bt132.2)) else (if bt132.1 = 3 then (some (8, 8, (([7, 0, 0, 0, 0, 0, 255, 255] : List Int)), ([] : List Int), ([] : List (S101)), ([] : List (S79)), ([] : List Int), true, bt132.2)) else (if bt132.1 = 4 then ((made_Dice_Layout.f k s0_0 bt132.2).bind fun bt146 => ((made_Dice_Layout.f k s0_0 bt146.2.2.2.2.2.2.2.2).bind fun bt165 => ((ref16_Lay.f k (([(⟨bt146.1, bt146.2.1, bt146.2.2.1, bt146.2.2.2.1, bt146.2.2.2.2.1, bt146.2.2.2.2.2.1, bt146.2.2.2.2.2.2.1, bt146.2.2.2.2.2.2.2.1⟩ : S31), (⟨bt165.1, bt165.2.1, bt165.2.2.1, bt165.2.2.2.1, bt165.2.2.2.2.1, bt165.2.2.2.2.2.1, bt165.2.2.2.2.2.2.1, bt165.2.2.2.2.2.2.2.1⟩ : S31)] : List (S31)))).bind fun bt187 => (some (bt187.1, bt187.2.1, bt187.2.2.1, bt187.2.2.2.1, bt187.2.2.2.2.1, bt187.2.2.2.2.2.1, bt187.2.2.2.2.2.2.1, bt187.2.2.2.2.2.2.2.1, bt165.2.2.2.2.2.2.2.2))))) else (if bt132.1 = 5 then (some (0, 1, ([] : List Int), ([] : List Int), ([] : List (S101)), ([] : List (S79)), ([] : List Int), false, bt132.2)) else ((made_Dice_Bytes.f k s0_0 bt132.2 12).bind fun bt207 => ((made_Dice_Next.f s0_0 bt207.2 2).bind fun bt211 => (some ((bt207.1.length : Int), wrap64 (1 + (wrap64 (7 * bt211.1))), bt207.1, ([] : List Int), ([] : List (S101)), ([] : List (S79)), ([] : List Int), false, bt211.2))))))))))
theorem made_Dice_Layout.mono_l : ∀ k, (∀ y0 y1, LeO (made_Dice_Layout.f k y0 y1) (made_Dice_Layout.f (k + 1) y0 y1))
 | 0 => fun _ _ r h => by simp [made_Dice_Layout.f] at h
 | k + 1 => by
  have ih0 := made_Dice_Layout.mono_l k
  ·
   intro y0 y1; unfold made_Dice_Layout.f
   repeat' first
   | (with_reducible exact ih0 _ _)
   | (with_reducible exact made_Dice_Bytes.mono _ _ _ _)
   | (with_reducible exact ref16_Lay.mono _ _)
   | (with_reducible exact LeO.refl _)
   | (with_reducible exact LeO.none _)
   | (with_reducible refine LeO.ite ?_ ?_)
   | (with_reducible refine LeO.bind ?_ (fun _ => ?_))
   | exact ih0 _ _
   | exact made_Dice_Bytes.mono _ _ _ _
   | exact ref16_Lay.mono _ _
   | exact LeO.none _
   | refine LeO.ite ?_ ?_
   | refine LeO.bind ?_ (fun _ => ?_)
theorem made_Dice_Layout.mono : ∀ a0 a1 k, LeO (made_Dice_Layout.f k a0 a1) (made_Dice_Layout.f (k + 1) a0 a1) := by
 intro a0 a1 k; have ih0 := made_Dice_Layout.mono_l k; exact ih0 a0 a1
set_option maxHeartbeats 8000000 in
set_option maxRecDepth 100000 in
theorem made_Dice_Layout.calls (k : Nat) : ∀ (g : Nat) (s0_0 : List Int) (s0_1 : Int) (r1 : Int) (r2 : Int) (r3 : List Int) (r4 : List Int) (r5 : List (S101)) (r6 : List (S79)) (r7 : List Int) (r8 : Bool) (r9 : Int) (w0 w : World) (hI : IsS84 w0 w g s0_0 s0_1) (hB : Below w0.heap.size w0 w) (h : made_Dice_Layout.f k s0_0 s0_1 = some (r1, r2, r3, r4, r5, r6, r7, r8, r9)),
  Calls Try.prog 22 #[.pointer (some ⟨g, 0, none⟩)] w fun e w' => ∃ v2_ v3_ v4_ v5_ v6_ : Value, e = .returned (.agg #[.int .i64 r1, .int .i64 r2, v2_, v3_, v4_, v5_, v6_, .bool r8]) ∧ Kd.R (Kd.int .u8) 5 w' w.heap.size (fun k_ => (w.heap.size ≤ k_)) v2_ r3 ∧ Kd.R (Kd.int .i64) 3 w' w.heap.size (fun k_ => (w.heap.size ≤ k_) ∧ some k_ ≠ (v6_ : Value).ownBlock) v3_ r4 ∧ Kd.N k101 101 w' w.heap.size (fun k_ => (w.heap.size ≤ k_) ∧ some k_ ≠ (v2_ : Value).ownBlock ∧ some k_ ≠ (v3_ : Value).ownBlock ∧ some k_ ≠ (v5_ : Value).ownBlock ∧ some k_ ≠ (v6_ : Value).ownBlock) v4_ r5 ∧ Kd.N k79 79 w' w.heap.size (fun k_ => (w.heap.size ≤ k_) ∧ some k_ ≠ (v2_ : Value).ownBlock ∧ some k_ ≠ (v3_ : Value).ownBlock ∧ some k_ ≠ (v4_ : Value).ownBlock ∧ some k_ ≠ (v6_ : Value).ownBlock) v5_ r6 ∧ Kd.R (Kd.int .i64) 3 w' w.heap.size (fun k_ => (w.heap.size ≤ k_) ∧ some k_ ≠ (v3_ : Value).ownBlock) v6_ r7 ∧ IsS84 w0 w' g s0_0 r9 ∧ Below w0.heap.size w0 w' ∧ KeepBut w w' g none := by
 induction k using Nat.strongRecOn with
 | _ k ih =>
 intro g s0_0 s0_1 r1 r2 r3 r4 r5 r6 r7 r8 r9 w0 w hI hB h; cases k with
 | zero => exact absurd h (by simp [made_Dice_Layout.f])
 | succ k =>
 simp only [made_Dice_Layout.f] at h; have hu31 := Try.underlying31; have HI0 := Aside0.mk hI; have HK := Aside0.mk (KeepBut.refl w g none); have HL := Aside0.mk hB.size; clear hI; have HW0 := Aside0.mk hB.size; have HB := Aside0.mk hB; clear hB; have H : ((made_Dice_Next.f s0_0 s0_1 7).bind fun bt132 => (if bt132.1 = 0 then (some (8, 8, (List.replicate 8 0), ([] : List Int), ([] : List (S101)), ([] : List (S79)), ([] : List Int), false, bt132.2)) else (if bt132.1 = 1 then (some (1, 1, (([0] : List Int)), ([] : List Int), ([] : List (S101)), ([] : List (S79)), ([] : List Int), false, bt132.2)) else (if bt132.1 = 2 then (some (1, 1, (([254] : List Int)), ([] : List Int), ([] : List (S101)), ([] : List (S79)), ([] : List Int), false, bt132.2)) else (if bt132.1 = 3 then (some (8, 8, (([7, 0, 0, 0, 0, 0, 255, 255] : List Int)), ([] : List Int), ([] : List (S101)), ([] : List (S79)), ([] : List Int), true, bt132.2)) else (if bt132.1 = 4 then ((made_Dice_Layout.f k s0_0 bt132.2).bind fun bt146 => ((made_Dice_Layout.f k s0_0 bt146.2.2.2.2.2.2.2.2).bind fun bt165 => ((ref16_Lay.f k (([(⟨bt146.1, bt146.2.1, bt146.2.2.1, bt146.2.2.2.1, bt146.2.2.2.2.1, bt146.2.2.2.2.2.1, bt146.2.2.2.2.2.2.1, bt146.2.2.2.2.2.2.2.1⟩ : S31), (⟨bt165.1, bt165.2.1, bt165.2.2.1, bt165.2.2.2.1, bt165.2.2.2.2.1, bt165.2.2.2.2.2.1, bt165.2.2.2.2.2.2.1, bt165.2.2.2.2.2.2.2.1⟩ : S31)] : List (S31)))).bind fun bt187 => (some (bt187.1, bt187.2.1, bt187.2.2.1, bt187.2.2.2.1, bt187.2.2.2.2.1, bt187.2.2.2.2.2.1, bt187.2.2.2.2.2.2.1, bt187.2.2.2.2.2.2.2.1, bt165.2.2.2.2.2.2.2.2))))) else (if bt132.1 = 5 then (some (0, 1, ([] : List Int), ([] : List Int), ([] : List (S101)), ([] : List (S79)), ([] : List Int), false, bt132.2)) else ((made_Dice_Bytes.f k s0_0 bt132.2 12).bind fun bt207 => ((made_Dice_Next.f s0_0 bt207.2 2).bind fun bt211 => (some ((bt207.1.length : Int), wrap64 (1 + (wrap64 (7 * bt211.1))), bt207.1, ([] : List Int), ([] : List (S101)), ([] : List (S79)), ([] : List Int), false, bt211.2))))))))))) = some (r1, r2, r3, r4, r5, r6, r7, r8, r9) := h; clear h; replace H := Option.bind_eq_some_iff.mp H; obtain ⟨⟨t132, t133⟩, A20, H⟩ := H; (try dsimp only at H); have A2 := Aside0.mk A20; clear A20; by_cases c3 : t132 = 0
 ·
  rw [if_pos c3] at H; have c3b0 : (t132 == 0) = true := beq_iff_eq.mpr c3; have c3b1 : (t132 != 0) = false := bne_eq_false_iff_eq.mpr c3; clear c3; obtain ⟨y134, hy134⟩ : ∃ y_ : List Int, y_ = (List.replicate 8 0) := ⟨_, rfl⟩; replace H : (some (8, 8, y134, ([] : List Int), ([] : List (S101)), ([] : List (S79)), ([] : List Int), false, t133)) = some (r1, r2, r3, r4, r5, r6, r7, r8, r9) := by first | (rw [hy134]; with_reducible exact H) | (have H2_ := (Option.bind_some _ _).symm.trans H; rw [hy134]; with_reducible exact H2_) | (have H2_ := (Option.bind_some _ _).symm.trans H; with_reducible exact H2_) | with_reducible exact H | (rw [hy134]; exact H) | exact H
  have Ny134 := Aside0.mk hy134; clear hy134; simp only [Option.some.injEq, Prod.mk.injEq] at H; obtain ⟨rfl, rfl, rfl, rfl, rfl, rfl, rfl, rfl, rfl⟩ := H; go_enter Try.func22, Try.ntmps22
  go_wp2_with (first | ((with_reducible refine gate_dst (N := 2) rfl ?_); refine box_event ?hg (N := 2) ?hd (cs := #[.int .i64 0, .int .i64 0, .slice none 0 0, .slice none 0 0, .slice none 0 0, .slice none 0 0, .slice none 0 0, .bool false]) (t := 31) ?hr ?_; (case hd => rfl); (case hg => rfl); (case hr => first | (go_simp; done) | (go_simp; rfl)); intro gb131 hg w4 hbox hb; have n0_ := Aside0.mk (IsS84.below ((is0_ HI0.out)) hb); have n1_ := Aside0.mk (KeepBut.trans (kp0_ HK.out) (KeepBut.of_below hb g none) (.inl rfl)); have n2_ := Aside0.mk (below_step ((hb1_ HB.out (IsS84.ge HI0.out))) hb); have n3_ := Aside0.mk (hbox); have n4_ := Aside0.mk ((by rw [hg]; exact (keep_size (w := w) (g := g) (row := none) (kp0_ HK.out)) : w.heap.size ≤ gb131)); have n5_ := Aside0.mk ((Nat.le_trans HW0.out (by rw [hg]; exact (keep_size (w := w) (g := g) (row := none) (kp0_ HK.out)) : w.heap.size ≤ gb131) : w0.heap.size ≤ gb131)); have n6_ := Aside0.mk ((by rw [hg]; exact Nat.ne_of_lt (IsS84.lt (show IsS84 w0 _ g s0_0 s0_1 from (is0_ HI0.out))) : g ≠ gb131)); have n7_ := Aside0.mk ((by rw [hg]; exact Nat.ne_of_gt (IsS84.lt (show IsS84 w0 _ g s0_0 s0_1 from (is0_ HI0.out))) : gb131 ≠ g)); clear HI0 HK HB; revert n0_ n1_ n2_ n3_ n4_ n5_ n6_ n7_; intro HI0 HK HB BK131 GW131 GE131 NB0_131 NB131_0; clear hb hbox hg) | ((with_reducible refine gate_callee (f := 21) rfl ?_); refine goesL_ (some 7) rfl rfl Try.func21 (by kernel_rfl) rfl #[.pointer (some ⟨g, 0, none⟩), .int .i64 7] rfl lm_ ?_; (with_reducible refine (made_Dice_Next.calls g s0_0 s0_1 7 t132 t133 w0 _ ?side1 ?side2 A2.out).mono ?_); (case side1 => exact (is1_ HI0.out NB0_131.out)); (case side2 => exact (hb2_ HB.out (IsS84.ge HI0.out) GE131.out)); rintro e w5 ⟨rfl, hi, hb, hk⟩; refine ⟨_, rfl, ?_⟩; have n0_ := Aside0.mk (KeepBut.blk hk (g' := gb131) (o := .cells #[.int .i64 0, .int .i64 0, .slice none 0 0, .slice none 0 0, .slice none 0 0, .slice none 0 0, .slice none 0 0, .bool false] 31 (0, 0)) (bk_ BK131.out) NB131_0.out (by simp)); have n1_ := Aside0.mk (KeepBut.trans (kp1_ HK.out GW131.out) hk (.inl rfl)); have n2_ := Aside0.mk (hb); have n3_ := Aside0.mk (hi); clear BK131 HK HB HI0; revert n0_ n1_ n2_ n3_; intro BK131 HK HB HI0; (try clear hb); (try clear hb2); (try clear hk); (try clear hi)) | ((with_reducible refine gate_dst (N := 10) rfl ?_); refine Kd.R_make (Kd.int .u8) _ 5 rfl (N := 10) rfl 27 _ _ rfl 8 rfl rfl Try.underlying27 (.int .u8 0) 1 info5 rfl (by decide) (by omega) 0 (ok := fun _ => True) (okp := fun _ => True) rfl (fun _ hk => hk) trivial (by omega) (by omega) (Below.refl _ _) (Nat.le_refl _) ?_; intro v135 w6 ho7 hb hg_ hnew_; clear hg_ hnew_; (first | rw [← Ny134.out] at ho7 | (simp only [Int.reduceToNat] at ho7; rw [← Ny134.out] at ho7)); have n0_ := Aside0.mk (Kd.R_lower (Kd.R_newM (M := fun k_ => (w.heap.size ≤ k_)) ho7 (keep_size (w := w) (g := g) (row := none) (kp1_ HK.out GW131.out)) (fun k_ h_ => h_)) (keep_size (w := w) (g := g) (row := none) (kp1_ HK.out GW131.out))); have n1_ := Aside0.mk (IsS84.below ((is1_ HI0.out NB0_131.out)) hb); have n2_ := Aside0.mk (bb_ BK131.out hb); have n3_ := Aside0.mk (KeepBut.trans (kp1_ HK.out GW131.out) (KeepBut.of_below hb g none) (.inl rfl)); have n4_ := Aside0.mk (below_step ((hb2_ HB.out (IsS84.ge HI0.out) GE131.out)) hb); clear HI0 BK131 HK HB; revert n0_ n1_ n2_ n3_ n4_; intro HO136 HI0 BK131 HK HB; clear hb ho7; obtain ⟨Ao8, co8, eo8⟩ := Kd.R_slice HO136.out; subst eo8; have hnb9 := NB131_0.out; have hnc9 := NB0_131.out; obtain ⟨hcz10_0, hcz10_1, hcz10_2, hcz10_3, hcz10_4, hcz10_5, hcz10_6, hcz10_7, hfz10_0, hfz10_1, hfz10_2, hfz10_3, hfz10_4, hfz10_5, hfz10_6, hfz10_7⟩ := bx8_ BK131.out))
  refine bodyPost_ret (results_cell_row rfl _ _ gb131 31 #[.int .i64 8, .int .i64 8, .slice Ao8 y134.length co8, .slice none 0 0, .slice none 0 0, .slice none 0 0, .slice none 0 0, .bool false] (0, 0) _ rfl ((p8_ BK131.out)) Try.underlying31 rfl (by kernel_rfl)) rfl ?_; exact ⟨_, _, _, _, _, by first | rfl | (simp [errW_none, errW_some] <;> rfl) | (simp [*, errW_none, errW_some] <;> rfl), by (with_reducible repeat (first | apply Kd.R_alloc | apply Kd.R_drewN | apply Kd.R_drew)); exact Kd.R_mono (far8R_ (Kd.R_types HO136.out BK131.out (by decide)) _ _ _ _ _ _ _ _ fun _ hk => hk.2) (fun _ hk => hk.1.1), by first | exact Kd.R_nil _ _ _ _ _ | exact Kd.N_nil _ _ _ _ _ | exact Kd.V_nil _ _ _ _ _ | exact Kd.Q_nil _ _ _ _ _ | exact Kd.S_nil _ _ _ _ _, by first | exact Kd.R_nil _ _ _ _ _ | exact Kd.N_nil _ _ _ _ _ | exact Kd.V_nil _ _ _ _ _ | exact Kd.Q_nil _ _ _ _ _ | exact Kd.S_nil _ _ _ _ _, by first | exact Kd.R_nil _ _ _ _ _ | exact Kd.N_nil _ _ _ _ _ | exact Kd.V_nil _ _ _ _ _ | exact Kd.Q_nil _ _ _ _ _ | exact Kd.S_nil _ _ _ _ _, by first | exact Kd.R_nil _ _ _ _ _ | exact Kd.N_nil _ _ _ _ _ | exact Kd.V_nil _ _ _ _ _ | exact Kd.Q_nil _ _ _ _ _ | exact Kd.S_nil _ _ _ _ _, (is1_ HI0.out NB0_131.out), (hb2_ HB.out (IsS84.ge HI0.out) GE131.out), (kp1_ HK.out GW131.out)⟩
 ·
  rw [if_neg c3] at H; have c3b0 : (t132 == 0) = false := beq_eq_false_iff_ne.mpr c3; have c3b1 : (t132 != 0) = true := bne_iff_ne.mpr c3; by_cases c11 : t132 = 1
  ·
   rw [if_pos c11] at H; have c11b0 : (t132 == 1) = true := beq_iff_eq.mpr c11; have c11b1 : (t132 != 1) = false := bne_eq_false_iff_eq.mpr c11; clear c11; obtain ⟨y137, hy137⟩ : ∃ y_ : List Int, y_ = (([0] : List Int)) := ⟨_, rfl⟩; replace H : (some (1, 1, y137, ([] : List Int), ([] : List (S101)), ([] : List (S79)), ([] : List Int), false, t133)) = some (r1, r2, r3, r4, r5, r6, r7, r8, r9) := by first | (rw [hy137]; with_reducible exact H) | (have H2_ := (Option.bind_some _ _).symm.trans H; rw [hy137]; with_reducible exact H2_) | (have H2_ := (Option.bind_some _ _).symm.trans H; with_reducible exact H2_) | with_reducible exact H | (rw [hy137]; exact H) | exact H
   have Ny137 := Aside0.mk hy137; clear hy137; simp only [Option.some.injEq, Prod.mk.injEq] at H; obtain ⟨rfl, rfl, rfl, rfl, rfl, rfl, rfl, rfl, rfl⟩ := H; go_enter Try.func22, Try.ntmps22
   go_wp2_with (first | ((with_reducible refine gate_dst (N := 2) rfl ?_); refine box_event ?hg (N := 2) ?hd (cs := #[.int .i64 0, .int .i64 0, .slice none 0 0, .slice none 0 0, .slice none 0 0, .slice none 0 0, .slice none 0 0, .bool false]) (t := 31) ?hr ?_; (case hd => rfl); (case hg => rfl); (case hr => first | (go_simp; done) | (go_simp; rfl)); intro gb131 hg w12 hbox hb; have n0_ := Aside0.mk (IsS84.below ((is0_ HI0.out)) hb); have n1_ := Aside0.mk (KeepBut.trans (kp0_ HK.out) (KeepBut.of_below hb g none) (.inl rfl)); have n2_ := Aside0.mk (below_step ((hb1_ HB.out (IsS84.ge HI0.out))) hb); have n3_ := Aside0.mk (hbox); have n4_ := Aside0.mk ((by rw [hg]; exact (keep_size (w := w) (g := g) (row := none) (kp0_ HK.out)) : w.heap.size ≤ gb131)); have n5_ := Aside0.mk ((Nat.le_trans HW0.out (by rw [hg]; exact (keep_size (w := w) (g := g) (row := none) (kp0_ HK.out)) : w.heap.size ≤ gb131) : w0.heap.size ≤ gb131)); have n6_ := Aside0.mk ((by rw [hg]; exact Nat.ne_of_lt (IsS84.lt (show IsS84 w0 _ g s0_0 s0_1 from (is0_ HI0.out))) : g ≠ gb131)); have n7_ := Aside0.mk ((by rw [hg]; exact Nat.ne_of_gt (IsS84.lt (show IsS84 w0 _ g s0_0 s0_1 from (is0_ HI0.out))) : gb131 ≠ g)); clear HI0 HK HB; revert n0_ n1_ n2_ n3_ n4_ n5_ n6_ n7_; intro HI0 HK HB BK131 GW131 GE131 NB0_131 NB131_0; clear hb hbox hg) | ((with_reducible refine gate_callee (f := 21) rfl ?_); refine goesL_ (some 7) rfl rfl Try.func21 (by kernel_rfl) rfl #[.pointer (some ⟨g, 0, none⟩), .int .i64 7] rfl lm_ ?_; (with_reducible refine (made_Dice_Next.calls g s0_0 s0_1 7 t132 t133 w0 _ ?side1 ?side2 A2.out).mono ?_); (case side1 => exact (is1_ HI0.out NB0_131.out)); (case side2 => exact (hb2_ HB.out (IsS84.ge HI0.out) GE131.out)); rintro e w13 ⟨rfl, hi, hb, hk⟩; refine ⟨_, rfl, ?_⟩; have n0_ := Aside0.mk (KeepBut.blk hk (g' := gb131) (o := .cells #[.int .i64 0, .int .i64 0, .slice none 0 0, .slice none 0 0, .slice none 0 0, .slice none 0 0, .slice none 0 0, .bool false] 31 (0, 0)) (bk_ BK131.out) NB131_0.out (by simp)); have n1_ := Aside0.mk (KeepBut.trans (kp1_ HK.out GW131.out) hk (.inl rfl)); have n2_ := Aside0.mk (hb); have n3_ := Aside0.mk (hi); clear BK131 HK HB HI0; revert n0_ n1_ n2_ n3_; intro BK131 HK HB HI0; (try clear hb); (try clear hb2); (try clear hk); (try clear hi)) | ((with_reducible refine gate_dst (N := 14) rfl ?_); refine Kd.R_lit (Kd.int .u8) _ 5 ?hg (N := 14) ?hd (xs := ([0] : List Int)) (inner := [.int .u8 0]) (ok := fun _ => True) (okp := fun _ => True) ?hr ?hp (fun _ hk => hk) trivial (Below.refl _ _) (Nat.le_refl _) (by simp) ?_; (case hd => rfl); (case hg => rfl); (case hr => first | (go_simp; done) | (go_simp; rfl)); (case hp => exact (Reps.one (show Kd.M (Kd.int .u8) _ _ _ 0 [.int .u8 0] from rfl) (Reps.none _ _))); intro v138 w14 ho15 hb hg_ hnew_; clear hg_ hnew_; (first | rw [← Ny137.out] at ho15 | (simp only [Int.reduceToNat] at ho15; rw [← Ny137.out] at ho15)); have n0_ := Aside0.mk (Kd.R_lower (Kd.R_newM (M := fun k_ => (w.heap.size ≤ k_)) ho15 (keep_size (w := w) (g := g) (row := none) (kp1_ HK.out GW131.out)) (fun k_ h_ => h_)) (keep_size (w := w) (g := g) (row := none) (kp1_ HK.out GW131.out))); have n1_ := Aside0.mk (IsS84.below ((is1_ HI0.out NB0_131.out)) hb); have n2_ := Aside0.mk (bb_ BK131.out hb); have n3_ := Aside0.mk (KeepBut.trans (kp1_ HK.out GW131.out) (KeepBut.of_below hb g none) (.inl rfl)); have n4_ := Aside0.mk (below_step ((hb2_ HB.out (IsS84.ge HI0.out) GE131.out)) hb); clear HI0 BK131 HK HB; revert n0_ n1_ n2_ n3_ n4_; intro HO139 HI0 BK131 HK HB; clear hb ho15; obtain ⟨Ao16, co16, eo16⟩ := Kd.R_slice HO139.out; subst eo16; have hnb17 := NB131_0.out; have hnc17 := NB0_131.out; obtain ⟨hcz18_0, hcz18_1, hcz18_2, hcz18_3, hcz18_4, hcz18_5, hcz18_6, hcz18_7, hfz18_0, hfz18_1, hfz18_2, hfz18_3, hfz18_4, hfz18_5, hfz18_6, hfz18_7⟩ := bx8_ BK131.out))
   refine bodyPost_ret (results_cell_row rfl _ _ gb131 31 #[.int .i64 1, .int .i64 1, .slice Ao16 y137.length co16, .slice none 0 0, .slice none 0 0, .slice none 0 0, .slice none 0 0, .bool false] (0, 0) _ rfl ((p8_ BK131.out)) Try.underlying31 rfl (by kernel_rfl)) rfl ?_; exact ⟨_, _, _, _, _, by first | rfl | (simp [errW_none, errW_some] <;> rfl) | (simp [*, errW_none, errW_some] <;> rfl), by (with_reducible repeat (first | apply Kd.R_alloc | apply Kd.R_drewN | apply Kd.R_drew)); exact Kd.R_mono (far8R_ (Kd.R_types HO139.out BK131.out (by decide)) _ _ _ _ _ _ _ _ fun _ hk => hk.2) (fun _ hk => hk.1.1), by first | exact Kd.R_nil _ _ _ _ _ | exact Kd.N_nil _ _ _ _ _ | exact Kd.V_nil _ _ _ _ _ | exact Kd.Q_nil _ _ _ _ _ | exact Kd.S_nil _ _ _ _ _, by first | exact Kd.R_nil _ _ _ _ _ | exact Kd.N_nil _ _ _ _ _ | exact Kd.V_nil _ _ _ _ _ | exact Kd.Q_nil _ _ _ _ _ | exact Kd.S_nil _ _ _ _ _, by first | exact Kd.R_nil _ _ _ _ _ | exact Kd.N_nil _ _ _ _ _ | exact Kd.V_nil _ _ _ _ _ | exact Kd.Q_nil _ _ _ _ _ | exact Kd.S_nil _ _ _ _ _, by first | exact Kd.R_nil _ _ _ _ _ | exact Kd.N_nil _ _ _ _ _ | exact Kd.V_nil _ _ _ _ _ | exact Kd.Q_nil _ _ _ _ _ | exact Kd.S_nil _ _ _ _ _, (is1_ HI0.out NB0_131.out), (hb2_ HB.out (IsS84.ge HI0.out) GE131.out), (kp1_ HK.out GW131.out)⟩
  ·
   rw [if_neg c11] at H; have c11b0 : (t132 == 1) = false := beq_eq_false_iff_ne.mpr c11; have c11b1 : (t132 != 1) = true := bne_iff_ne.mpr c11; by_cases c19 : t132 = 2
   ·
    rw [if_pos c19] at H; have c19b0 : (t132 == 2) = true := beq_iff_eq.mpr c19; have c19b1 : (t132 != 2) = false := bne_eq_false_iff_eq.mpr c19; clear c19; obtain ⟨y140, hy140⟩ : ∃ y_ : List Int, y_ = (([254] : List Int)) := ⟨_, rfl⟩; replace H : (some (1, 1, y140, ([] : List Int), ([] : List (S101)), ([] : List (S79)), ([] : List Int), false, t133)) = some (r1, r2, r3, r4, r5, r6, r7, r8, r9) := by first | (rw [hy140]; with_reducible exact H) | (have H2_ := (Option.bind_some _ _).symm.trans H; rw [hy140]; with_reducible exact H2_) | (have H2_ := (Option.bind_some _ _).symm.trans H; with_reducible exact H2_) | with_reducible exact H | (rw [hy140]; exact H) | exact H
    have Ny140 := Aside0.mk hy140; clear hy140; simp only [Option.some.injEq, Prod.mk.injEq] at H; obtain ⟨rfl, rfl, rfl, rfl, rfl, rfl, rfl, rfl, rfl⟩ := H; go_enter Try.func22, Try.ntmps22
    go_wp2_with (first | ((with_reducible refine gate_dst (N := 2) rfl ?_); refine box_event ?hg (N := 2) ?hd (cs := #[.int .i64 0, .int .i64 0, .slice none 0 0, .slice none 0 0, .slice none 0 0, .slice none 0 0, .slice none 0 0, .bool false]) (t := 31) ?hr ?_; (case hd => rfl); (case hg => rfl); (case hr => first | (go_simp; done) | (go_simp; rfl)); intro gb131 hg w20 hbox hb; have n0_ := Aside0.mk (IsS84.below ((is0_ HI0.out)) hb); have n1_ := Aside0.mk (KeepBut.trans (kp0_ HK.out) (KeepBut.of_below hb g none) (.inl rfl)); have n2_ := Aside0.mk (below_step ((hb1_ HB.out (IsS84.ge HI0.out))) hb); have n3_ := Aside0.mk (hbox); have n4_ := Aside0.mk ((by rw [hg]; exact (keep_size (w := w) (g := g) (row := none) (kp0_ HK.out)) : w.heap.size ≤ gb131)); have n5_ := Aside0.mk ((Nat.le_trans HW0.out (by rw [hg]; exact (keep_size (w := w) (g := g) (row := none) (kp0_ HK.out)) : w.heap.size ≤ gb131) : w0.heap.size ≤ gb131)); have n6_ := Aside0.mk ((by rw [hg]; exact Nat.ne_of_lt (IsS84.lt (show IsS84 w0 _ g s0_0 s0_1 from (is0_ HI0.out))) : g ≠ gb131)); have n7_ := Aside0.mk ((by rw [hg]; exact Nat.ne_of_gt (IsS84.lt (show IsS84 w0 _ g s0_0 s0_1 from (is0_ HI0.out))) : gb131 ≠ g)); clear HI0 HK HB; revert n0_ n1_ n2_ n3_ n4_ n5_ n6_ n7_; intro HI0 HK HB BK131 GW131 GE131 NB0_131 NB131_0; clear hb hbox hg) | ((with_reducible refine gate_callee (f := 21) rfl ?_); refine goesL_ (some 7) rfl rfl Try.func21 (by kernel_rfl) rfl #[.pointer (some ⟨g, 0, none⟩), .int .i64 7] rfl lm_ ?_; (with_reducible refine (made_Dice_Next.calls g s0_0 s0_1 7 t132 t133 w0 _ ?side1 ?side2 A2.out).mono ?_); (case side1 => exact (is1_ HI0.out NB0_131.out)); (case side2 => exact (hb2_ HB.out (IsS84.ge HI0.out) GE131.out)); rintro e w21 ⟨rfl, hi, hb, hk⟩; refine ⟨_, rfl, ?_⟩; have n0_ := Aside0.mk (KeepBut.blk hk (g' := gb131) (o := .cells #[.int .i64 0, .int .i64 0, .slice none 0 0, .slice none 0 0, .slice none 0 0, .slice none 0 0, .slice none 0 0, .bool false] 31 (0, 0)) (bk_ BK131.out) NB131_0.out (by simp)); have n1_ := Aside0.mk (KeepBut.trans (kp1_ HK.out GW131.out) hk (.inl rfl)); have n2_ := Aside0.mk (hb); have n3_ := Aside0.mk (hi); clear BK131 HK HB HI0; revert n0_ n1_ n2_ n3_; intro BK131 HK HB HI0; (try clear hb); (try clear hb2); (try clear hk); (try clear hi)) | ((with_reducible refine gate_dst (N := 18) rfl ?_); refine Kd.R_lit (Kd.int .u8) _ 5 ?hg (N := 18) ?hd (xs := ([254] : List Int)) (inner := [.int .u8 254]) (ok := fun _ => True) (okp := fun _ => True) ?hr ?hp (fun _ hk => hk) trivial (Below.refl _ _) (Nat.le_refl _) (by simp) ?_; (case hd => rfl); (case hg => rfl); (case hr => first | (go_simp; done) | (go_simp; rfl)); (case hp => exact (Reps.one (show Kd.M (Kd.int .u8) _ _ _ 254 [.int .u8 254] from rfl) (Reps.none _ _))); intro v141 w22 ho23 hb hg_ hnew_; clear hg_ hnew_; (first | rw [← Ny140.out] at ho23 | (simp only [Int.reduceToNat] at ho23; rw [← Ny140.out] at ho23)); have n0_ := Aside0.mk (Kd.R_lower (Kd.R_newM (M := fun k_ => (w.heap.size ≤ k_)) ho23 (keep_size (w := w) (g := g) (row := none) (kp1_ HK.out GW131.out)) (fun k_ h_ => h_)) (keep_size (w := w) (g := g) (row := none) (kp1_ HK.out GW131.out))); have n1_ := Aside0.mk (IsS84.below ((is1_ HI0.out NB0_131.out)) hb); have n2_ := Aside0.mk (bb_ BK131.out hb); have n3_ := Aside0.mk (KeepBut.trans (kp1_ HK.out GW131.out) (KeepBut.of_below hb g none) (.inl rfl)); have n4_ := Aside0.mk (below_step ((hb2_ HB.out (IsS84.ge HI0.out) GE131.out)) hb); clear HI0 BK131 HK HB; revert n0_ n1_ n2_ n3_ n4_; intro HO142 HI0 BK131 HK HB; clear hb ho23; obtain ⟨Ao24, co24, eo24⟩ := Kd.R_slice HO142.out; subst eo24; have hnb25 := NB131_0.out; have hnc25 := NB0_131.out; obtain ⟨hcz26_0, hcz26_1, hcz26_2, hcz26_3, hcz26_4, hcz26_5, hcz26_6, hcz26_7, hfz26_0, hfz26_1, hfz26_2, hfz26_3, hfz26_4, hfz26_5, hfz26_6, hfz26_7⟩ := bx8_ BK131.out))
    refine bodyPost_ret (results_cell_row rfl _ _ gb131 31 #[.int .i64 1, .int .i64 1, .slice Ao24 y140.length co24, .slice none 0 0, .slice none 0 0, .slice none 0 0, .slice none 0 0, .bool false] (0, 0) _ rfl ((p8_ BK131.out)) Try.underlying31 rfl (by kernel_rfl)) rfl ?_; exact ⟨_, _, _, _, _, by first | rfl | (simp [errW_none, errW_some] <;> rfl) | (simp [*, errW_none, errW_some] <;> rfl), by (with_reducible repeat (first | apply Kd.R_alloc | apply Kd.R_drewN | apply Kd.R_drew)); exact Kd.R_mono (far8R_ (Kd.R_types HO142.out BK131.out (by decide)) _ _ _ _ _ _ _ _ fun _ hk => hk.2) (fun _ hk => hk.1.1), by first | exact Kd.R_nil _ _ _ _ _ | exact Kd.N_nil _ _ _ _ _ | exact Kd.V_nil _ _ _ _ _ | exact Kd.Q_nil _ _ _ _ _ | exact Kd.S_nil _ _ _ _ _, by first | exact Kd.R_nil _ _ _ _ _ | exact Kd.N_nil _ _ _ _ _ | exact Kd.V_nil _ _ _ _ _ | exact Kd.Q_nil _ _ _ _ _ | exact Kd.S_nil _ _ _ _ _, by first | exact Kd.R_nil _ _ _ _ _ | exact Kd.N_nil _ _ _ _ _ | exact Kd.V_nil _ _ _ _ _ | exact Kd.Q_nil _ _ _ _ _ | exact Kd.S_nil _ _ _ _ _, by first | exact Kd.R_nil _ _ _ _ _ | exact Kd.N_nil _ _ _ _ _ | exact Kd.V_nil _ _ _ _ _ | exact Kd.Q_nil _ _ _ _ _ | exact Kd.S_nil _ _ _ _ _, (is1_ HI0.out NB0_131.out), (hb2_ HB.out (IsS84.ge HI0.out) GE131.out), (kp1_ HK.out GW131.out)⟩
   ·
    rw [if_neg c19] at H; have c19b0 : (t132 == 2) = false := beq_eq_false_iff_ne.mpr c19; have c19b1 : (t132 != 2) = true := bne_iff_ne.mpr c19; by_cases c27 : t132 = 3
    ·
     rw [if_pos c27] at H; have c27b0 : (t132 == 3) = true := beq_iff_eq.mpr c27; have c27b1 : (t132 != 3) = false := bne_eq_false_iff_eq.mpr c27; clear c27; obtain ⟨y143, hy143⟩ : ∃ y_ : List Int, y_ = (([7, 0, 0, 0, 0, 0, 255, 255] : List Int)) := ⟨_, rfl⟩; replace H : (some (8, 8, y143, ([] : List Int), ([] : List (S101)), ([] : List (S79)), ([] : List Int), true, t133)) = some (r1, r2, r3, r4, r5, r6, r7, r8, r9) := by first | (rw [hy143]; with_reducible exact H) | (have H2_ := (Option.bind_some _ _).symm.trans H; rw [hy143]; with_reducible exact H2_) | (have H2_ := (Option.bind_some _ _).symm.trans H; with_reducible exact H2_) | with_reducible exact H | (rw [hy143]; exact H) | exact H
     have Ny143 := Aside0.mk hy143; clear hy143; simp only [Option.some.injEq, Prod.mk.injEq] at H; obtain ⟨rfl, rfl, rfl, rfl, rfl, rfl, rfl, rfl, rfl⟩ := H; go_enter Try.func22, Try.ntmps22
     go_wp2_with (first | ((with_reducible refine gate_dst (N := 2) rfl ?_); refine box_event ?hg (N := 2) ?hd (cs := #[.int .i64 0, .int .i64 0, .slice none 0 0, .slice none 0 0, .slice none 0 0, .slice none 0 0, .slice none 0 0, .bool false]) (t := 31) ?hr ?_; (case hd => rfl); (case hg => rfl); (case hr => first | (go_simp; done) | (go_simp; rfl)); intro gb131 hg w28 hbox hb; have n0_ := Aside0.mk (IsS84.below ((is0_ HI0.out)) hb); have n1_ := Aside0.mk (KeepBut.trans (kp0_ HK.out) (KeepBut.of_below hb g none) (.inl rfl)); have n2_ := Aside0.mk (below_step ((hb1_ HB.out (IsS84.ge HI0.out))) hb); have n3_ := Aside0.mk (hbox); have n4_ := Aside0.mk ((by rw [hg]; exact (keep_size (w := w) (g := g) (row := none) (kp0_ HK.out)) : w.heap.size ≤ gb131)); have n5_ := Aside0.mk ((Nat.le_trans HW0.out (by rw [hg]; exact (keep_size (w := w) (g := g) (row := none) (kp0_ HK.out)) : w.heap.size ≤ gb131) : w0.heap.size ≤ gb131)); have n6_ := Aside0.mk ((by rw [hg]; exact Nat.ne_of_lt (IsS84.lt (show IsS84 w0 _ g s0_0 s0_1 from (is0_ HI0.out))) : g ≠ gb131)); have n7_ := Aside0.mk ((by rw [hg]; exact Nat.ne_of_gt (IsS84.lt (show IsS84 w0 _ g s0_0 s0_1 from (is0_ HI0.out))) : gb131 ≠ g)); clear HI0 HK HB; revert n0_ n1_ n2_ n3_ n4_ n5_ n6_ n7_; intro HI0 HK HB BK131 GW131 GE131 NB0_131 NB131_0; clear hb hbox hg) | ((with_reducible refine gate_callee (f := 21) rfl ?_); refine goesL_ (some 7) rfl rfl Try.func21 (by kernel_rfl) rfl #[.pointer (some ⟨g, 0, none⟩), .int .i64 7] rfl lm_ ?_; (with_reducible refine (made_Dice_Next.calls g s0_0 s0_1 7 t132 t133 w0 _ ?side1 ?side2 A2.out).mono ?_); (case side1 => exact (is1_ HI0.out NB0_131.out)); (case side2 => exact (hb2_ HB.out (IsS84.ge HI0.out) GE131.out)); rintro e w29 ⟨rfl, hi, hb, hk⟩; refine ⟨_, rfl, ?_⟩; have n0_ := Aside0.mk (KeepBut.blk hk (g' := gb131) (o := .cells #[.int .i64 0, .int .i64 0, .slice none 0 0, .slice none 0 0, .slice none 0 0, .slice none 0 0, .slice none 0 0, .bool false] 31 (0, 0)) (bk_ BK131.out) NB131_0.out (by simp)); have n1_ := Aside0.mk (KeepBut.trans (kp1_ HK.out GW131.out) hk (.inl rfl)); have n2_ := Aside0.mk (hb); have n3_ := Aside0.mk (hi); clear BK131 HK HB HI0; revert n0_ n1_ n2_ n3_; intro BK131 HK HB HI0; (try clear hb); (try clear hb2); (try clear hk); (try clear hi)) | ((with_reducible refine gate_dst (N := 22) rfl ?_); refine Kd.R_lit (Kd.int .u8) _ 5 ?hg (N := 22) ?hd (xs := ([7, 0, 0, 0, 0, 0, 255, 255] : List Int)) (inner := [.int .u8 7, .int .u8 0, .int .u8 0, .int .u8 0, .int .u8 0, .int .u8 0, .int .u8 255, .int .u8 255]) (ok := fun _ => True) (okp := fun _ => True) ?hr ?hp (fun _ hk => hk) trivial (Below.refl _ _) (Nat.le_refl _) (by simp) ?_; (case hd => rfl); (case hg => rfl); (case hr => first | (go_simp; done) | (go_simp; rfl)); (case hp => exact (Reps.one (show Kd.M (Kd.int .u8) _ _ _ 7 [.int .u8 7] from rfl) (Reps.one (show Kd.M (Kd.int .u8) _ _ _ 0 [.int .u8 0] from rfl) (Reps.one (show Kd.M (Kd.int .u8) _ _ _ 0 [.int .u8 0] from rfl) (Reps.one (show Kd.M (Kd.int .u8) _ _ _ 0 [.int .u8 0] from rfl) (Reps.one (show Kd.M (Kd.int .u8) _ _ _ 0 [.int .u8 0] from rfl) (Reps.one (show Kd.M (Kd.int .u8) _ _ _ 0 [.int .u8 0] from rfl) (Reps.one (show Kd.M (Kd.int .u8) _ _ _ 255 [.int .u8 255] from rfl) (Reps.one (show Kd.M (Kd.int .u8) _ _ _ 255 [.int .u8 255] from rfl) (Reps.none _ _)))))))))); intro v144 w30 ho31 hb hg_ hnew_; clear hg_ hnew_; (first | rw [← Ny143.out] at ho31 | (simp only [Int.reduceToNat] at ho31; rw [← Ny143.out] at ho31)); have n0_ := Aside0.mk (Kd.R_lower (Kd.R_newM (M := fun k_ => (w.heap.size ≤ k_)) ho31 (keep_size (w := w) (g := g) (row := none) (kp1_ HK.out GW131.out)) (fun k_ h_ => h_)) (keep_size (w := w) (g := g) (row := none) (kp1_ HK.out GW131.out))); have n1_ := Aside0.mk (IsS84.below ((is1_ HI0.out NB0_131.out)) hb); have n2_ := Aside0.mk (bb_ BK131.out hb); have n3_ := Aside0.mk (KeepBut.trans (kp1_ HK.out GW131.out) (KeepBut.of_below hb g none) (.inl rfl)); have n4_ := Aside0.mk (below_step ((hb2_ HB.out (IsS84.ge HI0.out) GE131.out)) hb); clear HI0 BK131 HK HB; revert n0_ n1_ n2_ n3_ n4_; intro HO145 HI0 BK131 HK HB; clear hb ho31; obtain ⟨Ao32, co32, eo32⟩ := Kd.R_slice HO145.out; subst eo32; have hnb33 := NB131_0.out; have hnc33 := NB0_131.out; obtain ⟨hcz34_0, hcz34_1, hcz34_2, hcz34_3, hcz34_4, hcz34_5, hcz34_6, hcz34_7, hfz34_0, hfz34_1, hfz34_2, hfz34_3, hfz34_4, hfz34_5, hfz34_6, hfz34_7⟩ := bx8_ BK131.out))
     refine bodyPost_ret (results_cell_row rfl _ _ gb131 31 #[.int .i64 8, .int .i64 8, .slice Ao32 y143.length co32, .slice none 0 0, .slice none 0 0, .slice none 0 0, .slice none 0 0, .bool true] (0, 0) _ rfl ((p8_ BK131.out)) Try.underlying31 rfl (by kernel_rfl)) rfl ?_; exact ⟨_, _, _, _, _, by first | rfl | (simp [errW_none, errW_some] <;> rfl) | (simp [*, errW_none, errW_some] <;> rfl), by (with_reducible repeat (first | apply Kd.R_alloc | apply Kd.R_drewN | apply Kd.R_drew)); exact Kd.R_mono (far8R_ (Kd.R_types HO145.out BK131.out (by decide)) _ _ _ _ _ _ _ _ fun _ hk => hk.2) (fun _ hk => hk.1.1), by first | exact Kd.R_nil _ _ _ _ _ | exact Kd.N_nil _ _ _ _ _ | exact Kd.V_nil _ _ _ _ _ | exact Kd.Q_nil _ _ _ _ _ | exact Kd.S_nil _ _ _ _ _, by first | exact Kd.R_nil _ _ _ _ _ | exact Kd.N_nil _ _ _ _ _ | exact Kd.V_nil _ _ _ _ _ | exact Kd.Q_nil _ _ _ _ _ | exact Kd.S_nil _ _ _ _ _, by first | exact Kd.R_nil _ _ _ _ _ | exact Kd.N_nil _ _ _ _ _ | exact Kd.V_nil _ _ _ _ _ | exact Kd.Q_nil _ _ _ _ _ | exact Kd.S_nil _ _ _ _ _, by first | exact Kd.R_nil _ _ _ _ _ | exact Kd.N_nil _ _ _ _ _ | exact Kd.V_nil _ _ _ _ _ | exact Kd.Q_nil _ _ _ _ _ | exact Kd.S_nil _ _ _ _ _, (is1_ HI0.out NB0_131.out), (hb2_ HB.out (IsS84.ge HI0.out) GE131.out), (kp1_ HK.out GW131.out)⟩
    ·
     rw [if_neg c27] at H; have c27b0 : (t132 == 3) = false := beq_eq_false_iff_ne.mpr c27; have c27b1 : (t132 != 3) = true := bne_iff_ne.mpr c27; by_cases c35 : t132 = 4
     ·
      rw [if_pos c35] at H; have c35b0 : (t132 == 4) = true := beq_iff_eq.mpr c35; have c35b1 : (t132 != 4) = false := bne_eq_false_iff_eq.mpr c35; clear c35; replace H := Option.bind_eq_some_iff.mp H; obtain ⟨⟨t146, t147, t148, t151, t154, t157, t160, t163, t164⟩, A360, H⟩ := H; (try dsimp only at H); have A36 := Aside0.mk A360; clear A360; replace H := Option.bind_eq_some_iff.mp H; obtain ⟨⟨t165, t166, t167, t170, t173, t176, t179, t182, t183⟩, A370, H⟩ := H; (try dsimp only at H); have A37 := Aside0.mk A370; clear A370; obtain ⟨y184, hy184⟩ : ∃ y_ : List (S31), y_ = (([(⟨t146, t147, t148, t151, t154, t157, t160, t163⟩ : S31), (⟨t165, t166, t167, t170, t173, t176, t179, t182⟩ : S31)] : List (S31))) := ⟨_, rfl⟩; replace H : ((ref16_Lay.f k y184).bind fun bt187 => (some (bt187.1, bt187.2.1, bt187.2.2.1, bt187.2.2.2.1, bt187.2.2.2.2.1, bt187.2.2.2.2.2.1, bt187.2.2.2.2.2.2.1, bt187.2.2.2.2.2.2.2.1, t183))) = some (r1, r2, r3, r4, r5, r6, r7, r8, r9) := by first | (rw [hy184]; with_reducible exact H) | (have H2_ := (Option.bind_some _ _).symm.trans H; rw [hy184]; with_reducible exact H2_) | (have H2_ := (Option.bind_some _ _).symm.trans H; with_reducible exact H2_) | with_reducible exact H | (rw [hy184]; exact H) | exact H
      have Ny184 := Aside0.mk hy184; clear hy184; replace H := Option.bind_eq_some_iff.mp H; obtain ⟨⟨t187, t188, t189, t192, t195, t198, t201, t204, t205⟩, A380, H⟩ := H; (try dsimp only at H); have A38 := Aside0.mk A380; clear A380; simp only [Option.some.injEq, Prod.mk.injEq] at H; obtain ⟨rfl, rfl, rfl, rfl, rfl, rfl, rfl, rfl, rfl⟩ := H; go_enter Try.func22, Try.ntmps22
      go_wp2_with (first | ((with_reducible refine gate_dst (N := 2) rfl ?_); refine box_event ?hg (N := 2) ?hd (cs := #[.int .i64 0, .int .i64 0, .slice none 0 0, .slice none 0 0, .slice none 0 0, .slice none 0 0, .slice none 0 0, .bool false]) (t := 31) ?hr ?_; (case hd => rfl); (case hg => rfl); (case hr => first | (go_simp; done) | (go_simp; rfl)); intro gb131 hg w39 hbox hb; have n0_ := Aside0.mk (IsS84.below ((is0_ HI0.out)) hb); have n1_ := Aside0.mk (KeepBut.trans (kp0_ HK.out) (KeepBut.of_below hb g none) (.inl rfl)); have n2_ := Aside0.mk (below_step ((hb1_ HB.out (IsS84.ge HI0.out))) hb); have n3_ := Aside0.mk (hbox); have n4_ := Aside0.mk ((by rw [hg]; exact (keep_size (w := w) (g := g) (row := none) (kp0_ HK.out)) : w.heap.size ≤ gb131)); have n5_ := Aside0.mk ((Nat.le_trans HW0.out (by rw [hg]; exact (keep_size (w := w) (g := g) (row := none) (kp0_ HK.out)) : w.heap.size ≤ gb131) : w0.heap.size ≤ gb131)); have n6_ := Aside0.mk ((by rw [hg]; exact Nat.ne_of_lt (IsS84.lt (show IsS84 w0 _ g s0_0 s0_1 from (is0_ HI0.out))) : g ≠ gb131)); have n7_ := Aside0.mk ((by rw [hg]; exact Nat.ne_of_gt (IsS84.lt (show IsS84 w0 _ g s0_0 s0_1 from (is0_ HI0.out))) : gb131 ≠ g)); clear HI0 HK HB; revert n0_ n1_ n2_ n3_ n4_ n5_ n6_ n7_; intro HI0 HK HB BK131 GW131 GE131 NB0_131 NB131_0; clear hb hbox hg) | ((with_reducible refine gate_callee (f := 21) rfl ?_); refine goesL_ (some 7) rfl rfl Try.func21 (by kernel_rfl) rfl #[.pointer (some ⟨g, 0, none⟩), .int .i64 7] rfl lm_ ?_; (with_reducible refine (made_Dice_Next.calls g s0_0 s0_1 7 t132 t133 w0 _ ?side1 ?side2 A2.out).mono ?_); (case side1 => exact (is1_ HI0.out NB0_131.out)); (case side2 => exact (hb2_ HB.out (IsS84.ge HI0.out) GE131.out)); rintro e w40 ⟨rfl, hi, hb, hk⟩; refine ⟨_, rfl, ?_⟩; have n0_ := Aside0.mk (KeepBut.blk hk (g' := gb131) (o := .cells #[.int .i64 0, .int .i64 0, .slice none 0 0, .slice none 0 0, .slice none 0 0, .slice none 0 0, .slice none 0 0, .bool false] 31 (0, 0)) (bk_ BK131.out) NB131_0.out (by simp)); have n1_ := Aside0.mk (KeepBut.trans (kp1_ HK.out GW131.out) hk (.inl rfl)); have n2_ := Aside0.mk (hb); have n3_ := Aside0.mk (hi); clear BK131 HK HB HI0; revert n0_ n1_ n2_ n3_; intro BK131 HK HB HI0; (try clear hb); (try clear hb2); (try clear hk); (try clear hi)) | ((with_reducible refine gate_callee (f := 22) rfl ?_); refine goesL_ (some 28) rfl rfl Try.func22 (by kernel_rfl) rfl #[.pointer (some ⟨g, 0, none⟩)] rfl lm_ ?_; (with_reducible refine (ih k (by omega) g s0_0 t133 t146 t147 t148 t151 t154 t157 t160 t163 t164 w0 _ ?side1 ?side2 A36.out).mono ?_); (case side1 => exact (is1_ HI0.out NB0_131.out)); (case side2 => exact (hb2_ HB.out (IsS84.ge HI0.out) GE131.out)); rintro e w41 ⟨v149, v152, v155, v158, v161, rfl, ho0, ho1, ho2, ho3, ho4, hi, hb, hk⟩; refine ⟨_, rfl, ?_⟩; have n0_ := Aside0.mk (KeepBut.blk hk (g' := gb131) (o := .cells #[.int .i64 0, .int .i64 0, .slice none 0 0, .slice none 0 0, .slice none 0 0, .slice none 0 0, .slice none 0 0, .bool false] 31 (0, 0)) (bk_ BK131.out) NB131_0.out (by simp)); have n1_ := Aside0.mk (Kd.R_lower (Kd.R_newM (M := fun k_ => (w.heap.size ≤ k_)) (Kd.R_mono (ok' := fun k_ => True) ho0 (fun _ hk_ => trivial)) (keep_size (w := w) (g := g) (row := none) (kp1_ HK.out GW131.out)) (fun k_ h_ => h_)) (keep_size (w := w) (g := g) (row := none) (kp1_ HK.out GW131.out))); have n2_ := Aside0.mk (Kd.R_lower (Kd.R_newM (M := fun k_ => (w.heap.size ≤ k_)) (Kd.R_mono (ok' := fun k_ => some k_ ≠ (v161 : Value).ownBlock) ho1 (fun _ hk_ => hk_.2)) (keep_size (w := w) (g := g) (row := none) (kp1_ HK.out GW131.out)) (fun k_ h_ => h_)) (keep_size (w := w) (g := g) (row := none) (kp1_ HK.out GW131.out))); have n3_ := Aside0.mk (Kd.N_lower (Kd.N_mono (ok' := fun k_ => (w.heap.size ≤ k_) ∧ some k_ ≠ (v149 : Value).ownBlock ∧ some k_ ≠ (v152 : Value).ownBlock ∧ some k_ ≠ (v158 : Value).ownBlock ∧ some k_ ≠ (v161 : Value).ownBlock ∧ k_ ≠ gb131 ∧ k_ ≠ g) ho2 (fun k_ hk_ => ⟨(Nat.le_trans (keep_size (w := w) (g := g) (row := none) (kp1_ HK.out GW131.out)) hk_.1), hk_.2.1, hk_.2.2.1, hk_.2.2.2.1, hk_.2.2.2.2, (fB_ BK131.out k_ hk_.1), (IsS84.fresh ((is1_ HI0.out NB0_131.out)) k_ hk_.1)⟩)) (keep_size (w := w) (g := g) (row := none) (kp1_ HK.out GW131.out))); have n4_ := Aside0.mk (Kd.N_lower (Kd.N_mono (ok' := fun k_ => (w.heap.size ≤ k_) ∧ some k_ ≠ (v149 : Value).ownBlock ∧ some k_ ≠ (v152 : Value).ownBlock ∧ some k_ ≠ (v155 : Value).ownBlock ∧ some k_ ≠ (v161 : Value).ownBlock ∧ k_ ≠ gb131 ∧ k_ ≠ g) ho3 (fun k_ hk_ => ⟨(Nat.le_trans (keep_size (w := w) (g := g) (row := none) (kp1_ HK.out GW131.out)) hk_.1), hk_.2.1, hk_.2.2.1, hk_.2.2.2.1, hk_.2.2.2.2, (fB_ BK131.out k_ hk_.1), (IsS84.fresh ((is1_ HI0.out NB0_131.out)) k_ hk_.1)⟩)) (keep_size (w := w) (g := g) (row := none) (kp1_ HK.out GW131.out))); have n5_ := Aside0.mk (Kd.R_lower (Kd.R_newM (M := fun k_ => (w.heap.size ≤ k_)) (Kd.R_mono (ok' := fun k_ => some k_ ≠ (v152 : Value).ownBlock) ho4 (fun _ hk_ => hk_.2)) (keep_size (w := w) (g := g) (row := none) (kp1_ HK.out GW131.out)) (fun k_ h_ => h_)) (keep_size (w := w) (g := g) (row := none) (kp1_ HK.out GW131.out))); have n6_ := Aside0.mk (KeepBut.trans (kp1_ HK.out GW131.out) hk (.inl rfl)); have n7_ := Aside0.mk (hb); have n8_ := Aside0.mk (hi); clear BK131 HK HB HI0; revert n0_ n1_ n2_ n3_ n4_ n5_ n6_ n7_ n8_; intro BK131 HO150 HO153 HO156 HO159 HO162 HK HB HI0; (try clear hb); (try clear hb2); (try clear hk); (try clear hi); (try clear ho0); (try clear ho1); (try clear ho2); (try clear ho3); (try clear ho4)) | ((with_reducible refine gate_callee (f := 22) rfl ?_); refine goesL_ (some 30) rfl rfl Try.func22 (by kernel_rfl) rfl #[.pointer (some ⟨g, 0, none⟩)] rfl lm_ ?_; (with_reducible refine (ih k (by omega) g s0_0 t164 t165 t166 t167 t170 t173 t176 t179 t182 t183 w0 _ ?side1 ?side2 A37.out).mono ?_); (case side1 => exact (is1_ HI0.out NB0_131.out)); (case side2 => exact (hb2_ HB.out (IsS84.ge HI0.out) GE131.out)); rintro e w42 ⟨v168, v171, v174, v177, v180, rfl, ho0, ho1, ho2, ho3, ho4, hi, hb, hk⟩; refine ⟨_, rfl, ?_⟩; have n0_ := Aside0.mk (KeepBut.blk hk (g' := gb131) (o := .cells #[.int .i64 0, .int .i64 0, .slice none 0 0, .slice none 0 0, .slice none 0 0, .slice none 0 0, .slice none 0 0, .bool false] 31 (0, 0)) (bk_ BK131.out) NB131_0.out (by simp)); have n1_ := Aside0.mk (Kd.R_mono (Kd.R_told (Kd.R_oldK (IsS84.apart (show IsS84 w0 _ g s0_0 t164 from (is1_ HI0.out NB0_131.out)) (kR_ HO150.out) (by decide)) hk) (Kd.R_base ho0)) (fun _ h_ => h_.1)); have n2_ := Aside0.mk (Kd.R_mono (Kd.R_told (Kd.R_told (Kd.R_oldK (IsS84.apart (show IsS84 w0 _ g s0_0 t164 from (is1_ HI0.out NB0_131.out)) (kR_ HO153.out) (by decide)) hk) (Kd.R_base ho1)) (Kd.R_base ho4)) (fun _ h_ => h_.1)); have n3_ := Aside0.mk (Kd.N_mono (Kd.N_told (Kd.N_told (Kd.N_told (Kd.N_told (Kd.N_told (Kd.N_oldK (Kd.N_mono (ok := fun k_ => (((w.heap.size ≤ k_)) ∧ (some k_ ≠ (v149 : Value).ownBlock ∧ (some k_ ≠ (v152 : Value).ownBlock ∧ (some k_ ≠ (v158 : Value).ownBlock ∧ (some k_ ≠ (v161 : Value).ownBlock ∧ (k_ ≠ gb131 ∧ k_ ≠ g))))))) (kN_ HO156.out) (fun k_ hk_ => (⟨hk_, hk_.2.2.2.2.2.2⟩ : _ ∧ k_ ≠ g))) hk) (Kd.R_base ho0)) (Kd.R_base ho1)) (by first | exact Kd.N_base ho2 | exact Kd.R_base ho2)) (by first | exact Kd.N_base ho3 | exact Kd.R_base ho3)) (Kd.R_base ho4)) (fun _ h_ => h_.1)); have n4_ := Aside0.mk (Kd.N_mono (Kd.N_told (Kd.N_told (Kd.N_told (Kd.N_told (Kd.N_told (Kd.N_oldK (Kd.N_mono (ok := fun k_ => (((w.heap.size ≤ k_)) ∧ (some k_ ≠ (v149 : Value).ownBlock ∧ (some k_ ≠ (v152 : Value).ownBlock ∧ (some k_ ≠ (v155 : Value).ownBlock ∧ (some k_ ≠ (v161 : Value).ownBlock ∧ (k_ ≠ gb131 ∧ k_ ≠ g))))))) (kN_ HO159.out) (fun k_ hk_ => (⟨hk_, hk_.2.2.2.2.2.2⟩ : _ ∧ k_ ≠ g))) hk) (Kd.R_base ho0)) (Kd.R_base ho1)) (by first | exact Kd.N_base ho2 | exact Kd.R_base ho2)) (by first | exact Kd.N_base ho3 | exact Kd.R_base ho3)) (Kd.R_base ho4)) (fun _ h_ => h_.1)); have n5_ := Aside0.mk (Kd.R_mono (Kd.R_told (Kd.R_told (Kd.R_oldK (IsS84.apart (show IsS84 w0 _ g s0_0 t164 from (is1_ HI0.out NB0_131.out)) (kR_ HO162.out) (by decide)) hk) (Kd.R_base ho1)) (Kd.R_base ho4)) (fun _ h_ => h_.1)); have n6_ := Aside0.mk (Kd.R_lower (Kd.R_new' (Kd.R_newM (M := fun k_ => (w.heap.size ≤ k_)) (Kd.R_mono (ok' := fun k_ => True) ho0 (fun _ hk_ => trivial)) (keep_size (w := w) (g := g) (row := none) (kp1_ HK.out GW131.out)) (fun k_ h_ => h_)) (Kd.R_lt (kR_ HO150.out))) (keep_size (w := w) (g := g) (row := none) (kp1_ HK.out GW131.out))); have n7_ := Aside0.mk (Kd.R_lower (Kd.R_new' (Kd.R_new' (Kd.R_newM (M := fun k_ => (w.heap.size ≤ k_)) (Kd.R_mono (ok' := fun k_ => some k_ ≠ (v180 : Value).ownBlock) ho1 (fun _ hk_ => hk_.2)) (keep_size (w := w) (g := g) (row := none) (kp1_ HK.out GW131.out)) (fun k_ h_ => h_)) (Kd.R_lt (kR_ HO153.out))) (Kd.R_lt (kR_ HO162.out))) (keep_size (w := w) (g := g) (row := none) (kp1_ HK.out GW131.out))); have n8_ := Aside0.mk (Kd.N_lower (Kd.N_mono (ok' := fun k_ => (w.heap.size ≤ k_) ∧ some k_ ≠ (v168 : Value).ownBlock ∧ some k_ ≠ (v171 : Value).ownBlock ∧ some k_ ≠ (v177 : Value).ownBlock ∧ some k_ ≠ (v180 : Value).ownBlock ∧ some k_ ≠ (v149 : Value).ownBlock ∧ some k_ ≠ (v152 : Value).ownBlock ∧ some k_ ≠ (v155 : Value).ownBlock ∧ some k_ ≠ (v158 : Value).ownBlock ∧ some k_ ≠ (v161 : Value).ownBlock ∧ k_ ≠ gb131 ∧ k_ ≠ g) ho2 (fun k_ hk_ => ⟨(Nat.le_trans (keep_size (w := w) (g := g) (row := none) (kp1_ HK.out GW131.out)) hk_.1), hk_.2.1, hk_.2.2.1, hk_.2.2.2.1, hk_.2.2.2.2, (Kd.fresh' (Kd.R_lt (kR_ HO150.out)) k_ hk_.1), (Kd.fresh' (Kd.R_lt (kR_ HO153.out)) k_ hk_.1), (Kd.fresh' (Kd.N_lt (kN_ HO156.out)) k_ hk_.1), (Kd.fresh' (Kd.N_lt (kN_ HO159.out)) k_ hk_.1), (Kd.fresh' (Kd.R_lt (kR_ HO162.out)) k_ hk_.1), (fB_ BK131.out k_ hk_.1), (IsS84.fresh ((is1_ HI0.out NB0_131.out)) k_ hk_.1)⟩)) (keep_size (w := w) (g := g) (row := none) (kp1_ HK.out GW131.out))); have n9_ := Aside0.mk (Kd.N_lower (Kd.N_mono (ok' := fun k_ => (w.heap.size ≤ k_) ∧ some k_ ≠ (v168 : Value).ownBlock ∧ some k_ ≠ (v171 : Value).ownBlock ∧ some k_ ≠ (v174 : Value).ownBlock ∧ some k_ ≠ (v180 : Value).ownBlock ∧ some k_ ≠ (v149 : Value).ownBlock ∧ some k_ ≠ (v152 : Value).ownBlock ∧ some k_ ≠ (v155 : Value).ownBlock ∧ some k_ ≠ (v158 : Value).ownBlock ∧ some k_ ≠ (v161 : Value).ownBlock ∧ k_ ≠ gb131 ∧ k_ ≠ g) ho3 (fun k_ hk_ => ⟨(Nat.le_trans (keep_size (w := w) (g := g) (row := none) (kp1_ HK.out GW131.out)) hk_.1), hk_.2.1, hk_.2.2.1, hk_.2.2.2.1, hk_.2.2.2.2, (Kd.fresh' (Kd.R_lt (kR_ HO150.out)) k_ hk_.1), (Kd.fresh' (Kd.R_lt (kR_ HO153.out)) k_ hk_.1), (Kd.fresh' (Kd.N_lt (kN_ HO156.out)) k_ hk_.1), (Kd.fresh' (Kd.N_lt (kN_ HO159.out)) k_ hk_.1), (Kd.fresh' (Kd.R_lt (kR_ HO162.out)) k_ hk_.1), (fB_ BK131.out k_ hk_.1), (IsS84.fresh ((is1_ HI0.out NB0_131.out)) k_ hk_.1)⟩)) (keep_size (w := w) (g := g) (row := none) (kp1_ HK.out GW131.out))); have n10_ := Aside0.mk (Kd.R_lower (Kd.R_new' (Kd.R_new' (Kd.R_newM (M := fun k_ => (w.heap.size ≤ k_)) (Kd.R_mono (ok' := fun k_ => some k_ ≠ (v171 : Value).ownBlock) ho4 (fun _ hk_ => hk_.2)) (keep_size (w := w) (g := g) (row := none) (kp1_ HK.out GW131.out)) (fun k_ h_ => h_)) (Kd.R_lt (kR_ HO153.out))) (Kd.R_lt (kR_ HO162.out))) (keep_size (w := w) (g := g) (row := none) (kp1_ HK.out GW131.out))); have n11_ := Aside0.mk (KeepBut.trans (kp1_ HK.out GW131.out) hk (.inl rfl)); have n12_ := Aside0.mk (hb); have n13_ := Aside0.mk (hi); clear BK131 HO150 HO153 HO156 HO159 HO162 HK HB HI0; revert n0_ n1_ n2_ n3_ n4_ n5_ n6_ n7_ n8_ n9_ n10_ n11_ n12_ n13_; intro BK131 HO150 HO153 HO156 HO159 HO162 HO169 HO172 HO175 HO178 HO181 HK HB HI0; (try clear hb); (try clear hb2); (try clear hk); (try clear hi); (try clear ho0); (try clear ho1); (try clear ho2); (try clear ho3); (try clear ho4); obtain ⟨Ao43, co43, eo43⟩ := Kd.R_slice HO150.out; subst eo43; obtain ⟨Ao44, co44, eo44⟩ := Kd.R_slice HO153.out; subst eo44; obtain ⟨Ao45, co45, eo45⟩ := Kd.N_slice HO156.out; subst eo45; obtain ⟨Ao46, co46, eo46⟩ := Kd.N_slice HO159.out; subst eo46; obtain ⟨Ao47, co47, eo47⟩ := Kd.R_slice HO162.out; subst eo47; obtain ⟨Ao48, co48, eo48⟩ := Kd.R_slice HO169.out; subst eo48; obtain ⟨Ao49, co49, eo49⟩ := Kd.R_slice HO172.out; subst eo49; obtain ⟨Ao50, co50, eo50⟩ := Kd.N_slice HO175.out; subst eo50; obtain ⟨Ao51, co51, eo51⟩ := Kd.N_slice HO178.out; subst eo51; obtain ⟨Ao52, co52, eo52⟩ := Kd.R_slice HO181.out; subst eo52) | ((with_reducible refine gate_dst (N := 31) rfl ?_); refine Kd.N_lit k31 _ 31 ?hg (N' := 31) ?hd (xs := ([(⟨t146, t147, t148, t151, t154, t157, t160, t163⟩ : S31), (⟨t165, t166, t167, t170, t173, t176, t179, t182⟩ : S31)] : List (S31))) (inner := [.int .i64 t146, .int .i64 t147, .slice Ao43 t148.length co43, .slice Ao44 t151.length co44, .slice Ao45 t154.length co45, .slice Ao46 t157.length co46, .slice Ao47 t160.length co47, .bool t163, .int .i64 t165, .int .i64 t166, .slice Ao48 t167.length co48, .slice Ao49 t170.length co49, .slice Ao50 t173.length co50, .slice Ao51 t176.length co51, .slice Ao52 t179.length co52, .bool t182]) (ok := (fun k_ => (w.heap.size ≤ k_) ∧ k_ ≠ gb131 ∧ k_ ≠ g)) (okp := (fun k_ => (w.heap.size ≤ k_) ∧ k_ ≠ gb131 ∧ k_ ≠ g)) ?hr ?hp (fun _ hk => hk) ((show ∀ k_, w42.heap.size ≤ k_ → (fun k_ => (w.heap.size ≤ k_) ∧ k_ ≠ gb131 ∧ k_ ≠ g) k_ from fun k_ hk => ⟨(Nat.le_trans (keep_size (w := w) (g := g) (row := none) (kp1_ HK.out GW131.out)) hk), fB_ BK131.out k_ hk, IsS84.fresh ((is1_ HI0.out NB0_131.out)) k_ hk⟩) _ (Nat.le_refl _)) (Below.refl _ _) (Nat.le_refl _) (by simp) ?_; (case hd => rfl); (case hg => rfl); (case hr => first | (go_simp; done) | (go_simp; rfl)); (case hp => exact (Reps.c8 (show Kd.FK k31 _ _ (⟨t146, t147, t148, t151, t154, t157, t160, t163⟩ : S31) [.int .i64 t146, .int .i64 t147, .slice Ao43 t148.length co43, .slice Ao44 t151.length co44, .slice Ao45 t154.length co45, .slice Ao46 t157.length co46, .slice Ao47 t160.length co47, .bool t163] from (k31_mkF _ _ (⟨t146, t147, t148, t151, t154, t157, t160, t163⟩ : S31) (Kd.R_reads' (Kd.R_mono (ok' := (fun k_ => (w.heap.size ≤ k_) ∧ k_ ≠ gb131 ∧ k_ ≠ g)) (IsS84.apart HI0.out (Kd.R_types (HO150.out) BK131.out (by decide)) (by decide)) (fun k_ hk => ⟨hk.1.1.1.1, ⟨hk.1.2, hk.2⟩⟩))).2.1 (Kd.R_F (Kd.R_mono (ok' := (fun k_ => (w.heap.size ≤ k_) ∧ k_ ≠ gb131 ∧ k_ ≠ g)) (IsS84.apart HI0.out (Kd.R_types (HO150.out) BK131.out (by decide)) (by decide)) (fun k_ hk => ⟨hk.1.1.1.1, ⟨hk.1.2, hk.2⟩⟩))) (Kd.R_reads' (Kd.R_mono (ok' := (fun k_ => (w.heap.size ≤ k_) ∧ k_ ≠ gb131 ∧ k_ ≠ g)) (IsS84.apart HI0.out (Kd.R_types (HO153.out) BK131.out (by decide)) (by decide)) (fun k_ hk => ⟨hk.1.1.1.1.1, ⟨hk.1.2, hk.2⟩⟩))).2.1 (Kd.R_F (Kd.R_mono (ok' := (fun k_ => (w.heap.size ≤ k_) ∧ k_ ≠ gb131 ∧ k_ ≠ g)) (IsS84.apart HI0.out (Kd.R_types (HO153.out) BK131.out (by decide)) (by decide)) (fun k_ hk => ⟨hk.1.1.1.1.1, ⟨hk.1.2, hk.2⟩⟩))) (Kd.N_reads' (Kd.N_mono (ok' := (fun k_ => (w.heap.size ≤ k_) ∧ k_ ≠ gb131 ∧ k_ ≠ g)) (HO156.out) (fun k_ hk => ⟨hk.1.1.1.1.1.1, ⟨hk.1.1.1.1.1.2.2.2.2.2.1, hk.1.1.1.1.1.2.2.2.2.2.2⟩⟩))).2.1 (Kd.N_F (Kd.N_mono (ok' := (fun k_ => (w.heap.size ≤ k_) ∧ k_ ≠ gb131 ∧ k_ ≠ g)) (HO156.out) (fun k_ hk => ⟨hk.1.1.1.1.1.1, ⟨hk.1.1.1.1.1.2.2.2.2.2.1, hk.1.1.1.1.1.2.2.2.2.2.2⟩⟩))) (Kd.N_reads' (Kd.N_mono (ok' := (fun k_ => (w.heap.size ≤ k_) ∧ k_ ≠ gb131 ∧ k_ ≠ g)) (HO159.out) (fun k_ hk => ⟨hk.1.1.1.1.1.1, ⟨hk.1.1.1.1.1.2.2.2.2.2.1, hk.1.1.1.1.1.2.2.2.2.2.2⟩⟩))).2.1 (Kd.N_F (Kd.N_mono (ok' := (fun k_ => (w.heap.size ≤ k_) ∧ k_ ≠ gb131 ∧ k_ ≠ g)) (HO159.out) (fun k_ hk => ⟨hk.1.1.1.1.1.1, ⟨hk.1.1.1.1.1.2.2.2.2.2.1, hk.1.1.1.1.1.2.2.2.2.2.2⟩⟩))) (Kd.R_reads' (Kd.R_mono (ok' := (fun k_ => (w.heap.size ≤ k_) ∧ k_ ≠ gb131 ∧ k_ ≠ g)) (IsS84.apart HI0.out (Kd.R_types (HO162.out) BK131.out (by decide)) (by decide)) (fun k_ hk => ⟨hk.1.1.1.1.1, ⟨hk.1.2, hk.2⟩⟩))).2.1 (Kd.R_F (Kd.R_mono (ok' := (fun k_ => (w.heap.size ≤ k_) ∧ k_ ≠ gb131 ∧ k_ ≠ g)) (IsS84.apart HI0.out (Kd.R_types (HO162.out) BK131.out (by decide)) (by decide)) (fun k_ hk => ⟨hk.1.1.1.1.1, ⟨hk.1.2, hk.2⟩⟩))))) (Reps.c8 (show Kd.FK k31 _ _ (⟨t165, t166, t167, t170, t173, t176, t179, t182⟩ : S31) [.int .i64 t165, .int .i64 t166, .slice Ao48 t167.length co48, .slice Ao49 t170.length co49, .slice Ao50 t173.length co50, .slice Ao51 t176.length co51, .slice Ao52 t179.length co52, .bool t182] from (k31_mkF _ _ (⟨t165, t166, t167, t170, t173, t176, t179, t182⟩ : S31) (Kd.R_reads' (Kd.R_mono (ok' := (fun k_ => (w.heap.size ≤ k_) ∧ k_ ≠ gb131 ∧ k_ ≠ g)) (IsS84.apart HI0.out (Kd.R_types (HO169.out) BK131.out (by decide)) (by decide)) (fun k_ hk => ⟨hk.1.1.1.1, ⟨hk.1.2, hk.2⟩⟩))).2.1 (Kd.R_F (Kd.R_mono (ok' := (fun k_ => (w.heap.size ≤ k_) ∧ k_ ≠ gb131 ∧ k_ ≠ g)) (IsS84.apart HI0.out (Kd.R_types (HO169.out) BK131.out (by decide)) (by decide)) (fun k_ hk => ⟨hk.1.1.1.1, ⟨hk.1.2, hk.2⟩⟩))) (Kd.R_reads' (Kd.R_mono (ok' := (fun k_ => (w.heap.size ≤ k_) ∧ k_ ≠ gb131 ∧ k_ ≠ g)) (IsS84.apart HI0.out (Kd.R_types (HO172.out) BK131.out (by decide)) (by decide)) (fun k_ hk => ⟨hk.1.1.1.1.1, ⟨hk.1.2, hk.2⟩⟩))).2.1 (Kd.R_F (Kd.R_mono (ok' := (fun k_ => (w.heap.size ≤ k_) ∧ k_ ≠ gb131 ∧ k_ ≠ g)) (IsS84.apart HI0.out (Kd.R_types (HO172.out) BK131.out (by decide)) (by decide)) (fun k_ hk => ⟨hk.1.1.1.1.1, ⟨hk.1.2, hk.2⟩⟩))) (Kd.N_reads' (Kd.N_mono (ok' := (fun k_ => (w.heap.size ≤ k_) ∧ k_ ≠ gb131 ∧ k_ ≠ g)) (HO175.out) (fun k_ hk => ⟨hk.1, ⟨hk.2.2.2.2.2.2.2.2.2.2.1, hk.2.2.2.2.2.2.2.2.2.2.2⟩⟩))).2.1 (Kd.N_F (Kd.N_mono (ok' := (fun k_ => (w.heap.size ≤ k_) ∧ k_ ≠ gb131 ∧ k_ ≠ g)) (HO175.out) (fun k_ hk => ⟨hk.1, ⟨hk.2.2.2.2.2.2.2.2.2.2.1, hk.2.2.2.2.2.2.2.2.2.2.2⟩⟩))) (Kd.N_reads' (Kd.N_mono (ok' := (fun k_ => (w.heap.size ≤ k_) ∧ k_ ≠ gb131 ∧ k_ ≠ g)) (HO178.out) (fun k_ hk => ⟨hk.1, ⟨hk.2.2.2.2.2.2.2.2.2.2.1, hk.2.2.2.2.2.2.2.2.2.2.2⟩⟩))).2.1 (Kd.N_F (Kd.N_mono (ok' := (fun k_ => (w.heap.size ≤ k_) ∧ k_ ≠ gb131 ∧ k_ ≠ g)) (HO178.out) (fun k_ hk => ⟨hk.1, ⟨hk.2.2.2.2.2.2.2.2.2.2.1, hk.2.2.2.2.2.2.2.2.2.2.2⟩⟩))) (Kd.R_reads' (Kd.R_mono (ok' := (fun k_ => (w.heap.size ≤ k_) ∧ k_ ≠ gb131 ∧ k_ ≠ g)) (IsS84.apart HI0.out (Kd.R_types (HO181.out) BK131.out (by decide)) (by decide)) (fun k_ hk => ⟨hk.1.1.1.1.1, ⟨hk.1.2, hk.2⟩⟩))).2.1 (Kd.R_F (Kd.R_mono (ok' := (fun k_ => (w.heap.size ≤ k_) ∧ k_ ≠ gb131 ∧ k_ ≠ g)) (IsS84.apart HI0.out (Kd.R_types (HO181.out) BK131.out (by decide)) (by decide)) (fun k_ hk => ⟨hk.1.1.1.1.1, ⟨hk.1.2, hk.2⟩⟩))))) (Reps.none _ _)))); intro v185 w53 ho54 hb hg_ hnew_; clear hg_ hnew_; (first | rw [← Ny184.out] at ho54 | (simp only [Int.reduceToNat] at ho54; rw [← Ny184.out] at ho54)); have n0_ := Aside0.mk (Kd.N_lower ho54 (keep_size (w := w) (g := g) (row := none) (kp1_ HK.out GW131.out))); have n1_ := Aside0.mk (IsS84.below ((is1_ HI0.out NB0_131.out)) hb); have n2_ := Aside0.mk (bb_ BK131.out hb); have n3_ := Aside0.mk (KeepBut.trans (kp1_ HK.out GW131.out) (KeepBut.of_below hb g none) (.inl rfl)); have n4_ := Aside0.mk (below_step ((hb2_ HB.out (IsS84.ge HI0.out) GE131.out)) hb); clear HI0 BK131 HK HB HO150 HO153 HO156 HO159 HO162 HO169 HO172 HO175 HO178 HO181; revert n0_ n1_ n2_ n3_ n4_; intro HO186 HI0 BK131 HK HB; clear hb ho54; obtain ⟨Ao55, co55, eo55⟩ := Kd.N_slice HO186.out; subst eo55) | ((with_reducible refine gate_callee (f := 25) rfl ?_); refine goesL_ (some 32) rfl rfl Try.func25 (by kernel_rfl) rfl #[.slice Ao55 y184.length co55] rfl lm_ ?_; (with_reducible refine (ref16_Lay.calls k _ _ y184 t187 t188 t189 t192 t195 t198 t201 t204 t205 _ ?side1 ?side2 A38.out).mono ?_); (case side1 => exact kD_ (Kd.N_reads' HO186.out).2.2); (case side2 => exact (Kd.N_reads' HO186.out).2.1); rintro e w56 ⟨v190, v193, v196, v199, v202, rfl, ho0, ho1, ho2, ho3, ho4, hb⟩; refine ⟨_, rfl, ?_⟩; have n0_ := Aside0.mk (Kd.N_mono (Kd.N_told (Kd.N_told (Kd.N_told (Kd.N_told (Kd.N_told (Kd.N_old (kN_ HO186.out) hb) (Kd.R_base ho0)) (Kd.R_base ho1)) (by first | exact Kd.N_base ho2 | exact Kd.R_base ho2)) (by first | exact Kd.N_base ho3 | exact Kd.R_base ho3)) (Kd.R_base ho4)) (fun _ h_ => h_.1)); have n1_ := Aside0.mk (Kd.R_lower (Kd.R_newM (M := fun k_ => (w.heap.size ≤ k_)) ho0 (keep_size (w := w) (g := g) (row := none) (kp1_ HK.out GW131.out)) (fun k_ h_ => h_)) (keep_size (w := w) (g := g) (row := none) (kp1_ HK.out GW131.out))); have n2_ := Aside0.mk (Kd.R_lower (Kd.R_newM (M := fun k_ => (w.heap.size ≤ k_)) ho1 (keep_size (w := w) (g := g) (row := none) (kp1_ HK.out GW131.out)) (fun k_ h_ => h_)) (keep_size (w := w) (g := g) (row := none) (kp1_ HK.out GW131.out))); have n3_ := Aside0.mk (Kd.N_lower (Kd.N_mono (ok' := fun k_ => (w.heap.size ≤ k_) ∧ some k_ ≠ (v190 : Value).ownBlock ∧ some k_ ≠ (v193 : Value).ownBlock ∧ some k_ ≠ (v199 : Value).ownBlock ∧ some k_ ≠ (v202 : Value).ownBlock ∧ some k_ ≠ (.slice Ao55 y184.length co55 : Value).ownBlock ∧ k_ ≠ gb131 ∧ k_ ≠ g) (Kd.R_N (Kd.R_bound (Kd.R_apart' (Kd.R_apart' (Kd.R_apart' (Kd.R_apart' ho2 (Kd.R_typed ho0) (by decide)) (Kd.R_typed ho1) (by decide)) (Kd.R_typed ho3) (by decide)) (Kd.R_typed ho4) (by decide)))) (fun k_ hk_ => ⟨(Nat.le_trans (keep_size (w := w) (g := g) (row := none) (kp1_ HK.out GW131.out)) hk_.2.1), hk_.1.1.1.1.2, hk_.1.1.1.2, hk_.1.1.2, hk_.1.2, (Kd.fresh' (Kd.N_lt (kN_ HO186.out)) k_ hk_.2.1), (fB_ BK131.out k_ hk_.2.1), (IsS84.fresh ((is1_ HI0.out NB0_131.out)) k_ hk_.2.1)⟩)) (keep_size (w := w) (g := g) (row := none) (kp1_ HK.out GW131.out))); have n4_ := Aside0.mk (Kd.N_lower (Kd.N_mono (ok' := fun k_ => (w.heap.size ≤ k_) ∧ some k_ ≠ (v190 : Value).ownBlock ∧ some k_ ≠ (v193 : Value).ownBlock ∧ some k_ ≠ (v196 : Value).ownBlock ∧ some k_ ≠ (v202 : Value).ownBlock ∧ some k_ ≠ (.slice Ao55 y184.length co55 : Value).ownBlock ∧ k_ ≠ gb131 ∧ k_ ≠ g) (Kd.R_N (Kd.R_bound (Kd.R_apart' ho3 (Kd.R_typed ho0) (by decide)))) (fun k_ hk_ => ⟨(Nat.le_trans (keep_size (w := w) (g := g) (row := none) (kp1_ HK.out GW131.out)) hk_.2.1), hk_.1.2, hk_.1.1.1, hk_.1.1.2.1, hk_.1.1.2.2, (Kd.fresh' (Kd.N_lt (kN_ HO186.out)) k_ hk_.2.1), (fB_ BK131.out k_ hk_.2.1), (IsS84.fresh ((is1_ HI0.out NB0_131.out)) k_ hk_.2.1)⟩)) (keep_size (w := w) (g := g) (row := none) (kp1_ HK.out GW131.out))); have n5_ := Aside0.mk (Kd.R_lower (Kd.R_newM (M := fun k_ => (w.heap.size ≤ k_)) ho4 (keep_size (w := w) (g := g) (row := none) (kp1_ HK.out GW131.out)) (fun k_ h_ => h_)) (keep_size (w := w) (g := g) (row := none) (kp1_ HK.out GW131.out))); have n6_ := Aside0.mk (IsS84.below ((is1_ HI0.out NB0_131.out)) hb); have n7_ := Aside0.mk (bb_ BK131.out hb); have n8_ := Aside0.mk (KeepBut.trans (kp1_ HK.out GW131.out) (KeepBut.of_below hb g none) (.inl rfl)); have n9_ := Aside0.mk (below_step ((hb2_ HB.out (IsS84.ge HI0.out) GE131.out)) hb); clear HO186 HI0 BK131 HK HB; revert n0_ n1_ n2_ n3_ n4_ n5_ n6_ n7_ n8_ n9_; intro HO186 HO191 HO194 HO197 HO200 HO203 HI0 BK131 HK HB; (try clear hb); (try clear hb2); (try clear hk); (try clear hi); (try clear ho0); (try clear ho1); (try clear ho2); (try clear ho3); (try clear ho4)) | ((with_reducible refine gate_dst (N := 3) rfl ?_); refine box_event ?hg (N := 3) ?hd (cs := #[.int .i64 0, .int .i64 0, .slice none 0 0, .slice none 0 0, .slice none 0 0, .slice none 0 0, .slice none 0 0, .bool false]) (t := 31) ?hr ?_; (case hd => rfl); (case hg => rfl); (case hr => first | (go_simp; done) | (go_simp; rfl)); intro gb206 hg w57 hbox hb; have n0_ := Aside0.mk (Kd.N_below (Kd.N_elderB (kN_ HO186.out) gb206 (Nat.le_of_eq hg.symm)) hb); have n1_ := Aside0.mk (Kd.R_below (kR_ HO191.out) hb); have n2_ := Aside0.mk (Kd.R_below (kR_ HO194.out) hb); have n3_ := Aside0.mk (Kd.N_below (Kd.N_elderB (kN_ HO197.out) gb206 (Nat.le_of_eq hg.symm)) hb); have n4_ := Aside0.mk (Kd.N_below (Kd.N_elderB (kN_ HO200.out) gb206 (Nat.le_of_eq hg.symm)) hb); have n5_ := Aside0.mk (Kd.R_below (kR_ HO203.out) hb); have n6_ := Aside0.mk (IsS84.below ((is1_ HI0.out NB0_131.out)) hb); have n7_ := Aside0.mk (bb_ BK131.out hb); have n8_ := Aside0.mk (KeepBut.trans (kp1_ HK.out GW131.out) (KeepBut.of_below hb g none) (.inl rfl)); have n9_ := Aside0.mk (below_step ((hb2_ HB.out (IsS84.ge HI0.out) GE131.out)) hb); have n10_ := Aside0.mk (hbox); have n11_ := Aside0.mk ((by rw [hg]; exact (keep_size (w := w) (g := g) (row := none) (kp1_ HK.out GW131.out)) : w.heap.size ≤ gb206)); have n12_ := Aside0.mk ((Nat.le_trans HW0.out (by rw [hg]; exact (keep_size (w := w) (g := g) (row := none) (kp1_ HK.out GW131.out)) : w.heap.size ≤ gb206) : w0.heap.size ≤ gb206)); have n13_ := Aside0.mk ((by rw [hg]; exact Nat.ne_of_lt (blk_lt (g := gb131) (o := .cells #[.int .i64 0, .int .i64 0, .slice none 0 0, .slice none 0 0, .slice none 0 0, .slice none 0 0, .slice none 0 0, .bool false] 31 (0, 0)) (bk_ BK131.out)) : gb131 ≠ gb206)); have n14_ := Aside0.mk ((by rw [hg]; exact Nat.ne_of_gt (blk_lt (g := gb131) (o := .cells #[.int .i64 0, .int .i64 0, .slice none 0 0, .slice none 0 0, .slice none 0 0, .slice none 0 0, .slice none 0 0, .bool false] 31 (0, 0)) (bk_ BK131.out)) : gb206 ≠ gb131)); have n15_ := Aside0.mk ((by rw [hg]; exact Nat.ne_of_lt (IsS84.lt (show IsS84 w0 _ g s0_0 t183 from (is1_ HI0.out NB0_131.out))) : g ≠ gb206)); have n16_ := Aside0.mk ((by rw [hg]; exact Nat.ne_of_gt (IsS84.lt (show IsS84 w0 _ g s0_0 t183 from (is1_ HI0.out NB0_131.out))) : gb206 ≠ g)); clear HO186 HO191 HO194 HO197 HO200 HO203 HI0 BK131 HK HB; revert n0_ n1_ n2_ n3_ n4_ n5_ n6_ n7_ n8_ n9_ n10_ n11_ n12_ n13_ n14_ n15_ n16_; intro HO186 HO191 HO194 HO197 HO200 HO203 HI0 BK131 HK HB BK206 GW206 GE206 NB131_206 NB206_131 NB0_206 NB206_0; clear hb hbox hg; have hnb58 := NB206_131.out; have hnc58 := NB131_206.out; have hnb59 := NB206_0.out; have hnc59 := NB0_206.out; obtain ⟨hcz60_0, hcz60_1, hcz60_2, hcz60_3, hcz60_4, hcz60_5, hcz60_6, hcz60_7, hfz60_0, hfz60_1, hfz60_2, hfz60_3, hfz60_4, hfz60_5, hfz60_6, hfz60_7⟩ := bx8_ BK206.out; obtain ⟨Ao61, co61, eo61⟩ := Kd.R_slice HO191.out; subst eo61; obtain ⟨Ao62, co62, eo62⟩ := Kd.R_slice HO194.out; subst eo62; obtain ⟨Ao63, co63, eo63⟩ := Kd.N_slice HO197.out; subst eo63; obtain ⟨Ao64, co64, eo64⟩ := Kd.N_slice HO200.out; subst eo64; obtain ⟨Ao65, co65, eo65⟩ := Kd.R_slice HO203.out; subst eo65; have hnb66 := NB131_0.out; have hnc66 := NB0_131.out; obtain ⟨hcz67_0, hcz67_1, hcz67_2, hcz67_3, hcz67_4, hcz67_5, hcz67_6, hcz67_7, hfz67_0, hfz67_1, hfz67_2, hfz67_3, hfz67_4, hfz67_5, hfz67_6, hfz67_7⟩ := bx8_ BK131.out))
      refine bodyPost_ret (results_cell_row rfl _ _ gb131 31 #[.int .i64 t187, .int .i64 t188, .slice Ao61 t189.length co61, .slice Ao62 t192.length co62, .slice Ao63 t195.length co63, .slice Ao64 t198.length co64, .slice Ao65 t201.length co65, .bool t204] (0, 0) _ rfl ((p81_ BK131.out NB131_206.out)) Try.underlying31 rfl (by kernel_rfl)) rfl ?_; exact ⟨_, _, _, _, _, by first | rfl | (simp [errW_none, errW_some] <;> rfl) | (simp [*, errW_none, errW_some] <;> rfl), by (with_reducible repeat (first | apply Kd.R_alloc | apply Kd.R_drewN | apply Kd.R_drew)); exact Kd.R_mono (far8R_ (Kd.R_far (p := ⟨gb206, 7, none⟩) (Kd.R_far (p := ⟨gb206, 6, none⟩) (Kd.R_far (p := ⟨gb206, 5, none⟩) (Kd.R_far (p := ⟨gb206, 4, none⟩) (Kd.R_far (p := ⟨gb206, 3, none⟩) (Kd.R_far (p := ⟨gb206, 2, none⟩) (Kd.R_far (p := ⟨gb206, 1, none⟩) (Kd.R_far (p := ⟨gb206, 0, none⟩) (Kd.R_types (Kd.R_types HO191.out BK206.out (by decide)) BK131.out (by decide)) (fun _ hk => hk.1.2) (.int .i64 t187)) (fun _ hk => hk.1.2) (.int .i64 t188)) (fun _ hk => hk.1.2) (.slice Ao61 t189.length co61)) (fun _ hk => hk.1.2) (.slice Ao62 t192.length co62)) (fun _ hk => hk.1.2) (.slice Ao63 t195.length co63)) (fun _ hk => hk.1.2) (.slice Ao64 t198.length co64)) (fun _ hk => hk.1.2) (.slice Ao65 t201.length co65)) (fun _ hk => hk.1.2) (.bool t204)) _ _ _ _ _ _ _ _ fun _ hk => hk.2) (fun _ hk => hk.1.1.1), by (with_reducible repeat (first | apply Kd.R_alloc | apply Kd.R_drewN | apply Kd.R_drew)); exact Kd.R_mono (far8R_ (Kd.R_far (p := ⟨gb206, 7, none⟩) (Kd.R_far (p := ⟨gb206, 6, none⟩) (Kd.R_far (p := ⟨gb206, 5, none⟩) (Kd.R_far (p := ⟨gb206, 4, none⟩) (Kd.R_far (p := ⟨gb206, 3, none⟩) (Kd.R_far (p := ⟨gb206, 2, none⟩) (Kd.R_far (p := ⟨gb206, 1, none⟩) (Kd.R_far (p := ⟨gb206, 0, none⟩) (Kd.R_types (Kd.R_types HO194.out BK206.out (by decide)) BK131.out (by decide)) (fun _ hk => hk.1.2) (.int .i64 t187)) (fun _ hk => hk.1.2) (.int .i64 t188)) (fun _ hk => hk.1.2) (.slice Ao61 t189.length co61)) (fun _ hk => hk.1.2) (.slice Ao62 t192.length co62)) (fun _ hk => hk.1.2) (.slice Ao63 t195.length co63)) (fun _ hk => hk.1.2) (.slice Ao64 t198.length co64)) (fun _ hk => hk.1.2) (.slice Ao65 t201.length co65)) (fun _ hk => hk.1.2) (.bool t204)) _ _ _ _ _ _ _ _ fun _ hk => hk.2) (fun _ hk => ⟨hk.1.1.1, hk.1.1.2⟩), by (with_reducible repeat (first | apply Kd.N_alloc | apply Kd.N_drewN | apply Kd.N_drew)); exact Kd.N_mono (far8N_ (Kd.N_far (p := ⟨gb206, 7, none⟩) (Kd.N_far (p := ⟨gb206, 6, none⟩) (Kd.N_far (p := ⟨gb206, 5, none⟩) (Kd.N_far (p := ⟨gb206, 4, none⟩) (Kd.N_far (p := ⟨gb206, 3, none⟩) (Kd.N_far (p := ⟨gb206, 2, none⟩) (Kd.N_far (p := ⟨gb206, 1, none⟩) (Kd.N_far (p := ⟨gb206, 0, none⟩) (Kd.N_mono (Kd.N_mono HO197.out (fun k_ hk => (⟨hk, hk.2⟩ : _ ∧ k_ ≠ gb206))) (fun k_ hk => (⟨hk, hk.1.1.2.2.2.2.2.2.1⟩ : _ ∧ k_ ≠ gb131))) (fun _ hk => hk.1.2) (.int .i64 t187)) (fun _ hk => hk.1.2) (.int .i64 t188)) (fun _ hk => hk.1.2) (.slice Ao61 t189.length co61)) (fun _ hk => hk.1.2) (.slice Ao62 t192.length co62)) (fun _ hk => hk.1.2) (.slice Ao63 t195.length co63)) (fun _ hk => hk.1.2) (.slice Ao64 t198.length co64)) (fun _ hk => hk.1.2) (.slice Ao65 t201.length co65)) (fun _ hk => hk.1.2) (.bool t204)) _ _ _ _ _ _ _ _ fun _ hk => hk.2) (fun _ hk => ⟨hk.1.1.1.1, ⟨hk.1.1.1.2.1, ⟨hk.1.1.1.2.2.1, ⟨hk.1.1.1.2.2.2.1, hk.1.1.1.2.2.2.2.1⟩⟩⟩⟩), by (with_reducible repeat (first | apply Kd.N_alloc | apply Kd.N_drewN | apply Kd.N_drew)); exact Kd.N_mono (far8N_ (Kd.N_far (p := ⟨gb206, 7, none⟩) (Kd.N_far (p := ⟨gb206, 6, none⟩) (Kd.N_far (p := ⟨gb206, 5, none⟩) (Kd.N_far (p := ⟨gb206, 4, none⟩) (Kd.N_far (p := ⟨gb206, 3, none⟩) (Kd.N_far (p := ⟨gb206, 2, none⟩) (Kd.N_far (p := ⟨gb206, 1, none⟩) (Kd.N_far (p := ⟨gb206, 0, none⟩) (Kd.N_mono (Kd.N_mono HO200.out (fun k_ hk => (⟨hk, hk.2⟩ : _ ∧ k_ ≠ gb206))) (fun k_ hk => (⟨hk, hk.1.1.2.2.2.2.2.2.1⟩ : _ ∧ k_ ≠ gb131))) (fun _ hk => hk.1.2) (.int .i64 t187)) (fun _ hk => hk.1.2) (.int .i64 t188)) (fun _ hk => hk.1.2) (.slice Ao61 t189.length co61)) (fun _ hk => hk.1.2) (.slice Ao62 t192.length co62)) (fun _ hk => hk.1.2) (.slice Ao63 t195.length co63)) (fun _ hk => hk.1.2) (.slice Ao64 t198.length co64)) (fun _ hk => hk.1.2) (.slice Ao65 t201.length co65)) (fun _ hk => hk.1.2) (.bool t204)) _ _ _ _ _ _ _ _ fun _ hk => hk.2) (fun _ hk => ⟨hk.1.1.1.1, ⟨hk.1.1.1.2.1, ⟨hk.1.1.1.2.2.1, ⟨hk.1.1.1.2.2.2.1, hk.1.1.1.2.2.2.2.1⟩⟩⟩⟩), by (with_reducible repeat (first | apply Kd.R_alloc | apply Kd.R_drewN | apply Kd.R_drew)); exact Kd.R_mono (far8R_ (Kd.R_far (p := ⟨gb206, 7, none⟩) (Kd.R_far (p := ⟨gb206, 6, none⟩) (Kd.R_far (p := ⟨gb206, 5, none⟩) (Kd.R_far (p := ⟨gb206, 4, none⟩) (Kd.R_far (p := ⟨gb206, 3, none⟩) (Kd.R_far (p := ⟨gb206, 2, none⟩) (Kd.R_far (p := ⟨gb206, 1, none⟩) (Kd.R_far (p := ⟨gb206, 0, none⟩) (Kd.R_types (Kd.R_types HO203.out BK206.out (by decide)) BK131.out (by decide)) (fun _ hk => hk.1.2) (.int .i64 t187)) (fun _ hk => hk.1.2) (.int .i64 t188)) (fun _ hk => hk.1.2) (.slice Ao61 t189.length co61)) (fun _ hk => hk.1.2) (.slice Ao62 t192.length co62)) (fun _ hk => hk.1.2) (.slice Ao63 t195.length co63)) (fun _ hk => hk.1.2) (.slice Ao64 t198.length co64)) (fun _ hk => hk.1.2) (.slice Ao65 t201.length co65)) (fun _ hk => hk.1.2) (.bool t204)) _ _ _ _ _ _ _ _ fun _ hk => hk.2) (fun _ hk => ⟨hk.1.1.1, hk.1.1.2⟩), (is2_ HI0.out NB0_131.out NB0_206.out), (hb3_ HB.out (IsS84.ge HI0.out) GE131.out GE206.out), (kp2_ HK.out GW131.out GW206.out)⟩
     ·
      rw [if_neg c35] at H; have c35b0 : (t132 == 4) = false := beq_eq_false_iff_ne.mpr c35; have c35b1 : (t132 != 4) = true := bne_iff_ne.mpr c35; by_cases c68 : t132 = 5
      ·
       rw [if_pos c68] at H; have c68b0 : (t132 == 5) = true := beq_iff_eq.mpr c68; have c68b1 : (t132 != 5) = false := bne_eq_false_iff_eq.mpr c68; clear c68; simp only [Option.some.injEq, Prod.mk.injEq] at H; obtain ⟨rfl, rfl, rfl, rfl, rfl, rfl, rfl, rfl, rfl⟩ := H; go_enter Try.func22, Try.ntmps22
       go_wp2_with (first | ((with_reducible refine gate_dst (N := 2) rfl ?_); refine box_event ?hg (N := 2) ?hd (cs := #[.int .i64 0, .int .i64 0, .slice none 0 0, .slice none 0 0, .slice none 0 0, .slice none 0 0, .slice none 0 0, .bool false]) (t := 31) ?hr ?_; (case hd => rfl); (case hg => rfl); (case hr => first | (go_simp; done) | (go_simp; rfl)); intro gb131 hg w69 hbox hb; have n0_ := Aside0.mk (IsS84.below ((is0_ HI0.out)) hb); have n1_ := Aside0.mk (KeepBut.trans (kp0_ HK.out) (KeepBut.of_below hb g none) (.inl rfl)); have n2_ := Aside0.mk (below_step ((hb1_ HB.out (IsS84.ge HI0.out))) hb); have n3_ := Aside0.mk (hbox); have n4_ := Aside0.mk ((by rw [hg]; exact (keep_size (w := w) (g := g) (row := none) (kp0_ HK.out)) : w.heap.size ≤ gb131)); have n5_ := Aside0.mk ((Nat.le_trans HW0.out (by rw [hg]; exact (keep_size (w := w) (g := g) (row := none) (kp0_ HK.out)) : w.heap.size ≤ gb131) : w0.heap.size ≤ gb131)); have n6_ := Aside0.mk ((by rw [hg]; exact Nat.ne_of_lt (IsS84.lt (show IsS84 w0 _ g s0_0 s0_1 from (is0_ HI0.out))) : g ≠ gb131)); have n7_ := Aside0.mk ((by rw [hg]; exact Nat.ne_of_gt (IsS84.lt (show IsS84 w0 _ g s0_0 s0_1 from (is0_ HI0.out))) : gb131 ≠ g)); clear HI0 HK HB; revert n0_ n1_ n2_ n3_ n4_ n5_ n6_ n7_; intro HI0 HK HB BK131 GW131 GE131 NB0_131 NB131_0; clear hb hbox hg) | ((with_reducible refine gate_callee (f := 21) rfl ?_); refine goesL_ (some 7) rfl rfl Try.func21 (by kernel_rfl) rfl #[.pointer (some ⟨g, 0, none⟩), .int .i64 7] rfl lm_ ?_; (with_reducible refine (made_Dice_Next.calls g s0_0 s0_1 7 t132 t133 w0 _ ?side1 ?side2 A2.out).mono ?_); (case side1 => exact (is1_ HI0.out NB0_131.out)); (case side2 => exact (hb2_ HB.out (IsS84.ge HI0.out) GE131.out)); rintro e w70 ⟨rfl, hi, hb, hk⟩; refine ⟨_, rfl, ?_⟩; have n0_ := Aside0.mk (KeepBut.blk hk (g' := gb131) (o := .cells #[.int .i64 0, .int .i64 0, .slice none 0 0, .slice none 0 0, .slice none 0 0, .slice none 0 0, .slice none 0 0, .bool false] 31 (0, 0)) (bk_ BK131.out) NB131_0.out (by simp)); have n1_ := Aside0.mk (KeepBut.trans (kp1_ HK.out GW131.out) hk (.inl rfl)); have n2_ := Aside0.mk (hb); have n3_ := Aside0.mk (hi); clear BK131 HK HB HI0; revert n0_ n1_ n2_ n3_; intro BK131 HK HB HI0; (try clear hb); (try clear hb2); (try clear hk); (try clear hi); have hnb71 := NB131_0.out; have hnc71 := NB0_131.out; obtain ⟨hcz72_0, hcz72_1, hcz72_2, hcz72_3, hcz72_4, hcz72_5, hcz72_6, hcz72_7, hfz72_0, hfz72_1, hfz72_2, hfz72_3, hfz72_4, hfz72_5, hfz72_6, hfz72_7⟩ := bx8_ BK131.out))
       refine bodyPost_ret (results_cell_row rfl _ _ gb131 31 #[.int .i64 0, .int .i64 1, .slice none 0 0, .slice none 0 0, .slice none 0 0, .slice none 0 0, .slice none 0 0, .bool false] (0, 0) _ rfl ((p8_ BK131.out)) Try.underlying31 rfl (by kernel_rfl)) rfl ?_; exact ⟨_, _, _, _, _, by first | rfl | (simp [errW_none, errW_some] <;> rfl) | (simp [*, errW_none, errW_some] <;> rfl), by first | exact Kd.R_nil _ _ _ _ _ | exact Kd.N_nil _ _ _ _ _ | exact Kd.V_nil _ _ _ _ _ | exact Kd.Q_nil _ _ _ _ _ | exact Kd.S_nil _ _ _ _ _, by first | exact Kd.R_nil _ _ _ _ _ | exact Kd.N_nil _ _ _ _ _ | exact Kd.V_nil _ _ _ _ _ | exact Kd.Q_nil _ _ _ _ _ | exact Kd.S_nil _ _ _ _ _, by first | exact Kd.R_nil _ _ _ _ _ | exact Kd.N_nil _ _ _ _ _ | exact Kd.V_nil _ _ _ _ _ | exact Kd.Q_nil _ _ _ _ _ | exact Kd.S_nil _ _ _ _ _, by first | exact Kd.R_nil _ _ _ _ _ | exact Kd.N_nil _ _ _ _ _ | exact Kd.V_nil _ _ _ _ _ | exact Kd.Q_nil _ _ _ _ _ | exact Kd.S_nil _ _ _ _ _, by first | exact Kd.R_nil _ _ _ _ _ | exact Kd.N_nil _ _ _ _ _ | exact Kd.V_nil _ _ _ _ _ | exact Kd.Q_nil _ _ _ _ _ | exact Kd.S_nil _ _ _ _ _, (is1_ HI0.out NB0_131.out), (hb2_ HB.out (IsS84.ge HI0.out) GE131.out), (kp1_ HK.out GW131.out)⟩
      ·
       rw [if_neg c68] at H; have c68b0 : (t132 == 5) = false := beq_eq_false_iff_ne.mpr c68; have c68b1 : (t132 != 5) = true := bne_iff_ne.mpr c68; replace H := Option.bind_eq_some_iff.mp H; obtain ⟨⟨t207, t210⟩, A730, H⟩ := H; (try dsimp only at H); have A73 := Aside0.mk A730; clear A730; replace H := Option.bind_eq_some_iff.mp H; obtain ⟨⟨t211, t212⟩, A740, H⟩ := H; (try dsimp only at H); have A74 := Aside0.mk A740; clear A740; simp only [Option.some.injEq, Prod.mk.injEq] at H; obtain ⟨rfl, rfl, rfl, rfl, rfl, rfl, rfl, rfl, rfl⟩ := H; go_enter Try.func22, Try.ntmps22
       go_wp2_with (first | ((with_reducible refine gate_dst (N := 2) rfl ?_); refine box_event ?hg (N := 2) ?hd (cs := #[.int .i64 0, .int .i64 0, .slice none 0 0, .slice none 0 0, .slice none 0 0, .slice none 0 0, .slice none 0 0, .bool false]) (t := 31) ?hr ?_; (case hd => rfl); (case hg => rfl); (case hr => first | (go_simp; done) | (go_simp; rfl)); intro gb131 hg w75 hbox hb; have n0_ := Aside0.mk (IsS84.below ((is0_ HI0.out)) hb); have n1_ := Aside0.mk (KeepBut.trans (kp0_ HK.out) (KeepBut.of_below hb g none) (.inl rfl)); have n2_ := Aside0.mk (below_step ((hb1_ HB.out (IsS84.ge HI0.out))) hb); have n3_ := Aside0.mk (hbox); have n4_ := Aside0.mk ((by rw [hg]; exact (keep_size (w := w) (g := g) (row := none) (kp0_ HK.out)) : w.heap.size ≤ gb131)); have n5_ := Aside0.mk ((Nat.le_trans HW0.out (by rw [hg]; exact (keep_size (w := w) (g := g) (row := none) (kp0_ HK.out)) : w.heap.size ≤ gb131) : w0.heap.size ≤ gb131)); have n6_ := Aside0.mk ((by rw [hg]; exact Nat.ne_of_lt (IsS84.lt (show IsS84 w0 _ g s0_0 s0_1 from (is0_ HI0.out))) : g ≠ gb131)); have n7_ := Aside0.mk ((by rw [hg]; exact Nat.ne_of_gt (IsS84.lt (show IsS84 w0 _ g s0_0 s0_1 from (is0_ HI0.out))) : gb131 ≠ g)); clear HI0 HK HB; revert n0_ n1_ n2_ n3_ n4_ n5_ n6_ n7_; intro HI0 HK HB BK131 GW131 GE131 NB0_131 NB131_0; clear hb hbox hg) | ((with_reducible refine gate_callee (f := 21) rfl ?_); refine goesL_ (some 7) rfl rfl Try.func21 (by kernel_rfl) rfl #[.pointer (some ⟨g, 0, none⟩), .int .i64 7] rfl lm_ ?_; (with_reducible refine (made_Dice_Next.calls g s0_0 s0_1 7 t132 t133 w0 _ ?side1 ?side2 A2.out).mono ?_); (case side1 => exact (is1_ HI0.out NB0_131.out)); (case side2 => exact (hb2_ HB.out (IsS84.ge HI0.out) GE131.out)); rintro e w76 ⟨rfl, hi, hb, hk⟩; refine ⟨_, rfl, ?_⟩; have n0_ := Aside0.mk (KeepBut.blk hk (g' := gb131) (o := .cells #[.int .i64 0, .int .i64 0, .slice none 0 0, .slice none 0 0, .slice none 0 0, .slice none 0 0, .slice none 0 0, .bool false] 31 (0, 0)) (bk_ BK131.out) NB131_0.out (by simp)); have n1_ := Aside0.mk (KeepBut.trans (kp1_ HK.out GW131.out) hk (.inl rfl)); have n2_ := Aside0.mk (hb); have n3_ := Aside0.mk (hi); clear BK131 HK HB HI0; revert n0_ n1_ n2_ n3_; intro BK131 HK HB HI0; (try clear hb); (try clear hb2); (try clear hk); (try clear hi)) | ((with_reducible refine gate_callee (f := 33) rfl ?_); refine goesL_ (some 40) rfl rfl Try.func33 (by kernel_rfl) rfl #[.pointer (some ⟨g, 0, none⟩), .int .i64 12] rfl lm_ ?_; (with_reducible refine (made_Dice_Bytes.calls k g s0_0 t133 12 t207 t210 w0 _ ?side1 ?side2 A73.out).mono ?_); (case side1 => exact (is1_ HI0.out NB0_131.out)); (case side2 => exact (hb2_ HB.out (IsS84.ge HI0.out) GE131.out)); rintro e w77 ⟨v208, rfl, ho0, hi, hb, hk⟩; refine ⟨_, rfl, ?_⟩; have n0_ := Aside0.mk (KeepBut.blk hk (g' := gb131) (o := .cells #[.int .i64 0, .int .i64 0, .slice none 0 0, .slice none 0 0, .slice none 0 0, .slice none 0 0, .slice none 0 0, .bool false] 31 (0, 0)) (bk_ BK131.out) NB131_0.out (by simp)); have n1_ := Aside0.mk (Kd.R_lower (Kd.R_newM (M := fun k_ => (w.heap.size ≤ k_)) ho0 (keep_size (w := w) (g := g) (row := none) (kp1_ HK.out GW131.out)) (fun k_ h_ => h_)) (keep_size (w := w) (g := g) (row := none) (kp1_ HK.out GW131.out))); have n2_ := Aside0.mk (KeepBut.trans (kp1_ HK.out GW131.out) hk (.inl rfl)); have n3_ := Aside0.mk (hb); have n4_ := Aside0.mk (hi); clear BK131 HK HB HI0; revert n0_ n1_ n2_ n3_ n4_; intro BK131 HO209 HK HB HI0; (try clear hb); (try clear hb2); (try clear hk); (try clear hi); (try clear ho0); obtain ⟨Ao78, co78, eo78⟩ := Kd.R_slice HO209.out; subst eo78) | ((with_reducible refine gate_callee (f := 21) rfl ?_); refine goesL_ (some 44) rfl rfl Try.func21 (by kernel_rfl) rfl #[.pointer (some ⟨g, 0, none⟩), .int .i64 2] rfl lm_ ?_; (with_reducible refine (made_Dice_Next.calls g s0_0 t210 2 t211 t212 w0 _ ?side1 ?side2 A74.out).mono ?_); (case side1 => exact (is1_ HI0.out NB0_131.out)); (case side2 => exact (hb2_ HB.out (IsS84.ge HI0.out) GE131.out)); rintro e w79 ⟨rfl, hi, hb, hk⟩; refine ⟨_, rfl, ?_⟩; have n0_ := Aside0.mk (KeepBut.blk hk (g' := gb131) (o := .cells #[.int .i64 0, .int .i64 0, .slice none 0 0, .slice none 0 0, .slice none 0 0, .slice none 0 0, .slice none 0 0, .bool false] 31 (0, 0)) (bk_ BK131.out) NB131_0.out (by simp)); have n1_ := Aside0.mk (Kd.R_mono (Kd.R_keep (IsS84.apart (show IsS84 w0 _ g s0_0 t210 from (is1_ HI0.out NB0_131.out)) (kR_ HO209.out) (by decide)) hk (fun _ h => h.2)) (fun _ h => h.1)); have n2_ := Aside0.mk (KeepBut.trans (kp1_ HK.out GW131.out) hk (.inl rfl)); have n3_ := Aside0.mk (hb); have n4_ := Aside0.mk (hi); clear BK131 HO209 HK HB HI0; revert n0_ n1_ n2_ n3_ n4_; intro BK131 HO209 HK HB HI0; (try clear hb); (try clear hb2); (try clear hk); (try clear hi); have hnb80 := NB131_0.out; have hnc80 := NB0_131.out; obtain ⟨hcz81_0, hcz81_1, hcz81_2, hcz81_3, hcz81_4, hcz81_5, hcz81_6, hcz81_7, hfz81_0, hfz81_1, hfz81_2, hfz81_3, hfz81_4, hfz81_5, hfz81_6, hfz81_7⟩ := bx8_ BK131.out))
       refine bodyPost_ret (results_cell_row rfl _ _ gb131 31 #[.int .i64 (t207.length : Int), .int .i64 (wrap64 (1 + (wrap64 (7 * t211)))), .slice Ao78 t207.length co78, .slice none 0 0, .slice none 0 0, .slice none 0 0, .slice none 0 0, .bool false] (0, 0) _ rfl ((p8_ BK131.out)) Try.underlying31 rfl (by kernel_rfl)) rfl ?_; exact ⟨_, _, _, _, _, by first | rfl | (simp [errW_none, errW_some] <;> rfl) | (simp [*, errW_none, errW_some] <;> rfl), by (with_reducible repeat (first | apply Kd.R_alloc | apply Kd.R_drewN | apply Kd.R_drew)); exact Kd.R_mono (far8R_ (Kd.R_types HO209.out BK131.out (by decide)) _ _ _ _ _ _ _ _ fun _ hk => hk.2) (fun _ hk => hk.1.1), by first | exact Kd.R_nil _ _ _ _ _ | exact Kd.N_nil _ _ _ _ _ | exact Kd.V_nil _ _ _ _ _ | exact Kd.Q_nil _ _ _ _ _ | exact Kd.S_nil _ _ _ _ _, by first | exact Kd.R_nil _ _ _ _ _ | exact Kd.N_nil _ _ _ _ _ | exact Kd.V_nil _ _ _ _ _ | exact Kd.Q_nil _ _ _ _ _ | exact Kd.S_nil _ _ _ _ _, by first | exact Kd.R_nil _ _ _ _ _ | exact Kd.N_nil _ _ _ _ _ | exact Kd.V_nil _ _ _ _ _ | exact Kd.Q_nil _ _ _ _ _ | exact Kd.S_nil _ _ _ _ _, by first | exact Kd.R_nil _ _ _ _ _ | exact Kd.N_nil _ _ _ _ _ | exact Kd.V_nil _ _ _ _ _ | exact Kd.Q_nil _ _ _ _ _ | exact Kd.S_nil _ _ _ _ _, (is1_ HI0.out NB0_131.out), (hb2_ HB.out (IsS84.ge HI0.out) GE131.out), (kp1_ HK.out GW131.out)⟩

/-! ### sum_Pointer: function 37 -/
def sum_Pointer.f  : Option (Int × Int × List Int × List Int × (List (S101)) × (List (S79)) × List Int × Bool) := some (8, 8, (([7, 0, 0, 0, 0, 0, 255, 255] : List Int)), ([] : List Int), ([] : List (S101)), ([] : List (S79)), ([] : List Int), true)
set_option maxHeartbeats 8000000 in
set_option maxRecDepth 100000 in
theorem sum_Pointer.calls  (r1 : Int) (r2 : Int) (r3 : List Int) (r4 : List Int) (r5 : List (S101)) (r6 : List (S79)) (r7 : List Int) (r8 : Bool) (w : World) (h : sum_Pointer.f  = some (r1, r2, r3, r4, r5, r6, r7, r8)) :
  Calls Try.prog 37 #[] w fun e w' => ∃ v2_ v3_ v4_ v5_ v6_ : Value, e = .returned (.agg #[.int .i64 r1, .int .i64 r2, v2_, v3_, v4_, v5_, v6_, .bool r8]) ∧ Kd.R (Kd.int .u8) 5 w' w.heap.size (fun _ => True) v2_ r3 ∧ Kd.R (Kd.int .i64) 3 w' w.heap.size (fun k_ => some k_ ≠ (v6_ : Value).ownBlock) v3_ r4 ∧ Kd.R k101 101 w' w.heap.size (fun _ => True) v4_ r5 ∧ Kd.R k79 79 w' w.heap.size (fun k_ => some k_ ≠ (v3_ : Value).ownBlock ∧ some k_ ≠ (v4_ : Value).ownBlock ∧ some k_ ≠ (v6_ : Value).ownBlock) v5_ r6 ∧ Kd.R (Kd.int .i64) 3 w' w.heap.size (fun k_ => some k_ ≠ (v3_ : Value).ownBlock) v6_ r7 ∧ Below w.heap.size w w' := by
 have hu31 := Try.underlying31; have HB := Aside0.mk (Below.refl w.heap.size w); have H : (some (8, 8, (([7, 0, 0, 0, 0, 0, 255, 255] : List Int)), ([] : List Int), ([] : List (S101)), ([] : List (S79)), ([] : List Int), true)) = some (r1, r2, r3, r4, r5, r6, r7, r8) := h; clear h; obtain ⟨y214, hy214⟩ : ∃ y_ : List Int, y_ = (([7, 0, 0, 0, 0, 0, 255, 255] : List Int)) := ⟨_, rfl⟩; replace H : (some (8, 8, y214, ([] : List Int), ([] : List (S101)), ([] : List (S79)), ([] : List Int), true)) = some (r1, r2, r3, r4, r5, r6, r7, r8) := by first | (rw [hy214]; with_reducible exact H) | (have H2_ := (Option.bind_some _ _).symm.trans H; rw [hy214]; with_reducible exact H2_) | (have H2_ := (Option.bind_some _ _).symm.trans H; with_reducible exact H2_) | with_reducible exact H | (rw [hy214]; exact H) | exact H
 have Ny214 := Aside0.mk hy214; clear hy214; simp only [Option.some.injEq, Prod.mk.injEq] at H; obtain ⟨rfl, rfl, rfl, rfl, rfl, rfl, rfl, rfl⟩ := H; go_enter Try.func37, Try.ntmps37
 go_wp2_with (first | ((with_reducible refine gate_dst (N := 0) rfl ?_); refine box_event ?hg (N := 0) ?hd (cs := #[.int .i64 0, .int .i64 0, .slice none 0 0, .slice none 0 0, .slice none 0 0, .slice none 0 0, .slice none 0 0, .bool false]) (t := 31) ?hr ?_; (case hd => rfl); (case hg => rfl); (case hr => first | (go_simp; done) | (go_simp; rfl)); intro gb213 hg w1 hbox hb; have n0_ := Aside0.mk (below_step (hb0_ HB.out) hb); have n1_ := Aside0.mk (hbox); have n2_ := Aside0.mk ((by rw [hg]; exact (below_size (hb0_ HB.out)) : w.heap.size ≤ gb213)); have n3_ := Aside0.mk ((by rw [hg]; exact (below_size (hb0_ HB.out)) : w.heap.size ≤ gb213)); clear HB; revert n0_ n1_ n2_ n3_; intro HB BK213 GW213 GE213; clear hb hbox hg) | ((with_reducible refine gate_dst (N := 1) rfl ?_); refine Kd.R_lit (Kd.int .u8) _ 5 ?hg (N := 1) ?hd (xs := ([7, 0, 0, 0, 0, 0, 255, 255] : List Int)) (inner := [.int .u8 7, .int .u8 0, .int .u8 0, .int .u8 0, .int .u8 0, .int .u8 0, .int .u8 255, .int .u8 255]) (ok := fun _ => True) (okp := fun _ => True) ?hr ?hp (fun _ hk => hk) trivial (Below.refl _ _) (Nat.le_refl _) (by simp) ?_; (case hd => rfl); (case hg => rfl); (case hr => first | (go_simp; done) | (go_simp; rfl)); (case hp => exact (Reps.one (show Kd.M (Kd.int .u8) _ _ _ 7 [.int .u8 7] from rfl) (Reps.one (show Kd.M (Kd.int .u8) _ _ _ 0 [.int .u8 0] from rfl) (Reps.one (show Kd.M (Kd.int .u8) _ _ _ 0 [.int .u8 0] from rfl) (Reps.one (show Kd.M (Kd.int .u8) _ _ _ 0 [.int .u8 0] from rfl) (Reps.one (show Kd.M (Kd.int .u8) _ _ _ 0 [.int .u8 0] from rfl) (Reps.one (show Kd.M (Kd.int .u8) _ _ _ 0 [.int .u8 0] from rfl) (Reps.one (show Kd.M (Kd.int .u8) _ _ _ 255 [.int .u8 255] from rfl) (Reps.one (show Kd.M (Kd.int .u8) _ _ _ 255 [.int .u8 255] from rfl) (Reps.none _ _)))))))))); intro v215 w2 ho3 hb hg_ hnew_; clear hg_ hnew_; (first | rw [← Ny214.out] at ho3 | (simp only [Int.reduceToNat] at ho3; rw [← Ny214.out] at ho3)); have n0_ := Aside0.mk (Kd.R_lower ho3 (below_size (hb1_ HB.out GE213.out))); have n1_ := Aside0.mk (bb_ BK213.out hb); have n2_ := Aside0.mk (below_step (hb1_ HB.out GE213.out) hb); clear BK213 HB; revert n0_ n1_ n2_; intro HO216 BK213 HB; clear hb ho3; obtain ⟨Ao4, co4, eo4⟩ := Kd.R_slice HO216.out; subst eo4; obtain ⟨hcz5_0, hcz5_1, hcz5_2, hcz5_3, hcz5_4, hcz5_5, hcz5_6, hcz5_7, hfz5_0, hfz5_1, hfz5_2, hfz5_3, hfz5_4, hfz5_5, hfz5_6, hfz5_7⟩ := bx8_ BK213.out))
 refine bodyPost_ret (results_cell_row rfl _ _ gb213 31 #[.int .i64 8, .int .i64 8, .slice Ao4 y214.length co4, .slice none 0 0, .slice none 0 0, .slice none 0 0, .slice none 0 0, .bool true] (0, 0) _ rfl ((p8_ BK213.out)) Try.underlying31 rfl (by kernel_rfl)) rfl ?_; exact ⟨_, _, _, _, _, by first | rfl | (simp [errW_none, errW_some] <;> rfl) | (simp [*, errW_none, errW_some] <;> rfl), by (with_reducible repeat (first | apply Kd.R_alloc | apply Kd.R_drewN | apply Kd.R_drew)); exact Kd.R_mono (far8R_ (Kd.R_types HO216.out BK213.out (by decide)) _ _ _ _ _ _ _ _ fun _ hk => hk.2) (fun _ hk => trivial), by first | exact Kd.R_nil _ _ _ _ _ | exact Kd.N_nil _ _ _ _ _ | exact Kd.V_nil _ _ _ _ _ | exact Kd.Q_nil _ _ _ _ _ | exact Kd.S_nil _ _ _ _ _, by first | exact Kd.R_nil _ _ _ _ _ | exact Kd.N_nil _ _ _ _ _ | exact Kd.V_nil _ _ _ _ _ | exact Kd.Q_nil _ _ _ _ _ | exact Kd.S_nil _ _ _ _ _, by first | exact Kd.R_nil _ _ _ _ _ | exact Kd.N_nil _ _ _ _ _ | exact Kd.V_nil _ _ _ _ _ | exact Kd.Q_nil _ _ _ _ _ | exact Kd.S_nil _ _ _ _ _, by first | exact Kd.R_nil _ _ _ _ _ | exact Kd.N_nil _ _ _ _ _ | exact Kd.V_nil _ _ _ _ _ | exact Kd.Q_nil _ _ _ _ _ | exact Kd.S_nil _ _ _ _ _, (hb1_ HB.out GE213.out)⟩

/-! ### sum_TagSize: function 42 -/
def sum_TagSize.l0 : Nat → Int → Int → Option (Int)
 | 0, _, _ => none
 | k + 1, x0, x3 => if x3 < 62 then (if 0 ≤ x3 then (if (shl .i64 1 x3) < x0 then (sum_TagSize.l0 k x0 (wrap64 (x3 + 1))) else (if x0 > 4611686018427387904 then (some (wrap64 (x3 + 1))) else (some x3))) else (none)) else (if x0 > 4611686018427387904 then (some (wrap64 (x3 + 1))) else (some x3))
def sum_TagSize.f (k : Nat) (a0 : Int) : Option (Int) := sum_TagSize.l0 k a0 0
theorem sum_TagSize.mono_l : ∀ k, (∀ y0 y1, LeO (sum_TagSize.l0 k y0 y1) (sum_TagSize.l0 (k + 1) y0 y1))
 | 0 => fun _ _ r h => by simp [sum_TagSize.l0] at h
 | k + 1 => by
  have ih0 := sum_TagSize.mono_l k
  ·
   intro y0 y1; unfold sum_TagSize.l0
   repeat' first
   | (with_reducible exact ih0 _ _)
   | (with_reducible exact LeO.refl _)
   | (with_reducible exact LeO.none _)
   | (with_reducible refine LeO.ite ?_ ?_)
   | (with_reducible refine LeO.bind ?_ (fun _ => ?_))
   | exact ih0 _ _
   | exact LeO.none _
   | refine LeO.ite ?_ ?_
   | refine LeO.bind ?_ (fun _ => ?_)
theorem sum_TagSize.mono : ∀ a0 k, LeO (sum_TagSize.f k a0) (sum_TagSize.f (k + 1) a0) := by
 intro a0 k; have ih0 := sum_TagSize.mono_l k; unfold sum_TagSize.f
 repeat' first
   | (with_reducible exact ih0 _ _)
   | (with_reducible exact LeO.refl _)
   | (with_reducible exact LeO.none _)
   | (with_reducible refine LeO.ite ?_ ?_)
   | (with_reducible refine LeO.bind ?_ (fun _ => ?_))
   | exact ih0 _ _
   | exact LeO.none _
   | refine LeO.ite ?_ ?_
   | refine LeO.bind ?_ (fun _ => ?_)
set_option maxHeartbeats 8000000 in
set_option maxRecDepth 100000 in
theorem sum_TagSize.calls (k : Nat) (a0 : Int) (r : Int) (w : World) (h : sum_TagSize.f k a0 = some r) :
  Calls Try.prog 42 #[.int .i64 a0] w fun e w' => e = .returned (.int .i64 r) ∧ Drawn0 w w' := by
 have H : (sum_TagSize.l0 k a0 0) = some r := h; clear h; have H' := Aside0.mk H; clear H; go_enter Try.func42, Try.ntmps42
 go_wp2
 go_loopg [3] k (fun kq v3 w' => ∃ (x3_1 : Int), v3 = .int .i64 x3_1 ∧ Aside0 (sum_TagSize.l0 kq a0 x3_1 = some r) ∧ Aside0 (kq ≤ k) ∧ Drawn0 w w')
 case atStart => exact ⟨(0), rf_, H', ⟨Nat.le_refl _⟩, by repeat (first | exact Drawn0.refl _ | apply Drawn0.step)⟩
 case round =>
  clear H'; obtain ⟨x3_1, rfl, HA, HK1, ⟨m1, rfl⟩⟩ := hrel; cases gk with
  | zero => exact absurd HA.out (by simp [sum_TagSize.l0])
  | succ k1 =>
   have H := HA.out; clear HA; simp only [sum_TagSize.l0] at H; by_cases c2 : x3_1 < 62
   ·
    rw [if_pos c2] at H; have c2b0 : decide (x3_1 < 62) = true := decide_eq_true c2; clear c2; by_cases c3 : 0 ≤ x3_1
    rotate_left
    ·
     rw [if_neg c3] at H; exact absurd H (by simp)
    rw [if_pos c3] at H; have c3b0 := eq_true c3; have c3b1 : decide (0 ≤ x3_1) = true := decide_eq_true c3; clear c3; obtain ⟨ji4, hji4⟩ : ∃ j_ : Int, (shl .i64 1 x3_1) = j_ := ⟨_, rfl⟩; replace H : (if (ji4) < a0 then (sum_TagSize.l0 k1 a0 (wrap64 (x3_1 + 1))) else (if a0 > 4611686018427387904 then (some (wrap64 (x3_1 + 1))) else (some x3_1))) = some r := by first | (rw [hji4] at H; exact H) | (simp only [hji4] at H ⊢; exact H)
    have hji4_ : (IntKind.i64.wrap (1 * 2 ^ min x3_1.toNat 64)) = ji4 := hji4; have hji4z : x3_1 ≤ 64 → (IntKind.i64.wrap (1 * 2 ^ x3_1.toNat)) = ji4 := shl_small hji4; have hji4u : (IntKind.i64.wrap (2 ^ min x3_1.toNat 64)) = ji4 := by have h_ := hji4_; rw [Int.one_mul] at h_; exact h_
    have hji4v : x3_1 ≤ 64 → (IntKind.i64.wrap (2 ^ x3_1.toNat)) = ji4 := fun hle_ => by have h_ := hji4z hle_; rw [Int.one_mul] at h_; exact h_
    have hji4y : (wrap64 (1 * 2 ^ min x3_1.toNat 64)) = ji4 := (i64_w _).symm.trans hji4_; have hji4x : x3_1 ≤ 64 → (wrap64 (1 * 2 ^ x3_1.toNat)) = ji4 := fun h_ => (i64_w _).symm.trans (hji4z h_); by_cases c5 : (ji4) < a0
    ·
     rw [if_pos c5] at H; have c5b0 : decide ((ji4) < a0) = true := decide_eq_true c5; clear c5; have H' := Aside0.mk H; clear H; go_wp2
     go_roundg k1
     case measure => have := HK1.out; omega
     case rel => exact ⟨(wrap64 (x3_1 + 1)), rf_, H', ⟨by have := HK1.out; omega⟩, by repeat (first | exact Drawn0.refl _ | apply Drawn0.step)⟩
    ·
     rw [if_neg c5] at H; have c5b0 : decide ((ji4) < a0) = false := decide_eq_false c5; clear c5; by_cases c6 : a0 > 4611686018427387904
     ·
      rw [if_pos c6] at H; have c6b0 : decide (4611686018427387904 < a0) = true := decide_eq_true c6; clear c6; obtain rfl := Option.some.inj H; go_wp2
      go_ret
      exact ⟨by first | rfl | (simp; done) | (simp only [← hji4] <;> (first | rfl | simp)) | (simp [*]; done), by repeat (first | exact Drawn0.refl _ | apply Drawn0.step)⟩
     ·
      rw [if_neg c6] at H; have c6b0 : decide (4611686018427387904 < a0) = false := decide_eq_false c6; clear c6; obtain rfl := Option.some.inj H; go_wp2
      go_ret
      exact ⟨by first | rfl | (simp; done) | (simp only [← hji4] <;> (first | rfl | simp)) | (simp [*]; done), by repeat (first | exact Drawn0.refl _ | apply Drawn0.step)⟩
   ·
    rw [if_neg c2] at H; have c2b0 : decide (x3_1 < 62) = false := decide_eq_false c2; clear c2; by_cases c7 : a0 > 4611686018427387904
    ·
     rw [if_pos c7] at H; have c7b0 : decide (4611686018427387904 < a0) = true := decide_eq_true c7; clear c7; obtain rfl := Option.some.inj H; go_wp2
     go_ret
     exact ⟨rf_, by repeat (first | exact Drawn0.refl _ | apply Drawn0.step)⟩
    ·
     rw [if_neg c7] at H; have c7b0 : decide (4611686018427387904 < a0) = false := decide_eq_false c7; clear c7; obtain rfl := Option.some.inj H; go_wp2
     go_ret
     exact ⟨rf_, by repeat (first | exact Drawn0.refl _ | apply Drawn0.step)⟩

/-! ### Ones8: function 86 (by hand) -/
def ones (x : Nat) : Nat := x % 2 + x / 2 % 2 + x / 4 % 2 + x / 8 % 2 + x / 16 % 2 + x / 32 % 2 + x / 64 % 2 + x / 128 % 2
set_option maxRecDepth 100000 in
theorem ones_eq : ∀ n : Fin 256, Lib.onesCount n.val = ones n.val := by decide +kernel
def Ones8.f (a0 : Int) : Option Int := if 0 ≤ a0 then if a0 < 256 then some ((ones a0.toNat : Nat) : Int) else none else none
set_option maxRecDepth 100000 in
theorem Ones8.calls (a0 : Int) (r : Int) (w : World) (h : Ones8.f a0 = some r) :
    Calls Try.prog 86 #[.int .u8 a0] w fun e w' => e = .returned (.int .i64 r) ∧ Drawn0 w w' := by
  unfold Ones8.f at h; by_cases h0 : 0 ≤ a0
  · rw [if_pos h0] at h
    by_cases h1 : a0 < 256
    · rw [if_pos h1] at h
      obtain rfl := Option.some.inj h; clear h; have h2 : a0 ≤ 255 := by omega
      have he : ones a0.toNat = Lib.onesCount a0.toNat := (ones_eq ⟨a0.toNat, by omega⟩).symm; have hp : wrap64 (Lib.pop8 a0) = ((Lib.onesCount a0.toNat : Nat) : Int) := by
        have hp0 := Lib.pop8_int a0 h0 h2; unfold wrap64; exact hp0
      rw [he, ← hp]; clear he h1 hp; go_enter Try.func86, Try.ntmps86
      go_wp2
      go_ret
      exact ⟨rfl, Drawn0.refl _⟩
    · rw [if_neg h1] at h
      exact absurd h (by simp)
  · rw [if_neg h0] at h
    exact absurd h (by simp)

/-! ### mask_Count: function 45 -/
def mask_Count.l0 : Nat → Int → List Int → Int → Int → Option (Int)
 | 0, _, _, _, _ => none
 | k + 1, x3, x6, x7, x8 => if x8 < x7 then (if 0 ≤ x8 then (if x8 < (x6.length : Int) then ((Ones8.f (rd x6 x8)).bind fun t218 => (mask_Count.l0 k (wrap64 (x3 + t218)) x6 x7 (wrap64 (x8 + 1)))) else (none)) else (none)) else (some x3)
def mask_Count.f (k : Nat) (l0 : List Int) : Option (Int) := mask_Count.l0 k 0 l0 (l0.length : Int) 0
theorem mask_Count.mono_l : ∀ k, (∀ y0 y1 y2 y3, LeO (mask_Count.l0 k y0 y1 y2 y3) (mask_Count.l0 (k + 1) y0 y1 y2 y3))
 | 0 => fun _ _ _ _ r h => by simp [mask_Count.l0] at h
 | k + 1 => by
  have ih0 := mask_Count.mono_l k
  ·
   intro y0 y1 y2 y3; unfold mask_Count.l0
   repeat' first
   | (with_reducible exact ih0 _ _ _ _)
   | (with_reducible exact LeO.refl _)
   | (with_reducible exact LeO.none _)
   | (with_reducible refine LeO.ite ?_ ?_)
   | (with_reducible refine LeO.bind ?_ (fun _ => ?_))
   | exact ih0 _ _ _ _
   | exact LeO.none _
   | refine LeO.ite ?_ ?_
   | refine LeO.bind ?_ (fun _ => ?_)
theorem mask_Count.mono : ∀ a0 k, LeO (mask_Count.f k a0) (mask_Count.f (k + 1) a0) := by
 intro a0 k; have ih0 := mask_Count.mono_l k; unfold mask_Count.f
 repeat' first
   | (with_reducible exact ih0 _ _ _ _)
   | (with_reducible exact LeO.refl _)
   | (with_reducible exact LeO.none _)
   | (with_reducible refine LeO.ite ?_ ?_)
   | (with_reducible refine LeO.bind ?_ (fun _ => ?_))
   | exact ih0 _ _ _ _
   | exact LeO.none _
   | refine LeO.ite ?_ ?_
   | refine LeO.bind ?_ (fun _ => ?_)
set_option maxHeartbeats 8000000 in
set_option maxRecDepth 100000 in
theorem mask_Count.calls (k : Nat) (A0 : Option Addr) (c0 : Nat) (l0 : List Int) (r : Int) (w : World) (hr0 : Kd.C (Kd.int .u8) w A0 l0.length l0) (hc0 : l0.length ≤ c0) (h : mask_Count.f k l0 = some r) :
  Calls Try.prog 45 #[.slice A0 l0.length c0] w fun e w' => e = .returned (.int .i64 r) ∧ Drawn0 w w' := by
 have HR0 := Aside0.mk hr0; have HC0 := Aside0.mk hc0; clear hr0 hc0; have H : (mask_Count.l0 k 0 l0 (l0.length : Int) 0) = some r := h; clear h; have H' := Aside0.mk H; clear H; go_enter Try.func45, Try.ntmps45
 go_wp2
 go_loopg [3, 8] k (fun kq v3 v8 w' => ∃ (x3_1 : Int) (x8_1 : Int), v3 = .int .i64 x3_1 ∧ v8 = .int .i64 x8_1 ∧ Aside0 (mask_Count.l0 kq x3_1 l0 (l0.length : Int) x8_1 = some r) ∧ Aside0 (kq ≤ k) ∧ Drawn0 w w')
 case atStart => exact ⟨(0), (0), rf_, rf_, H', ⟨Nat.le_refl _⟩, by repeat (first | exact Drawn0.refl _ | apply Drawn0.step)⟩
 case round =>
  clear H'; obtain ⟨x3_1, x8_1, rfl, rfl, HA, HK1, ⟨m1, rfl⟩⟩ := hrel; cases gk with
  | zero => exact absurd HA.out (by simp [mask_Count.l0])
  | succ k1 =>
   have H := HA.out; clear HA; simp only [mask_Count.l0] at H; by_cases c2 : x8_1 < (l0.length : Int)
   ·
    rw [if_pos c2] at H; have c2b0 : decide (x8_1 < (l0.length : Int)) = true := decide_eq_true c2; clear c2; by_cases c3 : 0 ≤ x8_1
    rotate_left
    ·
     rw [if_neg c3] at H; exact absurd H (by simp)
    rw [if_pos c3] at H; have c3b0 : decide (0 ≤ x8_1) = true := decide_eq_true c3; clear c3; by_cases c4 : x8_1 < (l0.length : Int)
    rotate_left
    ·
     rw [if_neg c4] at H; exact absurd H (by simp)
    rw [if_pos c4] at H; have c4b0 : decide (x8_1 < (l0.length : Int)) = true := decide_eq_true c4; clear c4; replace H := Option.bind_eq_some_iff.mp H; obtain ⟨t218, A50, H⟩ := H; (try dsimp only at H); have A5 := Aside0.mk A50; clear A50; have H' := Aside0.mk H; clear H; have p217 : 0 ≤ (x8_1 : Int) := od_; have q217 : x8_1 < (l0.length : Int) := od_; obtain ⟨ad217, e217, hx217_0⟩ := Kd.at_int HR0.out x8_1 p217 q217; cases e217; replace p217 := eq_true p217; replace q217 := eq_true q217; go_wp2_with (first | ((with_reducible refine gate_callee (f := 86) rfl ?_); refine goesL_ (some 14) rfl rfl Try.func86 (by kernel_rfl) rfl #[.int .u8 (rd l0 x8_1)] rfl lm_ ?_; (with_reducible refine (Ones8.calls (rd l0 x8_1) t218 _ A5.out).mono ?_); rintro e w' ⟨rfl, ⟨nd, rfl⟩⟩; refine ⟨_, rfl, ?_⟩))
    go_roundg k1
    case measure => have := HK1.out; omega
    case rel => exact ⟨(wrap64 (x3_1 + t218)), (wrap64 (x8_1 + 1)), rf_, rf_, H', ⟨by have := HK1.out; omega⟩, by repeat (first | exact Drawn0.refl _ | apply Drawn0.step)⟩
   ·
    rw [if_neg c2] at H; have c2b0 : decide (x8_1 < (l0.length : Int)) = false := decide_eq_false c2; clear c2; obtain rfl := Option.some.inj H; go_wp2
    go_ret
    exact ⟨rf_, by repeat (first | exact Drawn0.refl _ | apply Drawn0.step)⟩

/-! ### mask_get: function 85 -/
def mask_get.f (l0 : List Int) (a1 : Int) : Option (Bool) := if a1 ≥ 0 then (if (wrap64 (Int.tdiv a1 8)) < (l0.length : Int) then (if 0 ≤ (wrap64 (Int.tdiv a1 8)) then (if 0 ≤ (Int.tmod a1 8) then (some ((Go.bits .and .u8 (shr .u8 (rd l0 (wrap64 (Int.tdiv a1 8))) (Int.tmod a1 8)) 1) == 1)) else (none)) else (none)) else (some false)) else (some false)
set_option maxHeartbeats 8000000 in
set_option maxRecDepth 100000 in
theorem mask_get.calls (A0 : Option Addr) (c0 : Nat) (l0 : List Int) (a1 : Int) (r : Bool) (w : World) (hr0 : Kd.C (Kd.int .u8) w A0 l0.length l0) (hc0 : l0.length ≤ c0) (h : mask_get.f l0 a1 = some r) :
  Calls Try.prog 85 #[.slice A0 l0.length c0, .int .i64 a1] w fun e w' => e = .returned (.bool r) ∧ Drawn0 w w' := by
 have HR0 := Aside0.mk hr0; have HC0 := Aside0.mk hc0; clear hr0 hc0; have H : (if a1 ≥ 0 then (if (wrap64 (Int.tdiv a1 8)) < (l0.length : Int) then (if 0 ≤ (wrap64 (Int.tdiv a1 8)) then (if 0 ≤ (Int.tmod a1 8) then (some ((Go.bits .and .u8 (shr .u8 (rd l0 (wrap64 (Int.tdiv a1 8))) (Int.tmod a1 8)) 1) == 1)) else (none)) else (none)) else (some false)) else (some false)) = some r := h; clear h; by_cases c3 : a1 ≥ 0
 ·
  rw [if_pos c3] at H; have c3b0 : decide (0 ≤ a1) = true := decide_eq_true c3; clear c3; by_cases c4 : (wrap64 (Int.tdiv a1 8)) < (l0.length : Int)
  ·
   rw [if_pos c4] at H; have c4b0 : decide ((wrap64 (Int.tdiv a1 8)) < (l0.length : Int)) = true := decide_eq_true c4; clear c4; obtain ⟨ji5, hji5⟩ : ∃ j_ : Int, (wrap64 (Int.tdiv a1 8)) = j_ := ⟨_, rfl⟩; replace H : (if 0 ≤ (ji5) then (if 0 ≤ (Int.tmod a1 8) then (some ((Go.bits .and .u8 (shr .u8 (rd l0 (ji5)) (Int.tmod a1 8)) 1) == 1)) else (none)) else (none)) = some r := by first | (rw [hji5] at H; exact H) | (simp only [hji5] at H ⊢; exact H)
   (try rw [hji5] at c4b0)
   have hji5w : (IntKind.i64.wrap (Int.tdiv a1 8)) = ji5 := (i64_w _).trans hji5; by_cases c6 : 0 ≤ (ji5)
   rotate_left
   ·
    rw [if_neg c6] at H; exact absurd H (by simp)
   rw [if_pos c6] at H; have c6b0 : decide (0 ≤ (ji5)) = true := decide_eq_true c6; clear c6; obtain ⟨ji7, hji7⟩ : ∃ j_ : Int, (Int.tmod a1 8) = j_ := ⟨_, rfl⟩; replace H : (if 0 ≤ (ji7) then (some ((Go.bits .and .u8 (shr .u8 (rd l0 (ji5)) (ji7)) 1) == 1)) else (none)) = some r := by first | (rw [hji7] at H; exact H) | (simp only [hji7] at H ⊢; exact H)
   by_cases c8 : 0 ≤ (ji7)
   rotate_left
   ·
    rw [if_neg c8] at H; exact absurd H (by simp)
   rw [if_pos c8] at H; have c8b0 := eq_true c8; have c8b1 : decide (0 ≤ (ji7)) = true := decide_eq_true c8; clear c8; obtain ⟨ji9, hji9⟩ : ∃ j_ : Int, (shr .u8 (rd l0 (ji5)) (ji7)) = j_ := ⟨_, rfl⟩; replace H : (some ((Go.bits .and .u8 (ji9) 1) == 1)) = some r := by first | (rw [hji9] at H; exact H) | (simp only [hji9] at H ⊢; exact H)
   have hji9_ : ((rd l0 (ji5)) / 2 ^ min (ji7).toNat 8) = ji9 := hji9; have hji9z : (ji7) ≤ 8 → ((rd l0 (ji5)) / 2 ^ (ji7).toNat) = ji9 := shr_small hji9; obtain rfl := Option.some.inj H; have p219 : 0 ≤ ((ji5) : Int) := od_; have q219 : (ji5) < (l0.length : Int) := od_; obtain ⟨ad219, e219, hx219_0⟩ := Kd.at_int HR0.out (ji5) p219 q219; cases e219; replace p219 := eq_true p219; replace q219 := eq_true q219; go_enter Try.func85, Try.ntmps85
   go_wp2
   go_ret
   exact ⟨by first | rfl | (simp; done) | (simp only [← hji5, ← hji7, ← hji9] <;> (first | rfl | simp)) | (simp [*]; done), by repeat (first | exact Drawn0.refl _ | apply Drawn0.step)⟩
  ·
   rw [if_neg c4] at H; have c4b0 : decide ((wrap64 (Int.tdiv a1 8)) < (l0.length : Int)) = false := decide_eq_false c4; clear c4; obtain rfl := Option.some.inj H; go_enter Try.func85, Try.ntmps85
   go_wp2
   go_ret
   exact ⟨rf_, by repeat (first | exact Drawn0.refl _ | apply Drawn0.step)⟩
 ·
  rw [if_neg c3] at H; have c3b0 : decide (0 ≤ a1) = false := decide_eq_false c3; clear c3; obtain rfl := Option.some.inj H; go_enter Try.func85, Try.ntmps85
  go_wp2
  go_ret
  exact ⟨rf_, by repeat (first | exact Drawn0.refl _ | apply Drawn0.step)⟩

/-! ### mask_Bits: function 44 -/
mutual
def mask_Bits.j0 : Nat → List Int → Int → Bool → Option (List Int × Bool)
 | 0, _, _, _ => none
 | k + 1, x0, x1, x15 => if x15 = true then (some (([] : List Int), false)) else (mask_Bits.l0 k x0 x1 ([] : List Int) 0)
def mask_Bits.l0 : Nat → List Int → Int → List Int → Int → Option (List Int × Bool)
 | 0, _, _, _, _ => none
 | k + 1, x0, x1, x6, x7 => if (x6.length : Int) < x1 then ((mask_get.f x0 x7).bind fun t221 => (if t221 = true then (if x6.length < 17592186044416 then (mask_Bits.l0 k x0 x1 (x6 ++ [x7]) (wrap64 (x7 + 1))) else (none)) else (mask_Bits.l0 k x0 x1 x6 (wrap64 (x7 + 1))))) else (some (x6, true))
end
def mask_Bits.f (k : Nat) (l0 : List Int) (a1 : Int) : Option (List Int × Bool) := if a1 < 0 then (mask_Bits.j0 k l0 a1 true) else ((mask_Count.f k l0).bind fun t220 => (mask_Bits.j0 k l0 a1 (decide (a1 > t220))))
theorem mask_Bits.mono_l : ∀ k, (∀ y0 y1 y2, LeO (mask_Bits.j0 k y0 y1 y2) (mask_Bits.j0 (k + 1) y0 y1 y2)) ∧ (∀ y0 y1 y2 y3, LeO (mask_Bits.l0 k y0 y1 y2 y3) (mask_Bits.l0 (k + 1) y0 y1 y2 y3))
 | 0 => ⟨fun _ _ _ r h => by simp [mask_Bits.j0] at h, fun _ _ _ _ r h => by simp [mask_Bits.l0] at h⟩
 | k + 1 => by
  obtain ⟨ih0, ih1⟩ := mask_Bits.mono_l k; refine ⟨?_, ?_⟩
  ·
   intro y0 y1 y2; unfold mask_Bits.j0
   repeat' first
   | (with_reducible exact ih0 _ _ _)
   | (with_reducible exact ih1 _ _ _ _)
   | (with_reducible exact mask_Count.mono _ _)
   | (with_reducible exact LeO.refl _)
   | (with_reducible exact LeO.none _)
   | (with_reducible refine LeO.ite ?_ ?_)
   | (with_reducible refine LeO.bind ?_ (fun _ => ?_))
   | exact ih0 _ _ _
   | exact ih1 _ _ _ _
   | exact mask_Count.mono _ _
   | exact LeO.none _
   | refine LeO.ite ?_ ?_
   | refine LeO.bind ?_ (fun _ => ?_)
  ·
   intro y0 y1 y2 y3; unfold mask_Bits.l0
   repeat' first
   | (with_reducible exact ih0 _ _ _)
   | (with_reducible exact ih1 _ _ _ _)
   | (with_reducible exact mask_Count.mono _ _)
   | (with_reducible exact LeO.refl _)
   | (with_reducible exact LeO.none _)
   | (with_reducible refine LeO.ite ?_ ?_)
   | (with_reducible refine LeO.bind ?_ (fun _ => ?_))
   | exact ih0 _ _ _
   | exact ih1 _ _ _ _
   | exact mask_Count.mono _ _
   | exact LeO.none _
   | refine LeO.ite ?_ ?_
   | refine LeO.bind ?_ (fun _ => ?_)
theorem mask_Bits.mono : ∀ a0 a1 k, LeO (mask_Bits.f k a0 a1) (mask_Bits.f (k + 1) a0 a1) := by
 intro a0 a1 k; obtain ⟨ih0, ih1⟩ := mask_Bits.mono_l k; unfold mask_Bits.f
 repeat' first
   | (with_reducible exact ih0 _ _ _)
   | (with_reducible exact ih1 _ _ _ _)
   | (with_reducible exact mask_Count.mono _ _)
   | (with_reducible exact LeO.refl _)
   | (with_reducible exact LeO.none _)
   | (with_reducible refine LeO.ite ?_ ?_)
   | (with_reducible refine LeO.bind ?_ (fun _ => ?_))
   | exact ih0 _ _ _
   | exact ih1 _ _ _ _
   | exact mask_Count.mono _ _
   | exact LeO.none _
   | refine LeO.ite ?_ ?_
   | refine LeO.bind ?_ (fun _ => ?_)
set_option maxHeartbeats 8000000 in
set_option maxRecDepth 100000 in
theorem mask_Bits.calls (k : Nat) (A0 : Option Addr) (c0 : Nat) (l0 : List Int) (a1 : Int) (r1 : List Int) (r2 : Bool) (w : World) (hr0 : Kd.C (Kd.int .u8) w A0 l0.length l0) (hc0 : l0.length ≤ c0) (h : mask_Bits.f k l0 a1 = some (r1, r2)) :
  Calls Try.prog 44 #[.slice A0 l0.length c0, .int .i64 a1] w fun e w' => ∃ v0_ : Value, e = .returned (.tuple #[v0_, .bool r2]) ∧ Kd.R (Kd.int .i64) 3 w' w.heap.size (fun _ => True) v0_ r1 ∧ Below w.heap.size w w' := by
 have HR0 := Aside0.mk hr0; have HC0 := Aside0.mk hc0; clear hr0 hc0; have HB := Aside0.mk (Below.refl w.heap.size w); have H : (if a1 < 0 then (mask_Bits.j0 k l0 a1 true) else ((mask_Count.f k l0).bind fun t220 => (mask_Bits.j0 k l0 a1 (decide (a1 > t220))))) = some (r1, r2) := h; clear h; have HC3 := Aside0.mk H; clear H; go_enter Try.func44, Try.ntmps44
 go_upto_region 1 with (fail)
 go_cut [15] (fun v15 wc => ∃ (kq : Nat) (x15_2 : Bool), v15 = .bool x15_2 ∧ Aside0 (mask_Bits.j0 kq l0 a1 x15_2 = some (r1, r2)) ∧ Aside0 (kq ≤ k) ∧ Aside0 (Below w.heap.size w wc))
 case first =>
  have H := HC3.out; clear HC3; by_cases c4 : a1 < 0
  ·
   rw [if_pos c4] at H; have c4b0 : decide (a1 < 0) = true := decide_eq_true c4; clear c4; (first | rw [c4b0] | (simp only [i64_w, i32_w]; rw [c4b0]) | skip)
   have H' := Aside0.mk H; clear H; go_wp2
   go_meet
   case rel => exact ⟨_, (true), rf_, H', ⟨om_⟩, ⟨(hb0_ HB.out)⟩⟩
  ·
   rw [if_neg c4] at H; have c4b0 : decide (a1 < 0) = false := decide_eq_false c4; clear c4; (first | rw [c4b0] | (simp only [i64_w, i32_w]; rw [c4b0]) | skip)
   replace H := Option.bind_eq_some_iff.mp H; obtain ⟨t220, A50, H⟩ := H; (try dsimp only at H); have A5 := Aside0.mk A50; clear A50; have H' := Aside0.mk H; clear H; go_wp2_with (first | (go_at_call 45; (with_reducible refine (mask_Count.calls k _ _ l0 t220 _ ?side1 ?side2 A5.out).mono ?_); (case side1 => exact kD_ (Kd.C_below HR0.out HB.out)); (case side2 => exact HC0.out); rintro e w' ⟨rfl, ⟨nd, rfl⟩⟩))
   go_meet
   case rel => exact ⟨_, (decide (a1 > t220)), rf_, H', ⟨om_⟩, ⟨(hb0_ HB.out)⟩⟩
 case rest =>
  clear HC3; try clear p2
  try clear c4
  try clear c4b0
  obtain ⟨kq, x15_2, rfl, HA, HJ2, HB⟩ := hcut; cases kq with
  | zero => exact absurd HA.out (by simp [mask_Bits.j0])
  | succ kj2 =>
   have H := HA.out; clear HA; simp only [mask_Bits.j0] at H; by_cases c6 : x15_2 = true
   ·
    subst c6; have H1 : (some (([] : List Int), false)) = some (r1, r2) := by rw [if_pos rfl] at H; exact H
    clear H; have H := H1; clear H1; simp only [Option.some.injEq, Prod.mk.injEq] at H; obtain ⟨rfl, rfl⟩ := H; go_wp2
    go_ret2
    exact ⟨_, by first | rfl | (simp [errW_none, errW_some] <;> rfl) | (simp [*, errW_none, errW_some] <;> rfl), by first | exact Kd.R_nil _ _ _ _ _ | exact Kd.N_nil _ _ _ _ _ | exact Kd.V_nil _ _ _ _ _ | exact Kd.Q_nil _ _ _ _ _ | exact Kd.S_nil _ _ _ _ _, (hb0_ HB.out)⟩
   ·
    replace c6 := Bool.eq_false_iff.mpr c6; subst c6; have H1 : (mask_Bits.l0 kj2 l0 a1 ([] : List Int) 0) = some (r1, r2) := by rw [if_neg (show ¬ (false = true) by decide)] at H; exact H
    clear H; have H := H1; clear H1; have H' := Aside0.mk H; clear H; go_wp2
    go_loopg [6, 7] kj2 (fun kq v6 v7 w' => ∃ (x6_2 : List Int) (x7_2 : Int), v7 = .int .i64 x7_2 ∧ Aside0 (mask_Bits.l0 kq l0 a1 x6_2 x7_2 = some (r1, r2)) ∧ Aside0 (kq ≤ kj2) ∧ Aside0 (Kd.R (Kd.int .i64) 3 w' w.heap.size (fun _ => True) v6 x6_2) ∧ Aside0 (Below w.heap.size w w'))
    case atStart => exact ⟨(([] : List Int)), (0), rf_, H', ⟨Nat.le_refl _⟩, ⟨by first | exact Kd.R_nil _ _ _ _ _ | exact Kd.N_nil _ _ _ _ _ | exact Kd.V_nil _ _ _ _ _ | exact Kd.Q_nil _ _ _ _ _ | exact Kd.S_nil _ _ _ _ _⟩, ⟨(hb0_ HB.out)⟩⟩
    case round =>
     clear H'; try clear p2
     try clear c4
     try clear c4b0
     try clear c6
     try clear p2
     obtain ⟨x6_2, x7_2, rfl, HA, HK2, HO_6, HB⟩ := hrel; cases gk with
     | zero => exact absurd HA.out (by simp [mask_Bits.l0])
     | succ k2 =>
      have H := HA.out; clear HA; simp only [mask_Bits.l0] at H; by_cases c7 : (x6_2.length : Int) < a1
      ·
       rw [if_pos c7] at H; have c7b0 : decide ((x6_2.length : Int) < a1) = true := decide_eq_true c7; clear c7; replace H := Option.bind_eq_some_iff.mp H; obtain ⟨t221, A80, H⟩ := H; (try dsimp only at H); have A8 := Aside0.mk A80; clear A80; by_cases c9 : t221 = true
       ·
        subst c9; have H1 : (if x6_2.length < 17592186044416 then (mask_Bits.l0 k2 l0 a1 (x6_2 ++ [x7_2]) (wrap64 (x7_2 + 1))) else (none)) = some (r1, r2) := by rw [if_pos rfl] at H; exact H
        clear H; have H := H1; clear H1; by_cases c10 : x6_2.length < 17592186044416
        rotate_left
        ·
         rw [if_neg c10] at H; exact absurd H (by simp)
        rw [if_pos c10] at H; have LMc10 := Aside0.mk c10; clear c10; obtain ⟨y222, hy222⟩ : ∃ y_ : List Int, y_ = (x6_2 ++ [x7_2]) := ⟨_, rfl⟩; replace H : (mask_Bits.l0 k2 l0 a1 y222 (wrap64 (x7_2 + 1))) = some (r1, r2) := by first | (rw [hy222]; with_reducible exact H) | (have H2_ := (Option.bind_some _ _).symm.trans H; rw [hy222]; with_reducible exact H2_) | (have H2_ := (Option.bind_some _ _).symm.trans H; with_reducible exact H2_) | with_reducible exact H | (rw [hy222]; exact H) | exact H
        have Ny222 := Aside0.mk hy222; clear hy222; have H' := Aside0.mk H; clear H; obtain ⟨Ao11, co11, eo11⟩ := Kd.R_slice HO_6.out; subst eo11; go_wp2_with (first | ((with_reducible refine gate_callee (f := 85) rfl ?_); refine goesL_ (some 24) rfl rfl Try.func85 (by kernel_rfl) rfl #[.slice A0 l0.length c0, .int .i64 x7_2] rfl lm_ ?_; (with_reducible refine (mask_get.calls _ _ l0 x7_2 true _ ?side1 ?side2 A8.out).mono ?_); (case side1 => exact kD_ (Kd.C_below HR0.out HB.out)); (case side2 => exact HC0.out); rintro e w' ⟨rfl, ⟨nd, rfl⟩⟩; refine ⟨_, rfl, ?_⟩) | ((with_reducible refine gate_builtin (b := .append) (xs := #[.tmp 25, .tmp 27]) rfl ?_); at_builtin; refine Kd.R_append (Kd.int .i64) (w0 := w) w.heap.size rfl (.tmp 25) (.tmp 27) 23 3 (.int .i64 0) 8 rfl Try.underlying23 info3 rfl (by decide) (by omega) (.slice Ao11 x6_2.length co11) x6_2 x7_2 [.int .i64 x7_2] (fun _ => True) (fun _ => False) rfl rfl ?aP (fun _ hk => hk.elim) ?aF ?aO ?aB ?aS ?aL ?_; (case aP => exact rfl); (case aB => exact (hb0_ HB.out)); (case aF => exact (fun _ _ => trivial)); (case aO => exact (kR_ HO_6.out)); (case aS => exact (below_size (hb0_ HB.out))); (case aL => have := LMc10.out; omega); intro v223 w12 ho hb hg hat; rw [← Ny222.out] at ho; have n0_ := Aside0.mk (hb); have n1_ := Aside0.mk (ho); clear HB HO_6; revert n0_ n1_; intro HB HO224; clear ho hb hg hat))
        go_roundg k2
        case measure => have := HJ2.out; have := HK2.out; omega
        case rel => exact ⟨(y222), (wrap64 (x7_2 + 1)), rf_, H', ⟨by have := HJ2.out; have := HK2.out; omega⟩, ⟨by (with_reducible repeat (first | apply Kd.R_alloc | apply Kd.R_drewN | apply Kd.R_drew)); exact HO224.out⟩, ⟨(hb0_ HB.out)⟩⟩
       ·
        replace c9 := Bool.eq_false_iff.mpr c9; subst c9; have H1 : (mask_Bits.l0 k2 l0 a1 x6_2 (wrap64 (x7_2 + 1))) = some (r1, r2) := by rw [if_neg (show ¬ (false = true) by decide)] at H; exact H
        clear H; have H := H1; clear H1; have H' := Aside0.mk H; clear H; obtain ⟨Ao13, co13, eo13⟩ := Kd.R_slice HO_6.out; subst eo13; go_wp2_with (first | ((with_reducible refine gate_callee (f := 85) rfl ?_); refine goesL_ (some 24) rfl rfl Try.func85 (by kernel_rfl) rfl #[.slice A0 l0.length c0, .int .i64 x7_2] rfl lm_ ?_; (with_reducible refine (mask_get.calls _ _ l0 x7_2 false _ ?side1 ?side2 A8.out).mono ?_); (case side1 => exact kD_ (Kd.C_below HR0.out HB.out)); (case side2 => exact HC0.out); rintro e w' ⟨rfl, ⟨nd, rfl⟩⟩; refine ⟨_, rfl, ?_⟩))
        go_roundg k2
        case measure => have := HJ2.out; have := HK2.out; omega
        case rel => exact ⟨(x6_2), (wrap64 (x7_2 + 1)), rf_, H', ⟨by have := HJ2.out; have := HK2.out; omega⟩, ⟨by (with_reducible repeat (first | apply Kd.R_alloc | apply Kd.R_drewN | apply Kd.R_drew)); exact HO_6.out⟩, ⟨(hb0_ HB.out)⟩⟩
      ·
       rw [if_neg c7] at H; have c7b0 : decide ((x6_2.length : Int) < a1) = false := decide_eq_false c7; clear c7; simp only [Option.some.injEq, Prod.mk.injEq] at H; obtain ⟨rfl, rfl⟩ := H; obtain ⟨Ao14, co14, eo14⟩ := Kd.R_slice HO_6.out; subst eo14; go_wp2
       go_ret2
       exact ⟨_, by first | rfl | (simp [errW_none, errW_some] <;> rfl) | (simp [*, errW_none, errW_some] <;> rfl), by (with_reducible repeat (first | apply Kd.R_alloc | apply Kd.R_drewN | apply Kd.R_drew)); exact HO_6.out, (hb0_ HB.out)⟩

/-! ### CloneB: function 81 (by hand) -/
def CloneB.f (l0 : List Int) : Option (List Int) := if l0.length < 140737488355328 then some l0 else none
theorem CloneB.nilrun (A : Option Addr) (n c : Nat) (W : World) : (binOp .eql 27 (.slice A n c) (.slice none 0 0)).run Try.prog W = .ok (.bool A.isNone) W := Lib.run_eql_slice_nil W 27 5 A n c 0 0 Try.underlying27
set_option maxHeartbeats 8000000 in
set_option maxRecDepth 100000 in
theorem CloneB.calls (A0 : Option Addr) (c0 : Nat) (l0 : List Int) (r : List Int) (w : World) (hr0 : Kd.C (Kd.int .u8) w A0 l0.length l0) (hc0 : l0.length ≤ c0) (h : CloneB.f l0 = some r) :
    Calls Try.prog 81 #[.slice A0 l0.length c0] w fun e w' => ∃ v0_ : Value, e = .returned (v0_) ∧ Kd.R (Kd.int .u8) 5 w' w.heap.size (fun _ => True) v0_ r ∧ Below w.heap.size w w' := by
  have HR0 := Aside0.mk hr0; have HC0 := Aside0.mk hc0; clear hc0; have HB := Aside0.mk (Below.refl w.heap.size w); unfold CloneB.f at h; by_cases c2 : l0.length < 140737488355328
  · rw [if_pos c2] at h
    obtain rfl := Option.some.inj h; clear h; cases A0 with
    | none =>
      have h0 : l0 = [] := by
        rcases Nat.eq_zero_or_pos l0.length with h0 | h0
        · exact List.eq_nil_of_length_eq_zero h0
        · obtain ⟨ad, c, e, _⟩ := Kd.C_get hr0 (0 : Int) 0 (by omega) (by omega)
          cases e
      subst h0; clear hr0 c2; have hn := CloneB.nilrun none 0 c0; simp only [List.length_nil]; simp only [Option.isNone_none] at hn; go_enter Try.func81, Try.ntmps81
      go_wp2
      go_ret
      exact ⟨_, rfl, Kd.R_nil _ _ _ _ _, HB.out⟩
    | some ad =>
      clear hr0; have hn := CloneB.nilrun (some ad) l0.length c0; simp only [Option.isNone_some] at hn; have LMc2 := Aside0.mk c2; clear c2; obtain ⟨y109, hy109⟩ : ∃ y_ : List Int, y_ = (([] : List Int)) := ⟨_, rfl⟩; have Ny109 := Aside0.mk hy109; clear hy109; obtain ⟨y112, hy112⟩ : ∃ y_ : List Int, y_ = (y109 ++ l0) := ⟨_, rfl⟩; have Ny112 := Aside0.mk hy112; clear hy112; go_enter Try.func81, Try.ntmps81
      go_wp2_with (first | ((with_reducible refine gate_dst (N := 5) rfl ?_); refine Kd.R_lit (Kd.int .u8) _ 5 ?hg (N := 5) ?hd (xs := ([] : List Int)) (inner := []) (ok := fun _ => True) (okp := fun _ => True) ?hr ?hp (fun _ hk => hk) trivial (Below.refl _ _) (Nat.le_refl _) (by simp) ?_; (case hd => rfl); (case hg => rfl); (case hr => first | (go_simp; done) | (go_simp; rfl)); (case hp => exact (Reps.none _ _)); intro v110 w3 ho4 hb hg_ hnew_; clear hg_ hnew_; (first | rw [← Ny109.out] at ho4 | (simp only [Int.reduceToNat] at ho4; rw [← Ny109.out] at ho4)); have n0_ := Aside0.mk (Kd.R_lower ho4 (below_size (hb0_ HB.out))); have n1_ := Aside0.mk (below_step (hb0_ HB.out) hb); clear HB; revert n0_ n1_; intro HO111 HB; clear hb ho4) | ((with_reducible refine gate_builtin (b := .append) (xs := #[.tmp 5, .tmp 6]) rfl ?_); at_builtin; refine Kd.R_append_rows (Kd.int .u8) (w0 := w) w.heap.size rfl (.tmp 5) (.tmp 6) 27 5 (.int .u8 0) 1 rfl Try.underlying27 info5 rfl (by decide) (by omega) v110 y109 l0 _ _ _ (fun _ => True) (fun _ => False) rfl rfl ?aO ?aR (fun _ _ h => h) (fun _ h => h.elim) ?aF ?aB ?aS ?aL ?_; (case aR => repeat (first | exact (Kd.C_below HR0.out HB.out) | (with_reducible refine Kd.C_alloc ?_ _) | (with_reducible refine Kd.C_drewN ?_ _) | (with_reducible refine Kd.C_drew ?_))); (case aB => exact (hb0_ HB.out)); (case aF => exact (fun _ _ => trivial)); (case aO => exact (kR_ HO111.out)); (case aS => exact (below_size (hb0_ HB.out))); (case aL => have := LMc2.out; have h1_ := Ny109.out; (rw [h1_]); simp only [List.length_nil]; omega); intro v113 w5 ho hb hg hat; rw [← Ny112.out] at ho; have n0_ := Aside0.mk (hb); have n1_ := Aside0.mk (ho); clear HB HO111; revert n0_ n1_; intro HB HO114; clear ho hb hg hat))
      have hl0 : y112 = l0 := by rw [Ny112.out, Ny109.out]; rfl
      rw [hl0] at HO114; go_ret
      exact ⟨_, rfl, by (with_reducible repeat (first | apply Kd.R_alloc | apply Kd.R_drewN | apply Kd.R_drew)); exact HO114.out, (hb0_ HB.out)⟩
  · rw [if_neg c2] at h
    exact absurd h (by simp)

open List (setIfInBounds_toArray set_cons_zero set_cons_succ)
/-! ### mask_set: function 88 -/
def mask_set.j0 : Nat → List Int → Int → Bool → Bool → Option (List Int)
 | 0, _, _, _, _ => none
 | k + 1, x0, x1, x2, x14 => if x14 = true then (some x0) else (if 0 ≤ (wrap64 (Int.tdiv x1 8)) then (if (wrap64 (Int.tdiv x1 8)) < (x0.length : Int) then (if 0 ≤ (Int.tmod x1 8) then ((some (x0.set ((wrap64 (Int.tdiv x1 8)) : Int).toNat (Go.bits .andNot .u8 (rd x0 (wrap64 (Int.tdiv x1 8))) (shl .u8 1 (Int.tmod x1 8))) : List Int)).bind fun y226 => (if x2 = true then (some (y226.set ((wrap64 (Int.tdiv x1 8)) : Int).toNat (Go.bits .or .u8 (rd y226 (wrap64 (Int.tdiv x1 8))) (shl .u8 1 (Int.tmod x1 8))))) else (some y226))) else (none)) else (none)) else (none))
def mask_set.f (k : Nat) (l0 : List Int) (a1 : Int) (a2 : Bool) : Option (List Int) := if a1 < 0 then (mask_set.j0 k l0 a1 a2 true) else (mask_set.j0 k l0 a1 a2 (decide ((wrap64 (Int.tdiv a1 8)) ≥ (l0.length : Int))))
theorem mask_set.mono_l : ∀ k, (∀ y0 y1 y2 y3, LeO (mask_set.j0 k y0 y1 y2 y3) (mask_set.j0 (k + 1) y0 y1 y2 y3))
 | 0 => fun _ _ _ _ r h => by simp [mask_set.j0] at h
 | k + 1 => by
  have ih0 := mask_set.mono_l k
  ·
   intro y0 y1 y2 y3; unfold mask_set.j0
   repeat' first
   | (with_reducible exact ih0 _ _ _ _)
   | (with_reducible exact LeO.refl _)
   | (with_reducible exact LeO.none _)
   | (with_reducible refine LeO.ite ?_ ?_)
   | (with_reducible refine LeO.bind ?_ (fun _ => ?_))
   | exact ih0 _ _ _ _
   | exact LeO.none _
   | refine LeO.ite ?_ ?_
   | refine LeO.bind ?_ (fun _ => ?_)
theorem mask_set.mono : ∀ a0 a1 a2 k, LeO (mask_set.f k a0 a1 a2) (mask_set.f (k + 1) a0 a1 a2) := by
 intro a0 a1 a2 k; have ih0 := mask_set.mono_l k; unfold mask_set.f
 repeat' first
   | (with_reducible exact ih0 _ _ _ _)
   | (with_reducible exact LeO.refl _)
   | (with_reducible exact LeO.none _)
   | (with_reducible refine LeO.ite ?_ ?_)
   | (with_reducible refine LeO.bind ?_ (fun _ => ?_))
   | exact ih0 _ _ _ _
   | exact LeO.none _
   | refine LeO.ite ?_ ?_
   | refine LeO.bind ?_ (fun _ => ?_)
def mask_set.T1 : Bool × List (List Nat × List Nat) := (true, [([], []), ([], []), ([1], [1]), ([0, 2], [0, 2]), ([3], [3]), ([], []), ([5], [5]), ([6], [6]), ([4, 7], [4, 7]), ([0, 2, 0, 1, 2, 3, 4, 5, 6, 7, 8], [0, 2]), ([9, 8, 0, 1, 2, 3, 4, 5, 6, 7, 8], [8, 9])])
def mask_set.B1 : List Nat := [0, 0, 2, 7, 15, 0, 32, 96, 255, 511, 1023]
theorem mask_set.tab1 : rtab .any (opsOf Try.f88 1) = mask_set.T1 := by kernel_rfl
theorem mask_set.bits1 : waitsOk mask_set.T1.2 mask_set.B1 = true := by kernel_rfl
def mask_set.T3 : Bool × List (List Nat × List Nat) := (true, [([], []), ([], []), ([1], [1]), ([0, 2], [0, 2]), ([3], [3]), ([], []), ([5], [5]), ([6], [6]), ([4, 7], [4, 7]), ([0, 2, 0, 1, 2, 3, 4, 5, 6, 7, 8], [0, 2]), ([9, 8, 0, 1, 2, 3, 4, 5, 6, 7, 8], [8, 9])])
def mask_set.B3 : List Nat := [0, 0, 2, 7, 15, 0, 32, 96, 255, 511, 1023]
theorem mask_set.tab3 : rtab .any (opsOf Try.f88 3) = mask_set.T3 := by kernel_rfl
theorem mask_set.bits3 : waitsOk mask_set.T3.2 mask_set.B3 = true := by kernel_rfl
set_option maxHeartbeats 8000000 in
set_option maxRecDepth 100000 in
theorem mask_set.calls (k : Nat) (P0_ : Nat → Prop) (u9000_ : Value) (l0 : List Int) (a1 : Int) (a2 : Bool) (r : List Int) (w0 w : World) (hB : Below w0.heap.size w0 w) (ho0 : Kd.R (Kd.int .u8) 5 w w0.heap.size P0_ u9000_ l0) (h : mask_set.f k l0 a1 a2 = some r) :
  Calls Try.prog 88 #[u9000_, .int .i64 a1, .bool a2] w fun e w' => e = .returned (.tuple #[]) ∧ Kd.R (Kd.int .u8) 5 w' w0.heap.size (fun k_ => (P0_ k_ ∨ w.heap.size ≤ k_)) u9000_ r ∧ Below w0.heap.size w0 w' ∧ Kept w w' (fun k_ => P0_ k_) := by
 have HO0 := Aside0.mk (show Kd.R (Kd.int .u8) 5 w w0.heap.size (fun k_ => (P0_ k_ ∨ w.heap.size ≤ k_)) u9000_ l0 from Kd.R_mono ho0 (fun k_ hk => (.inl hk))); have HK := Aside0.mk (Kept.refl w (fun k_ => P0_ k_)); have HW0 := Aside0.mk hB.size; have HB := Aside0.mk hB; clear hB; have H : (if a1 < 0 then (mask_set.j0 k l0 a1 a2 true) else (mask_set.j0 k l0 a1 a2 (decide ((wrap64 (Int.tdiv a1 8)) ≥ (l0.length : Int))))) = some r := h; clear h; have HC4 := Aside0.mk H; clear H; go_enter Try.func88, Try.ntmps88
 go_upto_region 0 with (fail)
 go_cut [14] (fun v14 wc => ∃ (kq : Nat) (x14_3 : Bool), v14 = .bool x14_3 ∧ Aside0 (mask_set.j0 kq l0 a1 a2 x14_3 = some r) ∧ Aside0 (kq ≤ k) ∧ Aside0 (Kd.R (Kd.int .u8) 5 wc w0.heap.size (fun k_ => (P0_ k_ ∨ w.heap.size ≤ k_)) u9000_ l0) ∧ Aside0 (Kept w wc (fun k_ => P0_ k_)) ∧ Aside0 (Below w0.heap.size w0 wc))
 case first =>
  have H := HC4.out; clear HC4; by_cases c5 : a1 < 0
  ·
   rw [if_pos c5] at H; have c5b0 : decide (a1 < 0) = true := decide_eq_true c5; clear c5; (first | rw [c5b0] | (simp only [i64_w, i32_w]; rw [c5b0]) | skip)
   have H' := Aside0.mk H; clear H; go_wp2
   go_meet
   case rel => exact ⟨_, (true), rf_, H', ⟨om_⟩, ⟨by (with_reducible repeat (first | apply Kd.R_alloc | apply Kd.R_drewN | apply Kd.R_drew)); exact HO0.out⟩, ⟨by repeat (first | (with_reducible first | exact HK.out | apply Kept.alloc | apply Kept.drewN | apply Kept.drew) | exact HK.out)⟩, ⟨(hb0_ HB.out)⟩⟩
  ·
   rw [if_neg c5] at H; have c5b0 : decide (a1 < 0) = false := decide_eq_false c5; clear c5; (first | rw [c5b0] | (simp only [i64_w, i32_w]; rw [c5b0]) | skip)
   have H' := Aside0.mk H; clear H; obtain ⟨Ao6, co6, eo6⟩ := Kd.R_slice HO0.out; subst eo6; go_wp2
   go_meet
   case rel => exact ⟨_, (decide ((wrap64 (Int.tdiv a1 8)) ≥ (l0.length : Int))), rf_, H', ⟨om_⟩, ⟨by (with_reducible repeat (first | apply Kd.R_alloc | apply Kd.R_drewN | apply Kd.R_drew)); exact HO0.out⟩, ⟨by repeat (first | (with_reducible first | exact HK.out | apply Kept.alloc | apply Kept.drewN | apply Kept.drew) | exact HK.out)⟩, ⟨(hb0_ HB.out)⟩⟩
 case rest =>
  clear HC4; try clear p2
  try clear c5
  try clear c5b0
  try clear p6
  obtain ⟨kq, x14_3, rfl, HA, HJ3, HO_0, HK, HB⟩ := hcut; cases kq with
  | zero => exact absurd HA.out (by simp [mask_set.j0])
  | succ kj3 =>
   have H := HA.out; clear HA; simp only [mask_set.j0] at H; by_cases c7 : x14_3 = true
   ·
    subst c7; have H1 : (some l0) = some r := by rw [if_pos rfl] at H; exact H
    clear H; have H := H1; clear H1; obtain rfl := Option.some.inj H; go_wp2
    first | go_end0 | ((try simp only [Exit.inBlock, Exit.then]); refine bodyPost_ret (results_none rfl _ _ _) rfl ?_)
    exact ⟨by first | rfl | (simp [errW_none, errW_some] <;> rfl) | (simp [*, errW_none, errW_some] <;> rfl), by (with_reducible repeat (first | apply Kd.R_alloc | apply Kd.R_drewN | apply Kd.R_drew)); exact HO_0.out, (hb0_ HB.out), by repeat (first | (with_reducible first | exact HK.out | apply Kept.alloc | apply Kept.drewN | apply Kept.drew) | exact HK.out)⟩
   ·
    replace c7 := Bool.eq_false_iff.mpr c7; subst c7; have H1 : (if 0 ≤ (wrap64 (Int.tdiv a1 8)) then (if (wrap64 (Int.tdiv a1 8)) < (l0.length : Int) then (if 0 ≤ (Int.tmod a1 8) then ((some (l0.set ((wrap64 (Int.tdiv a1 8)) : Int).toNat (Go.bits .andNot .u8 (rd l0 (wrap64 (Int.tdiv a1 8))) (shl .u8 1 (Int.tmod a1 8))) : List Int)).bind fun y226 => (if a2 = true then (some (y226.set ((wrap64 (Int.tdiv a1 8)) : Int).toNat (Go.bits .or .u8 (rd y226 (wrap64 (Int.tdiv a1 8))) (shl .u8 1 (Int.tmod a1 8))))) else (some y226))) else (none)) else (none)) else (none)) = some r := by rw [if_neg (show ¬ (false = true) by decide)] at H; exact H
    clear H; have H := H1; clear H1; obtain ⟨ji8, hji8⟩ : ∃ j_ : Int, (wrap64 (Int.tdiv a1 8)) = j_ := ⟨_, rfl⟩; replace H : (if 0 ≤ (ji8) then (if (ji8) < (l0.length : Int) then (if 0 ≤ (Int.tmod a1 8) then ((some (l0.set ((ji8) : Int).toNat (Go.bits .andNot .u8 (rd l0 (ji8)) (shl .u8 1 (Int.tmod a1 8))) : List Int)).bind fun y226 => (if a2 = true then (some (y226.set ((ji8) : Int).toNat (Go.bits .or .u8 (rd y226 (ji8)) (shl .u8 1 (Int.tmod a1 8))))) else (some y226))) else (none)) else (none)) else (none)) = some r := by first | (rw [hji8] at H; exact H) | (simp only [hji8] at H ⊢; exact H)
    have hji8w : (IntKind.i64.wrap (Int.tdiv a1 8)) = ji8 := (i64_w _).trans hji8; by_cases c9 : 0 ≤ (ji8)
    ·
     rw [if_pos c9] at H; have c9b0 : decide (0 ≤ (ji8)) = true := decide_eq_true c9; clear c9; by_cases c10 : (ji8) < (l0.length : Int)
     rotate_left
     ·
      rw [if_neg c10] at H; exact absurd H (by simp)
     rw [if_pos c10] at H; have c10b0 : decide ((ji8) < (l0.length : Int)) = true := decide_eq_true c10; clear c10; obtain ⟨ji11, hji11⟩ : ∃ j_ : Int, (Int.tmod a1 8) = j_ := ⟨_, rfl⟩; replace H : (if 0 ≤ (ji11) then ((some (l0.set ((ji8) : Int).toNat (Go.bits .andNot .u8 (rd l0 (ji8)) (shl .u8 1 (ji11))) : List Int)).bind fun y226 => (if a2 = true then (some (y226.set ((ji8) : Int).toNat (Go.bits .or .u8 (rd y226 (ji8)) (shl .u8 1 (ji11))))) else (some y226))) else (none)) = some r := by first | (rw [hji11] at H; exact H) | (simp only [hji11] at H ⊢; exact H)
     by_cases c12 : 0 ≤ (ji11)
     rotate_left
     ·
      rw [if_neg c12] at H; exact absurd H (by simp)
     rw [if_pos c12] at H; have c12b0 := eq_true c12; have c12b1 : decide (0 ≤ (ji11)) = true := decide_eq_true c12; clear c12; obtain ⟨ji13, hji13⟩ : ∃ j_ : Int, (shl .u8 1 (ji11)) = j_ := ⟨_, rfl⟩; replace H : ((some (l0.set ((ji8) : Int).toNat (Go.bits .andNot .u8 (rd l0 (ji8)) (ji13)) : List Int)).bind fun y226 => (if a2 = true then (some (y226.set ((ji8) : Int).toNat (Go.bits .or .u8 (rd y226 (ji8)) (ji13)))) else (some y226))) = some r := by first | (rw [hji13] at H; exact H) | (simp only [hji13] at H ⊢; exact H)
     have hji13_ : (IntKind.u8.wrap (1 * 2 ^ min (ji11).toNat 8)) = ji13 := hji13; have hji13z : (ji11) ≤ 8 → (IntKind.u8.wrap (1 * 2 ^ (ji11).toNat)) = ji13 := shl_small hji13; have hji13u : (IntKind.u8.wrap (2 ^ min (ji11).toNat 8)) = ji13 := by have h_ := hji13_; rw [Int.one_mul] at h_; exact h_
     have hji13v : (ji11) ≤ 8 → (IntKind.u8.wrap (2 ^ (ji11).toNat)) = ji13 := fun hle_ => by have h_ := hji13z hle_; rw [Int.one_mul] at h_; exact h_
     obtain ⟨y226, hy226⟩ : ∃ y_ : List Int, y_ = (l0.set ((ji8) : Int).toNat (Go.bits .andNot .u8 (rd l0 (ji8)) (ji13))) := ⟨_, rfl⟩; replace H : (if a2 = true then (some (y226.set ((ji8) : Int).toNat (Go.bits .or .u8 (rd y226 (ji8)) (ji13)))) else (some y226)) = some r := by first | (rw [hy226]; with_reducible exact H) | (have H2_ := (Option.bind_some _ _).symm.trans H; rw [hy226]; with_reducible exact H2_) | (have H2_ := (Option.bind_some _ _).symm.trans H; with_reducible exact H2_) | with_reducible exact H | (rw [hy226]; exact H) | exact H
     have Ny226 := Aside0.mk hy226; clear hy226; by_cases c15 : a2 = true
     ·
      subst c15; have H1 : (some (y226.set ((ji8) : Int).toNat (Go.bits .or .u8 (rd y226 (ji8)) (ji13)))) = some r := by rw [if_pos rfl] at H; exact H
      clear H; have H := H1; clear H1; have c16b0 := eq_true (od_ : 0 ≤ (ji11)); obtain ⟨y228, hy228⟩ : ∃ y_ : List Int, y_ = (y226.set ((ji8) : Int).toNat (Go.bits .or .u8 (rd y226 (ji8)) (ji13))) := ⟨_, rfl⟩; replace H : (some y228) = some r := by first | (rw [hy228]; with_reducible exact H) | (have H2_ := (Option.bind_some _ _).symm.trans H; rw [hy228]; with_reducible exact H2_) | (have H2_ := (Option.bind_some _ _).symm.trans H; with_reducible exact H2_) | with_reducible exact H | (rw [hy228]; exact H) | exact H
      have Ny228 := Aside0.mk hy228; clear hy228; obtain rfl := Option.some.inj H; try go_wp2
      have n0_ := Aside0.mk (Kd.R_drew HO_0.out); have n1_ := Aside0.mk (Kept.drew HK.out); have n2_ := Aside0.mk (below_drew1 HB.out); clear HO_0; clear HK; clear HB; revert n0_ n1_ n2_; intro HO_0 HK HB; obtain ⟨Ao19, co19, eo19⟩ := Kd.R_slice HO_0.out; (first | subst eo19 | (injection eo19 with f1_ f2_ f3_; have f4_ := f1_.symm; have f5_ := f3_.symm; clear f1_ f2_ f3_; subst f4_; subst f5_))
      have p225 : 0 ≤ ((ji8) : Int) := od_; have q225 : (ji8) < (l0.length : Int) := od_; obtain ⟨ad225, e225, hx225_0⟩ := Kd.at_int (Kd.R_reads' HO_0.out).2.2 (ji8) p225 q225; cases e225; replace p225 := eq_true p225; replace q225 := eq_true q225; have p14 : 0 ≤ ((ji8) : Int) := od_; have q14 : ((ji8) : Int) < ((l0.length : Int) : Int) := od_; obtain ⟨go14, co14, eo14, gb14, gl14, cl14, HG14⟩ := Kd.R_form HO_0.out (by omega); (first | cases eo14 | (injection eo14 with ea_ en_ ec_; (first | subst ea_ | (injection ea_ with ea_; subst ea_)); subst ec_; clear en_))
      have GB14 := Aside0.mk gb14; have GG14 := Aside0.mk HG14; clear gb14 gl14 HG14; have HMgo14 := Aside0.mk (show (P0_ go14 ∨ w.heap.size ≤ go14) from (HO_0.out.1 _ rfl)); (first | simp only [add_plain] at hx225_0 | skip)
      obtain ⟨hx14_0, hf14_0⟩ := Kd.R_celln 0 HO_0.out ((ji8) : Int) p14 q14; replace p14 := eq_true p14; replace q14 := eq_true q14; have HP20 := Kd.R_putn HO_0.out ((ji8) : Int) (Go.bits .andNot .u8 (rd l0 (ji8)) (ji13)); rw [← Ny226.out] at HP20; have HQ20 := Aside0.mk HP20; clear HP20; refine start_ (n := 11) (S := fun w' => w'.cell? ⟨go14, ((ji8)).toNat, none⟩ = some (.int .u8 (rd l0 (ji8)))) (ds := [10]) (mk_ 0 11) (by kernel_rfl) rfl rfl (hx225_0) (fun hHeld => ?_); refine with_tabW mask_set.tab1 mask_set.bits1 (fun HT_ HW_ => ?_); generalize wc.drew = w18 at HO_0 HK HB GG14 HQ20 hf14_0 hx14_0 hx225_0 hHeld ⊢; refine pu_ 0 (some 15) (mk_ 1 11) HT_ ?_; refine pu_ 1 (some 16) (mk_ 2 11) HT_ ?_; refine pu_ 2 (some 17) (mk_ 3 11) HT_ ?_; refine pu_ 3 (some 18) (mk_ 4 11) HT_ ?_; refine pu_ 5 (some 20) (bm_ 11 47) HT_ ?_; refine pu_ 6 (some 21) (bm_ 11 111) HT_ ?_; refine pu_ 7 (some 22) (bm_ 11 239) HT_ ?_; refine take_ (i := 4) (N := some 19) (v := ?_) (a' := ?_) (mk_ 8 11) rfl rfl (take_ofW HT_.out HW_.out (by kernel_rfl)) (fun _ _ _ h => h) (Or.inl ⟨by rfl, ?_⟩) hHeld ?_ ?_; rotate_left
      ·
       intro w' s0; go_simp
       with_reducible rfl
      rotate_left
      ·
       simp only [Act.put, setIfInBounds_toArray, set_cons_zero, set_cons_succ, i64_w, i32_w]; rfl
      refine pu_ 8 (some 23) (mk_ 9 11) HT_ ?_; refine pu_ 9 (some 24) (mk_ 10 11) HT_ ?_; refine last_ (i := 10) (N := none) (mk_ 11 11) rfl rfl (one_of HT_.out (by kernel_rfl)) (by decide) (fun K hK => ?_); refine skip_ (w1 := ?_) (by rfl) rfl ?_ ?_; rotate_left
      ·
       go_simp
       rfl
      refine hK.out _ _ ?_; clear hK K; refine done_ (done_of HT_.out (by kernel_rfl)) ?_; try go_wp2
      have n0_ : Aside0 (Kd.R (Kd.int .u8) 5 (w18.setCell ⟨go14, ((ji8) : Int).toNat, none⟩ (.int .u8 (Go.bits .andNot .u8 (rd l0 (ji8)) (ji13)))) w0.heap.size (fun k_ => (P0_ k_ ∨ w.heap.size ≤ k_)) (.slice (some ⟨go14, 0, none⟩) l0.length co19) y226) := ⟨by (with_reducible repeat (first | apply Kd.R_alloc | apply Kd.R_drewN | apply Kd.R_drew)); exact HQ20.out⟩; have n1_ : Aside0 (Kept w (w18.setCell ⟨go14, ((ji8) : Int).toNat, none⟩ (.int .u8 (Go.bits .andNot .u8 (rd l0 (ji8)) (ji13)))) (fun k_ => P0_ k_)) := ⟨by repeat (first | (with_reducible first | exact HK.out | apply Kept.alloc | apply Kept.drewN | apply Kept.drew | refine Kept.setCell ?_ HMgo14.out _) | exact HK.out)⟩; have n2_ : Aside0 (Below w0.heap.size w0 (w18.setCell ⟨go14, ((ji8) : Int).toNat, none⟩ (.int .u8 (Go.bits .andNot .u8 (rd l0 (ji8)) (ji13))))) := ⟨(hb1_ HB.out GB14.out)⟩; (try clear HO_0)
      (try clear HK)
      (try clear HB)
      generalize (w18.setCell ⟨go14, ((ji8) : Int).toNat, none⟩ (.int .u8 (Go.bits .andNot .u8 (rd l0 (ji8)) (ji13)))) = w21 at n0_ n1_ n2_ ⊢; revert n0_ n1_ n2_; intro HO_0 HK HB; have n0_ := Aside0.mk (Kd.R_drew HO_0.out); have n1_ := Aside0.mk (Kept.drew HK.out); have n2_ := Aside0.mk (below_drew1 HB.out); clear HO_0; clear HK; clear HB; revert n0_ n1_ n2_; intro HO_0 HK HB; have p227 : 0 ≤ ((ji8) : Int) := od_; have q227 : (ji8) < (y226.length : Int) := (by have h_ : ((ji8) : Int) < ((l0.length : Int) : Int) := od_; first | (have e_ := (Kd.R_reads' HO_0.out).1; omega) | simpa only [Ny226.out, List.length_set] using h_); have ql227 : (((ji8) : Int) < ((l0.length : Int) : Int)) = True := eq_true od_; obtain ⟨ad227, e227, hx227_0⟩ := Kd.at_int (Kd.R_reads' HO_0.out).2.2 (ji8) p227 q227; obtain rfl : (⟨go14, 0, none⟩ : Addr) = ad227 := (by injection e227); (first | simp only [add_plain] at hx227_0 | simp only [add_at] at hx227_0 | simp only [Addr.add, Nat.zero_add] at hx227_0 | skip)
      replace p227 := eq_true p227; replace q227 := eq_true q227; have p17 : 0 ≤ ((ji8) : Int) := od_; have q17 : ((ji8) : Int) < ((l0.length : Int) : Int) := od_; obtain ⟨hx17_0, hf17_0⟩ := Kd.R_celln 0 HO_0.out ((ji8) : Int) p17 q17; replace p17 := eq_true p17; replace q17 := eq_true q17; have HP23 := Kd.R_putn HO_0.out ((ji8) : Int) (Go.bits .or .u8 (rd y226 (ji8)) (ji13)); rw [← Ny228.out] at HP23; have HQ23 := Aside0.mk HP23; clear HP23; refine start_ (n := 11) (S := fun w' => w'.cell? ⟨go14, ((ji8)).toNat, none⟩ = some (.int .u8 (rd y226 (ji8)))) (ds := [10]) (mk_ 0 11) (by kernel_rfl) rfl rfl (hx227_0) (fun hHeld => ?_); refine with_tabW mask_set.tab3 mask_set.bits3 (fun HT_ HW_ => ?_); generalize w21.drew = w22 at HO_0 HK HB HQ20 HQ23 hf17_0 hx17_0 hx227_0 hHeld ⊢; refine pu_ 0 (some 26) (mk_ 1 11) HT_ ?_; refine pu_ 1 (some 27) (mk_ 2 11) HT_ ?_; refine pu_ 2 (some 28) (mk_ 3 11) HT_ ?_; refine pu_ 3 (some 29) (mk_ 4 11) HT_ ?_; refine pu_ 5 (some 31) (bm_ 11 47) HT_ ?_; refine pu_ 6 (some 32) (bm_ 11 111) HT_ ?_; refine pu_ 7 (some 33) (bm_ 11 239) HT_ ?_; refine take_ (i := 4) (N := some 30) (v := ?_) (a' := ?_) (mk_ 8 11) rfl rfl (take_ofW HT_.out HW_.out (by kernel_rfl)) (fun _ _ _ h => h) (Or.inl ⟨by rfl, ?_⟩) hHeld ?_ ?_; rotate_left
      ·
       intro w' s0; go_simp
       with_reducible rfl
      rotate_left
      ·
       simp only [Act.put, setIfInBounds_toArray, set_cons_zero, set_cons_succ, i64_w, i32_w]; rfl
      refine pu_ 8 (some 34) (mk_ 9 11) HT_ ?_; refine pu_ 9 (some 35) (mk_ 10 11) HT_ ?_; refine last_ (i := 10) (N := none) (mk_ 11 11) rfl rfl (one_of HT_.out (by kernel_rfl)) (by decide) (fun K hK => ?_); refine skip_ (w1 := ?_) (by rfl) rfl ?_ ?_; rotate_left
      ·
       go_simp
       rfl
      refine hK.out _ _ ?_; clear hK K; refine done_ (done_of HT_.out (by kernel_rfl)) ?_; try go_wp2
      first | go_end0 | ((try simp only [Exit.inBlock, Exit.then]); refine bodyPost_ret (results_none rfl _ _ _) rfl ?_)
      exact ⟨by first | rfl | (simp [errW_none, errW_some] <;> rfl) | (simp only [← hji8, ← hji11, ← hji13]; first | rfl | (simp [errW_none, errW_some] <;> rfl)) | (simp [*, errW_none, errW_some] <;> rfl), by (with_reducible repeat (first | apply Kd.R_alloc | apply Kd.R_drewN | apply Kd.R_drew)); exact HQ23.out, (hb1_ HB.out GB14.out), by repeat (first | (with_reducible first | exact HK.out | apply Kept.alloc | apply Kept.drewN | apply Kept.drew | refine Kept.setCell ?_ HMgo14.out _) | exact HK.out)⟩
     ·
      replace c15 := Bool.eq_false_iff.mpr c15; subst c15; have H1 : (some y226) = some r := by rw [if_neg (show ¬ (false = true) by decide)] at H; exact H
      clear H; have H := H1; clear H1; obtain rfl := Option.some.inj H; try go_wp2
      have n0_ := Aside0.mk (Kd.R_drew HO_0.out); have n1_ := Aside0.mk (Kept.drew HK.out); have n2_ := Aside0.mk (below_drew1 HB.out); clear HO_0; clear HK; clear HB; revert n0_ n1_ n2_; intro HO_0 HK HB; obtain ⟨Ao25, co25, eo25⟩ := Kd.R_slice HO_0.out; (first | subst eo25 | (injection eo25 with f1_ f2_ f3_; have f4_ := f1_.symm; have f5_ := f3_.symm; clear f1_ f2_ f3_; subst f4_; subst f5_))
      have p225 : 0 ≤ ((ji8) : Int) := od_; have q225 : (ji8) < (l0.length : Int) := od_; obtain ⟨ad225, e225, hx225_0⟩ := Kd.at_int (Kd.R_reads' HO_0.out).2.2 (ji8) p225 q225; cases e225; replace p225 := eq_true p225; replace q225 := eq_true q225; have p14 : 0 ≤ ((ji8) : Int) := od_; have q14 : ((ji8) : Int) < ((l0.length : Int) : Int) := od_; obtain ⟨go14, co14, eo14, gb14, gl14, cl14, HG14⟩ := Kd.R_form HO_0.out (by omega); (first | cases eo14 | (injection eo14 with ea_ en_ ec_; (first | subst ea_ | (injection ea_ with ea_; subst ea_)); subst ec_; clear en_))
      have GB14 := Aside0.mk gb14; have GG14 := Aside0.mk HG14; clear gb14 gl14 HG14; have HMgo14 := Aside0.mk (show (P0_ go14 ∨ w.heap.size ≤ go14) from (HO_0.out.1 _ rfl)); (first | simp only [add_plain] at hx225_0 | skip)
      obtain ⟨hx14_0, hf14_0⟩ := Kd.R_celln 0 HO_0.out ((ji8) : Int) p14 q14; replace p14 := eq_true p14; replace q14 := eq_true q14; have HP26 := Kd.R_putn HO_0.out ((ji8) : Int) (Go.bits .andNot .u8 (rd l0 (ji8)) (ji13)); rw [← Ny226.out] at HP26; have HQ26 := Aside0.mk HP26; clear HP26; refine start_ (n := 11) (S := fun w' => w'.cell? ⟨go14, ((ji8)).toNat, none⟩ = some (.int .u8 (rd l0 (ji8)))) (ds := [10]) (mk_ 0 11) (by kernel_rfl) rfl rfl (hx225_0) (fun hHeld => ?_); refine with_tabW mask_set.tab1 mask_set.bits1 (fun HT_ HW_ => ?_); generalize wc.drew = w24 at HO_0 HK HB GG14 HQ26 hf14_0 hx14_0 hx225_0 hHeld ⊢; refine pu_ 0 (some 15) (mk_ 1 11) HT_ ?_; refine pu_ 1 (some 16) (mk_ 2 11) HT_ ?_; refine pu_ 2 (some 17) (mk_ 3 11) HT_ ?_; refine pu_ 3 (some 18) (mk_ 4 11) HT_ ?_; refine pu_ 5 (some 20) (bm_ 11 47) HT_ ?_; refine pu_ 6 (some 21) (bm_ 11 111) HT_ ?_; refine pu_ 7 (some 22) (bm_ 11 239) HT_ ?_; refine take_ (i := 4) (N := some 19) (v := ?_) (a' := ?_) (mk_ 8 11) rfl rfl (take_ofW HT_.out HW_.out (by kernel_rfl)) (fun _ _ _ h => h) (Or.inl ⟨by rfl, ?_⟩) hHeld ?_ ?_; rotate_left
      ·
       intro w' s0; go_simp
       with_reducible rfl
      rotate_left
      ·
       simp only [Act.put, setIfInBounds_toArray, set_cons_zero, set_cons_succ, i64_w, i32_w]; rfl
      refine pu_ 8 (some 23) (mk_ 9 11) HT_ ?_; refine pu_ 9 (some 24) (mk_ 10 11) HT_ ?_; refine last_ (i := 10) (N := none) (mk_ 11 11) rfl rfl (one_of HT_.out (by kernel_rfl)) (by decide) (fun K hK => ?_); refine skip_ (w1 := ?_) (by rfl) rfl ?_ ?_; rotate_left
      ·
       go_simp
       rfl
      refine hK.out _ _ ?_; clear hK K; refine done_ (done_of HT_.out (by kernel_rfl)) ?_; try go_wp2
      first | go_end0 | ((try simp only [Exit.inBlock, Exit.then]); refine bodyPost_ret (results_none rfl _ _ _) rfl ?_)
      exact ⟨by first | rfl | (simp [errW_none, errW_some] <;> rfl) | (simp only [← hji8, ← hji11, ← hji13]; first | rfl | (simp [errW_none, errW_some] <;> rfl)) | (simp [*, errW_none, errW_some] <;> rfl), by (with_reducible repeat (first | apply Kd.R_alloc | apply Kd.R_drewN | apply Kd.R_drew)); exact HQ26.out, (hb1_ HB.out GB14.out), by repeat (first | (with_reducible first | exact HK.out | apply Kept.alloc | apply Kept.drewN | apply Kept.drew | refine Kept.setCell ?_ HMgo14.out _) | exact HK.out)⟩
    ·
     rw [if_neg c9] at H; exact absurd H (by simp)

/-! ### mask_Clear: function 49 -/
def mask_Clear.l0 : Nat → List Int → List Int → Int → Int → Option (List Int)
 | 0, _, _, _, _ => none
 | k + 1, x5, x10, x11, x12 => if x12 < x11 then (if 0 ≤ x12 then (if x12 < (x10.length : Int) then ((mask_set.f k x5 (rd x10 x12) false).bind fun t233 => (mask_Clear.l0 k t233 x10 x11 (wrap64 (x12 + 1)))) else (none)) else (none)) else (some x5)
def mask_Clear.f (k : Nat) (l0 : List Int) (l1 : List Int) : Option (List Int) := (CloneB.f l0).bind fun t229 => (mask_Clear.l0 k t229 l1 (l1.length : Int) 0)
theorem mask_Clear.mono_l : ∀ k, (∀ y0 y1 y2 y3, LeO (mask_Clear.l0 k y0 y1 y2 y3) (mask_Clear.l0 (k + 1) y0 y1 y2 y3))
 | 0 => fun _ _ _ _ r h => by simp [mask_Clear.l0] at h
 | k + 1 => by
  have ih0 := mask_Clear.mono_l k
  ·
   intro y0 y1 y2 y3; unfold mask_Clear.l0
   repeat' first
   | (with_reducible exact ih0 _ _ _ _)
   | (with_reducible exact mask_set.mono _ _ _ _)
   | (with_reducible exact LeO.refl _)
   | (with_reducible exact LeO.none _)
   | (with_reducible refine LeO.ite ?_ ?_)
   | (with_reducible refine LeO.bind ?_ (fun _ => ?_))
   | exact ih0 _ _ _ _
   | exact mask_set.mono _ _ _ _
   | exact LeO.none _
   | refine LeO.ite ?_ ?_
   | refine LeO.bind ?_ (fun _ => ?_)
theorem mask_Clear.mono : ∀ a0 a1 k, LeO (mask_Clear.f k a0 a1) (mask_Clear.f (k + 1) a0 a1) := by
 intro a0 a1 k; have ih0 := mask_Clear.mono_l k; unfold mask_Clear.f
 repeat' first
   | (with_reducible exact ih0 _ _ _ _)
   | (with_reducible exact mask_set.mono _ _ _ _)
   | (with_reducible exact LeO.refl _)
   | (with_reducible exact LeO.none _)
   | (with_reducible refine LeO.ite ?_ ?_)
   | (with_reducible refine LeO.bind ?_ (fun _ => ?_))
   | exact ih0 _ _ _ _
   | exact mask_set.mono _ _ _ _
   | exact LeO.none _
   | refine LeO.ite ?_ ?_
   | refine LeO.bind ?_ (fun _ => ?_)
set_option maxHeartbeats 8000000 in
set_option maxRecDepth 100000 in
theorem mask_Clear.calls (k : Nat) (A0 : Option Addr) (c0 : Nat) (l0 : List Int) (A1 : Option Addr) (c1 : Nat) (l1 : List Int) (r : List Int) (w : World) (hr0 : Kd.C (Kd.int .u8) w A0 l0.length l0) (hc0 : l0.length ≤ c0) (hr1 : Kd.C (Kd.int .i64) w A1 l1.length l1) (hc1 : l1.length ≤ c1) (h : mask_Clear.f k l0 l1 = some r) :
  Calls Try.prog 49 #[.slice A0 l0.length c0, .slice A1 l1.length c1] w fun e w' => ∃ v0_ : Value, e = .returned (v0_) ∧ Kd.R (Kd.int .u8) 5 w' w.heap.size (fun _ => True) v0_ r ∧ Below w.heap.size w w' := by
 have HR0 := Aside0.mk hr0; have HC0 := Aside0.mk hc0; clear hr0 hc0; have HR1 := Aside0.mk hr1; have HC1 := Aside0.mk hc1; clear hr1 hc1; have HB := Aside0.mk (Below.refl w.heap.size w); have H : ((CloneB.f l0).bind fun t229 => (mask_Clear.l0 k t229 l1 (l1.length : Int) 0)) = some r := h; clear h; replace H := Option.bind_eq_some_iff.mp H; obtain ⟨t229, A30, H⟩ := H; (try dsimp only at H); have A3 := Aside0.mk A30; clear A30; have H' := Aside0.mk H; clear H; go_enter Try.func49, Try.ntmps49
 go_wp2_with (first | ((with_reducible refine gate_callee (f := 81) rfl ?_); refine goesL_ (some 9) rfl rfl Try.func81 (by kernel_rfl) rfl #[.slice A0 l0.length c0] rfl lm_ ?_; (with_reducible refine (CloneB.calls _ _ l0 t229 _ ?side1 ?side2 A3.out).mono ?_); (case side1 => exact kD_ HR0.out); (case side2 => exact HC0.out); rintro e w4 ⟨v230, rfl, ho0, hb⟩; refine ⟨_, rfl, ?_⟩; have n0_ := Aside0.mk (Kd.R_lower ho0 (below_size (hb0_ HB.out))); have n1_ := Aside0.mk (below_step (hb0_ HB.out) hb); clear HB; revert n0_ n1_; intro HO231 HB; (try clear hb); (try clear hb2); (try clear hk); (try clear hi); (try clear ho0)))
 go_loopg [12] k (fun kq v12 w' => ∃ (x5_1 : List Int) (x12_1 : Int), v12 = .int .i64 x12_1 ∧ Aside0 (mask_Clear.l0 kq x5_1 l1 (l1.length : Int) x12_1 = some r) ∧ Aside0 (kq ≤ k) ∧ Aside0 (Kd.R (Kd.int .u8) 5 w' w.heap.size (fun _ => True) v230 x5_1) ∧ Aside0 (Below w.heap.size w w'))
 case atStart => exact ⟨(t229), (0), rf_, H', ⟨Nat.le_refl _⟩, ⟨by (with_reducible repeat (first | apply Kd.R_alloc | apply Kd.R_drewN | apply Kd.R_drew)); exact HO231.out⟩, ⟨(hb0_ HB.out)⟩⟩
 case round =>
  clear H'; try clear c1
  try clear p2
  try clear c4
  obtain ⟨x5_1, x12_1, rfl, HA, HK1, HO_5, HB⟩ := hrel; cases gk with
  | zero => exact absurd HA.out (by simp [mask_Clear.l0])
  | succ k1 =>
   have H := HA.out; clear HA; simp only [mask_Clear.l0] at H; by_cases c5 : x12_1 < (l1.length : Int)
   ·
    rw [if_pos c5] at H; have c5b0 : decide (x12_1 < (l1.length : Int)) = true := decide_eq_true c5; clear c5; by_cases c6 : 0 ≤ x12_1
    rotate_left
    ·
     rw [if_neg c6] at H; exact absurd H (by simp)
    rw [if_pos c6] at H; have c6b0 : decide (0 ≤ x12_1) = true := decide_eq_true c6; clear c6; by_cases c7 : x12_1 < (l1.length : Int)
    rotate_left
    ·
     rw [if_neg c7] at H; exact absurd H (by simp)
    rw [if_pos c7] at H; have c7b0 : decide (x12_1 < (l1.length : Int)) = true := decide_eq_true c7; clear c7; replace H := Option.bind_eq_some_iff.mp H; obtain ⟨t233, A80, H⟩ := H; (try dsimp only at H); have A8 := Aside0.mk A80; clear A80; have H' := Aside0.mk H; clear H; have p232 : 0 ≤ (x12_1 : Int) := od_; have q232 : x12_1 < (l1.length : Int) := od_; obtain ⟨ad232, e232, hx232_0⟩ := Kd.at_int HR1.out x12_1 p232 q232; cases e232; replace hx232_0 := (HB.out.cell (World.block_lt_of_cell? w _ hx232_0)).trans hx232_0; replace p232 := eq_true p232; replace q232 := eq_true q232; obtain ⟨Ao9, co9, eo9⟩ := Kd.R_slice HO_5.out; subst eo9; go_wp2_with (first | ((with_reducible refine gate_callee (f := 88) rfl ?_); refine goesL_ (some 18) rfl rfl Try.func88 (by kernel_rfl) rfl #[.slice Ao9 x5_1.length co9, .int .i64 (rd l1 x12_1), .bool false] rfl lm_ ?_; (with_reducible refine (mask_set.calls k1 (fun k_ => some k_ = (.slice Ao9 x5_1.length co9 : Value).ownBlock) (.slice Ao9 x5_1.length co9) x5_1 (rd l1 x12_1) false t233 w _ ?side1 ?side2 A8.out).mono ?_); (case side1 => exact (hb0_ HB.out)); (case side2 => exact Kd.R_tight rfl HO_5.out); rintro e w10 ⟨rfl, hy0, hb, hkp⟩; refine ⟨_, rfl, ?_⟩; have n0_ := Aside0.mk (Kd.R_reok rfl hy0 (fun k_ e_ => HO_5.out.1 k_ e_)); have n1_ := Aside0.mk (hb); clear HO_5 HB; revert n0_ n1_; intro HO_5 HB; (try clear hb); (try clear hkp); (try clear hy0)))
    go_roundg k1
    case measure => have := HK1.out; omega
    case rel => exact ⟨(t233), (wrap64 (x12_1 + 1)), rf_, H', ⟨by have := HK1.out; omega⟩, ⟨by (with_reducible repeat (first | apply Kd.R_alloc | apply Kd.R_drewN | apply Kd.R_drew)); exact HO_5.out⟩, ⟨(hb0_ HB.out)⟩⟩
   ·
    rw [if_neg c5] at H; have c5b0 : decide (x12_1 < (l1.length : Int)) = false := decide_eq_false c5; clear c5; obtain rfl := Option.some.inj H; go_wp2
    go_ret
    exact ⟨_, by first | rfl | (simp [errW_none, errW_some] <;> rfl) | (simp [*, errW_none, errW_some] <;> rfl), by (with_reducible repeat (first | apply Kd.R_alloc | apply Kd.R_drewN | apply Kd.R_drew)); exact HO_5.out, (hb0_ HB.out)⟩

/-! ### mask_Valid: function 56 -/
def mask_Valid.f (a0_0 : Int) (a0_1 : Int) (l0_2 : List Int) (l0_3 : List Int) (l0_4 : List (S101)) (l0_5 : List (S79)) (l0_6 : List Int) (a0_7 : Bool) : Option (Bool) := if a0_0 ≥ 0 then (if a0_0 ≤ 1024 then (if a0_1 = 1 then (some ((l0_2.length : Int) == a0_0)) else (if a0_1 = 8 then (some ((l0_2.length : Int) == a0_0)) else (some false))) else (some false)) else (some false)
set_option maxHeartbeats 8000000 in
set_option maxRecDepth 100000 in
theorem mask_Valid.calls (a0_0 : Int) (a0_1 : Int) (A0_2 : Option Addr) (c0_2 : Nat) (l0_2 : List Int) (A0_3 : Option Addr) (c0_3 : Nat) (l0_3 : List Int) (A0_4 : Option Addr) (c0_4 : Nat) (l0_4 : List (S101)) (A0_5 : Option Addr) (c0_5 : Nat) (l0_5 : List (S79)) (A0_6 : Option Addr) (c0_6 : Nat) (l0_6 : List Int) (a0_7 : Bool) (r : Bool) (w : World) (hr0_2 : Kd.C (Kd.int .u8) w A0_2 l0_2.length l0_2) (hc0_2 : l0_2.length ≤ c0_2) (hr0_3 : Kd.C (Kd.int .i64) w A0_3 l0_3.length l0_3) (hc0_3 : l0_3.length ≤ c0_3) (hr0_4 : Kd.C k101 w A0_4 l0_4.length l0_4) (hc0_4 : l0_4.length ≤ c0_4) (hr0_5 : Kd.C k79 w A0_5 l0_5.length l0_5) (hc0_5 : l0_5.length ≤ c0_5) (hr0_6 : Kd.C (Kd.int .i64) w A0_6 l0_6.length l0_6) (hc0_6 : l0_6.length ≤ c0_6) (h : mask_Valid.f a0_0 a0_1 l0_2 l0_3 l0_4 l0_5 l0_6 a0_7 = some r) :
  Calls Try.prog 56 #[.agg #[.int .i64 a0_0, .int .i64 a0_1, .slice A0_2 l0_2.length c0_2, .slice A0_3 l0_3.length c0_3, .slice A0_4 l0_4.length c0_4, .slice A0_5 l0_5.length c0_5, .slice A0_6 l0_6.length c0_6, .bool a0_7]] w fun e w' => e = .returned (.bool r) ∧ Below w.heap.size w w' := by
 have hu31 := Try.underlying31; have HR0_2 := Aside0.mk hr0_2; have HC0_2 := Aside0.mk hc0_2; clear hr0_2 hc0_2; have HR0_3 := Aside0.mk hr0_3; have HC0_3 := Aside0.mk hc0_3; clear hr0_3 hc0_3; have HR0_4 := Aside0.mk hr0_4; have HC0_4 := Aside0.mk hc0_4; clear hr0_4 hc0_4; have HR0_5 := Aside0.mk hr0_5; have HC0_5 := Aside0.mk hc0_5; clear hr0_5 hc0_5; have HR0_6 := Aside0.mk hr0_6; have HC0_6 := Aside0.mk hc0_6; clear hr0_6 hc0_6; have HB := Aside0.mk (Below.refl w.heap.size w); have H : (if a0_0 ≥ 0 then (if a0_0 ≤ 1024 then (if a0_1 = 1 then (some ((l0_2.length : Int) == a0_0)) else (if a0_1 = 8 then (some ((l0_2.length : Int) == a0_0)) else (some false))) else (some false)) else (some false)) = some r := h; clear h; by_cases c2 : a0_0 ≥ 0
 ·
  rw [if_pos c2] at H; have c2b0 : decide (0 ≤ a0_0) = true := decide_eq_true c2; clear c2; by_cases c3 : a0_0 ≤ 1024
  ·
   rw [if_pos c3] at H; have c3b0 : decide (a0_0 ≤ 1024) = true := decide_eq_true c3; clear c3; by_cases c4 : a0_1 = 1
   ·
    rw [if_pos c4] at H; have c4b0 : (a0_1 == 1) = true := beq_iff_eq.mpr c4; have c4b1 : (a0_1 != 1) = false := bne_eq_false_iff_eq.mpr c4; clear c4; obtain rfl := Option.some.inj H; go_enter Try.func56, Try.ntmps56
    go_wp2_with (first | ((with_reducible refine gate_dst (N := 1) rfl ?_); (try (refine gate_guard (by rfl) ?_; dsimp only)); refine box_event ?hg (N := 1) ?hd (cs := #[.int .i64 a0_0, .int .i64 a0_1, .slice A0_2 l0_2.length c0_2, .slice A0_3 l0_3.length c0_3, .slice A0_4 l0_4.length c0_4, .slice A0_5 l0_5.length c0_5, .slice A0_6 l0_6.length c0_6, .bool a0_7]) (t := 31) ?hr ?_; (case hd => rfl); (case hg => rfl); (case hr => first | (go_simp; done) | (go_simp; rfl)); intro gb234 hg w5 hbox hb; have n0_ := Aside0.mk (below_step (hb0_ HB.out) hb); have n1_ := Aside0.mk (hbox); have n2_ := Aside0.mk ((by rw [hg]; exact (below_size (hb0_ HB.out)) : w.heap.size ≤ gb234)); have n3_ := Aside0.mk ((by rw [hg]; exact (below_size (hb0_ HB.out)) : w.heap.size ≤ gb234)); clear HB; revert n0_ n1_ n2_ n3_; intro HB BK234 GW234 GE234; clear hb hbox hg; obtain ⟨hcz6_0, hcz6_1, hcz6_2, hcz6_3, hcz6_4, hcz6_5, hcz6_6, hcz6_7, hfz6_0, hfz6_1, hfz6_2, hfz6_3, hfz6_4, hfz6_5, hfz6_6, hfz6_7⟩ := bx8_ BK234.out))
    go_ret
    exact ⟨by first | rfl | (simp [errW_none, errW_some] <;> rfl) | (simp [*, errW_none, errW_some] <;> rfl), (hb1_ HB.out GE234.out)⟩
   ·
    rw [if_neg c4] at H; have c4b0 : (a0_1 == 1) = false := beq_eq_false_iff_ne.mpr c4; have c4b1 : (a0_1 != 1) = true := bne_iff_ne.mpr c4; by_cases c7 : a0_1 = 8
    ·
     rw [if_pos c7] at H; have c7b0 : (a0_1 == 8) = true := beq_iff_eq.mpr c7; have c7b1 : (a0_1 != 8) = false := bne_eq_false_iff_eq.mpr c7; clear c7; obtain rfl := Option.some.inj H; go_enter Try.func56, Try.ntmps56
     go_wp2_with (first | ((with_reducible refine gate_dst (N := 1) rfl ?_); (try (refine gate_guard (by rfl) ?_; dsimp only)); refine box_event ?hg (N := 1) ?hd (cs := #[.int .i64 a0_0, .int .i64 a0_1, .slice A0_2 l0_2.length c0_2, .slice A0_3 l0_3.length c0_3, .slice A0_4 l0_4.length c0_4, .slice A0_5 l0_5.length c0_5, .slice A0_6 l0_6.length c0_6, .bool a0_7]) (t := 31) ?hr ?_; (case hd => rfl); (case hg => rfl); (case hr => first | (go_simp; done) | (go_simp; rfl)); intro gb234 hg w8 hbox hb; have n0_ := Aside0.mk (below_step (hb0_ HB.out) hb); have n1_ := Aside0.mk (hbox); have n2_ := Aside0.mk ((by rw [hg]; exact (below_size (hb0_ HB.out)) : w.heap.size ≤ gb234)); have n3_ := Aside0.mk ((by rw [hg]; exact (below_size (hb0_ HB.out)) : w.heap.size ≤ gb234)); clear HB; revert n0_ n1_ n2_ n3_; intro HB BK234 GW234 GE234; clear hb hbox hg; obtain ⟨hcz9_0, hcz9_1, hcz9_2, hcz9_3, hcz9_4, hcz9_5, hcz9_6, hcz9_7, hfz9_0, hfz9_1, hfz9_2, hfz9_3, hfz9_4, hfz9_5, hfz9_6, hfz9_7⟩ := bx8_ BK234.out))
     go_ret
     exact ⟨by first | rfl | (simp [errW_none, errW_some] <;> rfl) | (simp [*, errW_none, errW_some] <;> rfl), (hb1_ HB.out GE234.out)⟩
    ·
     rw [if_neg c7] at H; have c7b0 : (a0_1 == 8) = false := beq_eq_false_iff_ne.mpr c7; have c7b1 : (a0_1 != 8) = true := bne_iff_ne.mpr c7; obtain rfl := Option.some.inj H; go_enter Try.func56, Try.ntmps56
     go_wp2_with (first | ((with_reducible refine gate_dst (N := 1) rfl ?_); (try (refine gate_guard (by rfl) ?_; dsimp only)); refine box_event ?hg (N := 1) ?hd (cs := #[.int .i64 a0_0, .int .i64 a0_1, .slice A0_2 l0_2.length c0_2, .slice A0_3 l0_3.length c0_3, .slice A0_4 l0_4.length c0_4, .slice A0_5 l0_5.length c0_5, .slice A0_6 l0_6.length c0_6, .bool a0_7]) (t := 31) ?hr ?_; (case hd => rfl); (case hg => rfl); (case hr => first | (go_simp; done) | (go_simp; rfl)); intro gb234 hg w10 hbox hb; have n0_ := Aside0.mk (below_step (hb0_ HB.out) hb); have n1_ := Aside0.mk (hbox); have n2_ := Aside0.mk ((by rw [hg]; exact (below_size (hb0_ HB.out)) : w.heap.size ≤ gb234)); have n3_ := Aside0.mk ((by rw [hg]; exact (below_size (hb0_ HB.out)) : w.heap.size ≤ gb234)); clear HB; revert n0_ n1_ n2_ n3_; intro HB BK234 GW234 GE234; clear hb hbox hg; obtain ⟨hcz11_0, hcz11_1, hcz11_2, hcz11_3, hcz11_4, hcz11_5, hcz11_6, hcz11_7, hfz11_0, hfz11_1, hfz11_2, hfz11_3, hfz11_4, hfz11_5, hfz11_6, hfz11_7⟩ := bx8_ BK234.out))
     go_ret
     exact ⟨by first | rfl | (simp [errW_none, errW_some] <;> rfl) | (simp [*, errW_none, errW_some] <;> rfl), (hb1_ HB.out GE234.out)⟩
  ·
   rw [if_neg c3] at H; have c3b0 : decide (a0_0 ≤ 1024) = false := decide_eq_false c3; clear c3; obtain rfl := Option.some.inj H; go_enter Try.func56, Try.ntmps56
   go_wp2_with (first | ((with_reducible refine gate_dst (N := 1) rfl ?_); (try (refine gate_guard (by rfl) ?_; dsimp only)); refine box_event ?hg (N := 1) ?hd (cs := #[.int .i64 a0_0, .int .i64 a0_1, .slice A0_2 l0_2.length c0_2, .slice A0_3 l0_3.length c0_3, .slice A0_4 l0_4.length c0_4, .slice A0_5 l0_5.length c0_5, .slice A0_6 l0_6.length c0_6, .bool a0_7]) (t := 31) ?hr ?_; (case hd => rfl); (case hg => rfl); (case hr => first | (go_simp; done) | (go_simp; rfl)); intro gb234 hg w12 hbox hb; have n0_ := Aside0.mk (below_step (hb0_ HB.out) hb); have n1_ := Aside0.mk (hbox); have n2_ := Aside0.mk ((by rw [hg]; exact (below_size (hb0_ HB.out)) : w.heap.size ≤ gb234)); have n3_ := Aside0.mk ((by rw [hg]; exact (below_size (hb0_ HB.out)) : w.heap.size ≤ gb234)); clear HB; revert n0_ n1_ n2_ n3_; intro HB BK234 GW234 GE234; clear hb hbox hg; obtain ⟨hcz13_0, hcz13_1, hcz13_2, hcz13_3, hcz13_4, hcz13_5, hcz13_6, hcz13_7, hfz13_0, hfz13_1, hfz13_2, hfz13_3, hfz13_4, hfz13_5, hfz13_6, hfz13_7⟩ := bx8_ BK234.out))
   go_ret
   exact ⟨by first | rfl | (simp [errW_none, errW_some] <;> rfl) | (simp [*, errW_none, errW_some] <;> rfl), (hb1_ HB.out GE234.out)⟩
 ·
  rw [if_neg c2] at H; have c2b0 : decide (0 ≤ a0_0) = false := decide_eq_false c2; clear c2; obtain rfl := Option.some.inj H; go_enter Try.func56, Try.ntmps56
  go_wp2_with (first | ((with_reducible refine gate_dst (N := 1) rfl ?_); (try (refine gate_guard (by rfl) ?_; dsimp only)); refine box_event ?hg (N := 1) ?hd (cs := #[.int .i64 a0_0, .int .i64 a0_1, .slice A0_2 l0_2.length c0_2, .slice A0_3 l0_3.length c0_3, .slice A0_4 l0_4.length c0_4, .slice A0_5 l0_5.length c0_5, .slice A0_6 l0_6.length c0_6, .bool a0_7]) (t := 31) ?hr ?_; (case hd => rfl); (case hg => rfl); (case hr => first | (go_simp; done) | (go_simp; rfl)); intro gb234 hg w14 hbox hb; have n0_ := Aside0.mk (below_step (hb0_ HB.out) hb); have n1_ := Aside0.mk (hbox); have n2_ := Aside0.mk ((by rw [hg]; exact (below_size (hb0_ HB.out)) : w.heap.size ≤ gb234)); have n3_ := Aside0.mk ((by rw [hg]; exact (below_size (hb0_ HB.out)) : w.heap.size ≤ gb234)); clear HB; revert n0_ n1_ n2_ n3_; intro HB BK234 GW234 GE234; clear hb hbox hg; obtain ⟨hcz15_0, hcz15_1, hcz15_2, hcz15_3, hcz15_4, hcz15_5, hcz15_6, hcz15_7, hfz15_0, hfz15_1, hfz15_2, hfz15_3, hfz15_4, hfz15_5, hfz15_6, hfz15_7⟩ := bx8_ BK234.out))
  go_ret
  exact ⟨by first | rfl | (simp [errW_none, errW_some] <;> rfl) | (simp [*, errW_none, errW_some] <;> rfl), (hb1_ HB.out GE234.out)⟩

/-! ### product_Lay_1: function 73 -/
def product_Lay_1.f (a0_0 : Int) (a0_1 : Int) (l0_2 : List Int) (l0_3 : List Int) (l0_4 : List (S101)) (l0_5 : List (S79)) (l0_6 : List Int) (a0_7 : Bool) : Option (Bool) := (mask_Valid.f a0_0 a0_1 l0_2 l0_3 l0_4 l0_5 l0_6 a0_7).bind fun t236 => (some (!t236))
set_option maxHeartbeats 8000000 in
set_option maxRecDepth 100000 in
theorem product_Lay_1.calls (a0_0 : Int) (a0_1 : Int) (A0_2 : Option Addr) (c0_2 : Nat) (l0_2 : List Int) (A0_3 : Option Addr) (c0_3 : Nat) (l0_3 : List Int) (A0_4 : Option Addr) (c0_4 : Nat) (l0_4 : List (S101)) (A0_5 : Option Addr) (c0_5 : Nat) (l0_5 : List (S79)) (A0_6 : Option Addr) (c0_6 : Nat) (l0_6 : List Int) (a0_7 : Bool) (r : Bool) (w : World) (hr0_2 : Kd.C (Kd.int .u8) w A0_2 l0_2.length l0_2) (hc0_2 : l0_2.length ≤ c0_2) (hr0_3 : Kd.C (Kd.int .i64) w A0_3 l0_3.length l0_3) (hc0_3 : l0_3.length ≤ c0_3) (hr0_4 : Kd.C k101 w A0_4 l0_4.length l0_4) (hc0_4 : l0_4.length ≤ c0_4) (hr0_5 : Kd.C k79 w A0_5 l0_5.length l0_5) (hc0_5 : l0_5.length ≤ c0_5) (hr0_6 : Kd.C (Kd.int .i64) w A0_6 l0_6.length l0_6) (hc0_6 : l0_6.length ≤ c0_6) (h : product_Lay_1.f a0_0 a0_1 l0_2 l0_3 l0_4 l0_5 l0_6 a0_7 = some r) :
  Calls Try.prog 73 #[.agg #[.int .i64 a0_0, .int .i64 a0_1, .slice A0_2 l0_2.length c0_2, .slice A0_3 l0_3.length c0_3, .slice A0_4 l0_4.length c0_4, .slice A0_5 l0_5.length c0_5, .slice A0_6 l0_6.length c0_6, .bool a0_7]] w fun e w' => e = .returned (.bool r) ∧ Below w.heap.size w w' := by
 have hu31 := Try.underlying31; have HR0_2 := Aside0.mk hr0_2; have HC0_2 := Aside0.mk hc0_2; clear hr0_2 hc0_2; have HR0_3 := Aside0.mk hr0_3; have HC0_3 := Aside0.mk hc0_3; clear hr0_3 hc0_3; have HR0_4 := Aside0.mk hr0_4; have HC0_4 := Aside0.mk hc0_4; clear hr0_4 hc0_4; have HR0_5 := Aside0.mk hr0_5; have HC0_5 := Aside0.mk hc0_5; clear hr0_5 hc0_5; have HR0_6 := Aside0.mk hr0_6; have HC0_6 := Aside0.mk hc0_6; clear hr0_6 hc0_6; have HB := Aside0.mk (Below.refl w.heap.size w); have H : ((mask_Valid.f a0_0 a0_1 l0_2 l0_3 l0_4 l0_5 l0_6 a0_7).bind fun t236 => (some (!t236))) = some r := h; clear h; replace H := Option.bind_eq_some_iff.mp H; obtain ⟨t236, A20, H⟩ := H; (try dsimp only at H); have A2 := Aside0.mk A20; clear A20; obtain rfl := Option.some.inj H; go_enter Try.func73, Try.ntmps73
 go_wp2_with (first | ((with_reducible refine gate_dst (N := 1) rfl ?_); refine box_event ?hg (N := 1) ?hd (cs := #[.int .i64 a0_0, .int .i64 a0_1, .slice A0_2 l0_2.length c0_2, .slice A0_3 l0_3.length c0_3, .slice A0_4 l0_4.length c0_4, .slice A0_5 l0_5.length c0_5, .slice A0_6 l0_6.length c0_6, .bool a0_7]) (t := 31) ?hr ?_; (case hd => rfl); (case hg => rfl); (case hr => first | (go_simp; done) | (go_simp; rfl)); intro gb235 hg w3 hbox hb; have n0_ := Aside0.mk (below_step (hb0_ HB.out) hb); have n1_ := Aside0.mk (hbox); have n2_ := Aside0.mk ((by rw [hg]; exact (below_size (hb0_ HB.out)) : w.heap.size ≤ gb235)); have n3_ := Aside0.mk ((by rw [hg]; exact (below_size (hb0_ HB.out)) : w.heap.size ≤ gb235)); clear HB; revert n0_ n1_ n2_ n3_; intro HB BK235 GW235 GE235; clear hb hbox hg; obtain ⟨hcz4_0, hcz4_1, hcz4_2, hcz4_3, hcz4_4, hcz4_5, hcz4_6, hcz4_7, hfz4_0, hfz4_1, hfz4_2, hfz4_3, hfz4_4, hfz4_5, hfz4_6, hfz4_7⟩ := bx8_ BK235.out) | ((with_reducible refine gate_callee (f := 56) rfl ?_); refine goesL_ (some 4) rfl rfl Try.func56 (by kernel_rfl) rfl #[.agg #[.int .i64 a0_0, .int .i64 a0_1, .slice A0_2 l0_2.length c0_2, .slice A0_3 l0_3.length c0_3, .slice A0_4 l0_4.length c0_4, .slice A0_5 l0_5.length c0_5, .slice A0_6 l0_6.length c0_6, .bool a0_7]] rfl lm_ ?_; (with_reducible refine (mask_Valid.calls a0_0 a0_1 _ _ l0_2 _ _ l0_3 _ _ l0_4 _ _ l0_5 _ _ l0_6 a0_7 t236 _ ?side1 ?side2 ?side3 ?side4 ?side5 ?side6 ?side7 ?side8 ?side9 ?side10 A2.out).mono ?_); (case side1 => exact kD_ (Kd.C_below HR0_2.out HB.out)); (case side2 => exact HC0_2.out); (case side3 => exact kD_ (Kd.C_below HR0_3.out HB.out)); (case side4 => exact HC0_3.out); (case side5 => exact kD_ (Kd.C_below HR0_4.out HB.out)); (case side6 => exact HC0_4.out); (case side7 => exact kD_ (Kd.C_below HR0_5.out HB.out)); (case side8 => exact HC0_5.out); (case side9 => exact kD_ (Kd.C_below HR0_6.out HB.out)); (case side10 => exact HC0_6.out); rintro e w5 ⟨rfl, hb⟩; refine ⟨_, rfl, ?_⟩; have n0_ := Aside0.mk (bb_ BK235.out hb); have n1_ := Aside0.mk (below_step (hb1_ HB.out GE235.out) hb); clear BK235 HB; revert n0_ n1_; intro BK235 HB; (try clear hb); (try clear hb2); (try clear hk); (try clear hi)))
 go_ret
 exact ⟨by first | rfl | (simp [errW_none, errW_some] <;> rfl) | (simp [*, errW_none, errW_some] <;> rfl), (hb1_ HB.out GE235.out)⟩

/-! ### sum_Lay_1: function 77 -/
def sum_Lay_1.f (a0_0 : Int) (a0_1 : Int) (l0_2 : List Int) (l0_3 : List Int) (l0_4 : List (S101)) (l0_5 : List (S79)) (l0_6 : List Int) (a0_7 : Bool) : Option (Bool) := (mask_Valid.f a0_0 a0_1 l0_2 l0_3 l0_4 l0_5 l0_6 a0_7).bind fun t238 => (some (!t238))
set_option maxHeartbeats 8000000 in
set_option maxRecDepth 100000 in
theorem sum_Lay_1.calls (a0_0 : Int) (a0_1 : Int) (A0_2 : Option Addr) (c0_2 : Nat) (l0_2 : List Int) (A0_3 : Option Addr) (c0_3 : Nat) (l0_3 : List Int) (A0_4 : Option Addr) (c0_4 : Nat) (l0_4 : List (S101)) (A0_5 : Option Addr) (c0_5 : Nat) (l0_5 : List (S79)) (A0_6 : Option Addr) (c0_6 : Nat) (l0_6 : List Int) (a0_7 : Bool) (r : Bool) (w : World) (hr0_2 : Kd.C (Kd.int .u8) w A0_2 l0_2.length l0_2) (hc0_2 : l0_2.length ≤ c0_2) (hr0_3 : Kd.C (Kd.int .i64) w A0_3 l0_3.length l0_3) (hc0_3 : l0_3.length ≤ c0_3) (hr0_4 : Kd.C k101 w A0_4 l0_4.length l0_4) (hc0_4 : l0_4.length ≤ c0_4) (hr0_5 : Kd.C k79 w A0_5 l0_5.length l0_5) (hc0_5 : l0_5.length ≤ c0_5) (hr0_6 : Kd.C (Kd.int .i64) w A0_6 l0_6.length l0_6) (hc0_6 : l0_6.length ≤ c0_6) (h : sum_Lay_1.f a0_0 a0_1 l0_2 l0_3 l0_4 l0_5 l0_6 a0_7 = some r) :
  Calls Try.prog 77 #[.agg #[.int .i64 a0_0, .int .i64 a0_1, .slice A0_2 l0_2.length c0_2, .slice A0_3 l0_3.length c0_3, .slice A0_4 l0_4.length c0_4, .slice A0_5 l0_5.length c0_5, .slice A0_6 l0_6.length c0_6, .bool a0_7]] w fun e w' => e = .returned (.bool r) ∧ Below w.heap.size w w' := by
 have hu31 := Try.underlying31; have HR0_2 := Aside0.mk hr0_2; have HC0_2 := Aside0.mk hc0_2; clear hr0_2 hc0_2; have HR0_3 := Aside0.mk hr0_3; have HC0_3 := Aside0.mk hc0_3; clear hr0_3 hc0_3; have HR0_4 := Aside0.mk hr0_4; have HC0_4 := Aside0.mk hc0_4; clear hr0_4 hc0_4; have HR0_5 := Aside0.mk hr0_5; have HC0_5 := Aside0.mk hc0_5; clear hr0_5 hc0_5; have HR0_6 := Aside0.mk hr0_6; have HC0_6 := Aside0.mk hc0_6; clear hr0_6 hc0_6; have HB := Aside0.mk (Below.refl w.heap.size w); have H : ((mask_Valid.f a0_0 a0_1 l0_2 l0_3 l0_4 l0_5 l0_6 a0_7).bind fun t238 => (some (!t238))) = some r := h; clear h; replace H := Option.bind_eq_some_iff.mp H; obtain ⟨t238, A20, H⟩ := H; (try dsimp only at H); have A2 := Aside0.mk A20; clear A20; obtain rfl := Option.some.inj H; go_enter Try.func77, Try.ntmps77
 go_wp2_with (first | ((with_reducible refine gate_dst (N := 1) rfl ?_); refine box_event ?hg (N := 1) ?hd (cs := #[.int .i64 a0_0, .int .i64 a0_1, .slice A0_2 l0_2.length c0_2, .slice A0_3 l0_3.length c0_3, .slice A0_4 l0_4.length c0_4, .slice A0_5 l0_5.length c0_5, .slice A0_6 l0_6.length c0_6, .bool a0_7]) (t := 31) ?hr ?_; (case hd => rfl); (case hg => rfl); (case hr => first | (go_simp; done) | (go_simp; rfl)); intro gb237 hg w3 hbox hb; have n0_ := Aside0.mk (below_step (hb0_ HB.out) hb); have n1_ := Aside0.mk (hbox); have n2_ := Aside0.mk ((by rw [hg]; exact (below_size (hb0_ HB.out)) : w.heap.size ≤ gb237)); have n3_ := Aside0.mk ((by rw [hg]; exact (below_size (hb0_ HB.out)) : w.heap.size ≤ gb237)); clear HB; revert n0_ n1_ n2_ n3_; intro HB BK237 GW237 GE237; clear hb hbox hg; obtain ⟨hcz4_0, hcz4_1, hcz4_2, hcz4_3, hcz4_4, hcz4_5, hcz4_6, hcz4_7, hfz4_0, hfz4_1, hfz4_2, hfz4_3, hfz4_4, hfz4_5, hfz4_6, hfz4_7⟩ := bx8_ BK237.out) | ((with_reducible refine gate_callee (f := 56) rfl ?_); refine goesL_ (some 4) rfl rfl Try.func56 (by kernel_rfl) rfl #[.agg #[.int .i64 a0_0, .int .i64 a0_1, .slice A0_2 l0_2.length c0_2, .slice A0_3 l0_3.length c0_3, .slice A0_4 l0_4.length c0_4, .slice A0_5 l0_5.length c0_5, .slice A0_6 l0_6.length c0_6, .bool a0_7]] rfl lm_ ?_; (with_reducible refine (mask_Valid.calls a0_0 a0_1 _ _ l0_2 _ _ l0_3 _ _ l0_4 _ _ l0_5 _ _ l0_6 a0_7 t238 _ ?side1 ?side2 ?side3 ?side4 ?side5 ?side6 ?side7 ?side8 ?side9 ?side10 A2.out).mono ?_); (case side1 => exact kD_ (Kd.C_below HR0_2.out HB.out)); (case side2 => exact HC0_2.out); (case side3 => exact kD_ (Kd.C_below HR0_3.out HB.out)); (case side4 => exact HC0_3.out); (case side5 => exact kD_ (Kd.C_below HR0_4.out HB.out)); (case side6 => exact HC0_4.out); (case side7 => exact kD_ (Kd.C_below HR0_5.out HB.out)); (case side8 => exact HC0_5.out); (case side9 => exact kD_ (Kd.C_below HR0_6.out HB.out)); (case side10 => exact HC0_6.out); rintro e w5 ⟨rfl, hb⟩; refine ⟨_, rfl, ?_⟩; have n0_ := Aside0.mk (bb_ BK237.out hb); have n1_ := Aside0.mk (below_step (hb1_ HB.out GE237.out) hb); clear BK237 HB; revert n0_ n1_; intro BK237 HB; (try clear hb); (try clear hb2); (try clear hk); (try clear hi)))
 go_ret
 exact ⟨by first | rfl | (simp [errW_none, errW_some] <;> rfl) | (simp [*, errW_none, errW_some] <;> rfl), (hb1_ HB.out GE237.out)⟩

/-! ### AnyBadP: function 72 (by hand) -/
/-- Is a layout none that could be? -/
def badS (p : S31) : Bool := !(decide (0 ≤ p.f0) && decide (p.f0 ≤ 1024) && (decide (p.f1 = 1) || decide (p.f1 = 8)) && decide ((p.f2.length : Int) = p.f0))
theorem mask_Valid_eq (p : S31) : mask_Valid.f p.f0 p.f1 p.f2 p.f3 p.f4 p.f5 p.f6 p.f7 = some (!(badS p)) := by
  unfold mask_Valid.f badS; by_cases h0 : 0 ≤ p.f0
  · by_cases h1 : p.f0 ≤ 1024
    · by_cases h2 : p.f1 = 1
      · rw [if_pos h0, if_pos h1, if_pos h2]; simp [h0, h1, h2]
        by_cases h4 : (p.f2.length : Int) = p.f0 <;> simp [h4]
      · by_cases h3 : p.f1 = 8
        · rw [if_pos h0, if_pos h1, if_neg h2, if_pos h3]; simp [h0, h1, h3]
          by_cases h4 : (p.f2.length : Int) = p.f0 <;> simp [h4]
        · rw [if_pos h0, if_pos h1, if_neg h2, if_neg h3]; simp [h2, h3]
    · rw [if_pos h0, if_neg h1]; simp [h1]
  · rw [if_neg h0]; simp [h0]
/-- The first place of a list at which p answers yes, from place k on; -1 if there is none. -/
def firstIx {α : Type} (p : α → Bool) : List α → Int → Int
  | [], _ => -1
  | x :: xs, k => if p x = true then k else firstIx p xs (k + 1)
theorem firstIx_ge {α : Type} (p : α → Bool) : ∀ (l : List α) (k : Int), 0 ≤ k → decide (firstIx p l k ≥ 0) = l.any p
  | [], k, _ => by simp [firstIx]
  | x :: xs, k, h => by
    by_cases hx : p x = true
    · simp [firstIx, hx, h]
    · have := firstIx_ge p xs (k + 1) (by omega)
      simp only [firstIx, hx, List.any_cons]; simpa using this
theorem firstIx_drop {α : Type} (p : α → Bool) (l : List α) (z : α) (i : Int) (h0 : 0 ≤ i) (h1 : i < l.length) :
    firstIx p (l.drop i.toNat) i = if p (l.getD i.toNat z) = true then i else firstIx p (l.drop (i + 1).toNat) (i + 1) := by
  have h : i.toNat < l.length := by omega
  rw [List.drop_eq_getElem_cons h]; have e : (i + 1).toNat = i.toNat + 1 := by omega
  rw [e, List.getD_eq_getElem?_getD, List.getElem?_eq_getElem h]; rfl
theorem wrap_step {i : Int} {n : Nat} (h0 : 0 ≤ i) (h : i < n) (hn : n ≤ 9223372036854775807) : wrap64 (i + 1) = i + 1 := by
  unfold wrap64; omega
set_option maxHeartbeats 2000000 in
theorem AnyBadPIx.calls (A0 : Option Addr) (c0 : Nat) (l0 : List S31) (w : World) (hr0 : Kd.C k31 w A0 l0.length l0) (hn : l0.length ≤ 9223372036854775807) :
    Calls Try.prog 92 #[.slice A0 l0.length c0, .func (.func 73) #[] #[]] w fun e w' => e = .returned (.int .i64 (firstIx badS l0 0)) ∧ Below w.heap.size w w' := by
  have hu31 := Try.underlying31; have HR0 := Aside0.mk hr0; have HN := Aside0.mk hn; clear hr0 hn; obtain ⟨r, hr⟩ : ∃ r : Int, firstIx badS l0 0 = r := ⟨_, rfl⟩; rw [hr]; have HI : Aside0 (firstIx badS (l0.drop (0 : Int).toNat) 0 = r) := ⟨hr⟩; clear hr; go_enter Try.func92, Try.ntmps92
  go_wp2
  go_loopg [8] l0.length (fun kq v8 w' => ∃ (x : Int), v8 = .int .i64 x ∧ Aside0 (0 ≤ x ∧ x + kq = l0.length) ∧ Aside0 (firstIx badS (l0.drop x.toNat) x = r) ∧ Aside0 (Below w.heap.size w w'))
  case atStart => exact ⟨0, rfl, ⟨by omega, by omega⟩, HI, ⟨Below.refl _ _⟩⟩
  case round =>
    clear HI; obtain ⟨x, rfl, HX, HI, HB⟩ := hrel; cases gk with
    | zero =>
      have c3b0 : decide (x < (l0.length : Int)) = false := decide_eq_false (by have := HX.out; omega); have hr : r = -1 := by
        have h1 := HI.out; rw [List.drop_of_length_le (by have := HX.out; omega)] at h1; exact h1.symm
      subst hr; go_wp2
      go_ret
      exact ⟨rfl, HB.out⟩
    | succ k1 =>
      have c3 : x < (l0.length : Int) := by have := HX.out; omega
      have c30 : 0 ≤ x := HX.out.1; have HD := Aside0.mk (firstIx_drop badS l0 z31 x c30 c3); have c3b0 : decide (x < (l0.length : Int)) = true := decide_eq_true c3; obtain ⟨ad, A2, c2, A3, c3_, A4, c4, A5, c5, A6, c6, e, hx0, hx1, hx2, hx3, hx4, hx5, hx6, hx7, hl2, hi2, hl3, hi3, hl4, hi4, hl5, hi5, hl6, hi6⟩ := at_T31 HR0.out x c30 c3; cases e; replace hx0 := (HB.out.cell (World.block_lt_of_cell? w _ hx0)).trans hx0; replace hx1 := (HB.out.cell (World.block_lt_of_cell? w _ hx1)).trans hx1; replace hx2 := (HB.out.cell (World.block_lt_of_cell? w _ hx2)).trans hx2; replace hx3 := (HB.out.cell (World.block_lt_of_cell? w _ hx3)).trans hx3; replace hx4 := (HB.out.cell (World.block_lt_of_cell? w _ hx4)).trans hx4; replace hx5 := (HB.out.cell (World.block_lt_of_cell? w _ hx5)).trans hx5; replace hx6 := (HB.out.cell (World.block_lt_of_cell? w _ hx6)).trans hx6; replace hx7 := (HB.out.cell (World.block_lt_of_cell? w _ hx7)).trans hx7; have HL2 := Aside0.mk hl2; have HL3 := Aside0.mk hl3; have HL4 := Aside0.mk hl4; have HL5 := Aside0.mk hl5; have HL6 := Aside0.mk hl6; have HI2 := Aside0.mk (Kd.C_below hi2 HB.out); have HI3 := Aside0.mk (Kd.C_below hi3 HB.out); have HI4 := Aside0.mk (Kd.C_below hi4 HB.out); have HI5 := Aside0.mk (Kd.C_below hi5 HB.out); have HI6 := Aside0.mk (Kd.C_below hi6 HB.out); clear hl2 hl3 hl4 hl5 hl6 hi2 hi3 hi4 hi5 hi6; have HW := Aside0.mk (wrap_step c30 c3 HN.out); replace c30 := eq_true c30; replace c3 := eq_true c3; have HV : Aside0 (product_Lay_1.f (rd_T31 l0 x).f0 (rd_T31 l0 x).f1 (rd_T31 l0 x).f2 (rd_T31 l0 x).f3 (rd_T31 l0 x).f4 (rd_T31 l0 x).f5 (rd_T31 l0 x).f6 (rd_T31 l0 x).f7 = some (badS (rd_T31 l0 x))) := ⟨by unfold product_Lay_1.f; rw [mask_Valid_eq]; simp⟩; by_cases hz : badS (rd_T31 l0 x) = true
      · have hr : r = x := by
          have h1 := HI.out; rw [HD.out] at h1; have hz2 : badS (l0.getD x.toNat z31) = true := hz; rw [if_pos hz2] at h1; exact h1.symm
        subst hr; go_wp2_with (go_at_call 73; (with_reducible refine (product_Lay_1.calls _ _ _ _ (rd_T31 l0 r).f2 _ _ (rd_T31 l0 r).f3 _ _ (rd_T31 l0 r).f4 _ _ (rd_T31 l0 r).f5 _ _ (rd_T31 l0 r).f6 _ _ _ HI2.out HL2.out HI3.out HL3.out HI4.out HL4.out HI5.out HL5.out HI6.out HL6.out HV.out).mono ?_); rintro e w2 ⟨rfl, hb2⟩)
        have HB2 := Aside0.mk (below_step HB.out hb2); clear hb2; go_wp2
        go_ret
        exact ⟨rfl, HB2.out⟩
      · have hz1 : badS (rd_T31 l0 x) = false := by simpa using hz
        have HJ : Aside0 (firstIx badS (l0.drop (x + 1).toNat) (x + 1) = r) := ⟨by
          have h1 := HI.out; rw [HD.out] at h1; have hz2 : ¬ badS (l0.getD x.toNat z31) = true := hz; rw [if_neg hz2] at h1; exact h1⟩
        clear hz; go_wp2_with (go_at_call 73; (with_reducible refine (product_Lay_1.calls _ _ _ _ (rd_T31 l0 x).f2 _ _ (rd_T31 l0 x).f3 _ _ (rd_T31 l0 x).f4 _ _ (rd_T31 l0 x).f5 _ _ (rd_T31 l0 x).f6 _ _ _ HI2.out HL2.out HI3.out HL3.out HI4.out HL4.out HI5.out HL5.out HI6.out HL6.out HV.out).mono ?_); rintro e w2 ⟨rfl, hb2⟩)
        have HB2 := Aside0.mk (below_step HB.out hb2); clear hb2; go_wp2
        go_roundg k1
        case measure => omega
        case rel => exact ⟨x + 1, by first | rfl | rw [HW.out] | (rw [← HW.out]), ⟨by have := HX.out; omega, by have := HX.out; omega⟩, HJ, HB2⟩
def AnyBadP.f (l0 : List S31) : Option Bool := some (l0.any badS)
theorem AnyBadP.calls (A0 : Option Addr) (c0 : Nat) (l0 : List S31) (r : Bool) (w : World) (hr0 : Kd.C k31 w A0 l0.length l0) (hc0 : l0.length ≤ c0) (h : AnyBadP.f l0 = some r) :
    Calls Try.prog 72 #[.slice A0 l0.length c0, .func (.func 73) #[] #[]] w fun e w' => e = .returned (.bool r) ∧ Below w.heap.size w w' := by
  have hn : l0.length ≤ 9223372036854775807 := (Kd.C_max hr0); have hg := firstIx_ge badS l0 0 (by omega); unfold AnyBadP.f at h; obtain rfl := Option.some.inj h; rw [← hg]; clear hg h; go_enter Try.func72, Try.ntmps72
  go_wp2_with (go_at_call 92; refine (AnyBadPIx.calls _ _ _ _ hr0 hn).mono ?_; rintro e w2 ⟨rfl, hb2⟩)
  go_ret
  exact ⟨rfl, hb2⟩

/-! ### AnyBadS: function 72 (by hand) -/
set_option maxHeartbeats 2000000 in
theorem AnyBadSIx.calls (A0 : Option Addr) (c0 : Nat) (l0 : List S31) (w : World) (hr0 : Kd.C k31 w A0 l0.length l0) (hn : l0.length ≤ 9223372036854775807) :
    Calls Try.prog 92 #[.slice A0 l0.length c0, .func (.func 77) #[] #[]] w fun e w' => e = .returned (.int .i64 (firstIx badS l0 0)) ∧ Below w.heap.size w w' := by
  have hu31 := Try.underlying31; have HR0 := Aside0.mk hr0; have HN := Aside0.mk hn; clear hr0 hn; obtain ⟨r, hr⟩ : ∃ r : Int, firstIx badS l0 0 = r := ⟨_, rfl⟩; rw [hr]; have HI : Aside0 (firstIx badS (l0.drop (0 : Int).toNat) 0 = r) := ⟨hr⟩; clear hr; go_enter Try.func92, Try.ntmps92
  go_wp2
  go_loopg [8] l0.length (fun kq v8 w' => ∃ (x : Int), v8 = .int .i64 x ∧ Aside0 (0 ≤ x ∧ x + kq = l0.length) ∧ Aside0 (firstIx badS (l0.drop x.toNat) x = r) ∧ Aside0 (Below w.heap.size w w'))
  case atStart => exact ⟨0, rfl, ⟨by omega, by omega⟩, HI, ⟨Below.refl _ _⟩⟩
  case round =>
    clear HI; obtain ⟨x, rfl, HX, HI, HB⟩ := hrel; cases gk with
    | zero =>
      have c3b0 : decide (x < (l0.length : Int)) = false := decide_eq_false (by have := HX.out; omega); have hr : r = -1 := by
        have h1 := HI.out; rw [List.drop_of_length_le (by have := HX.out; omega)] at h1; exact h1.symm
      subst hr; go_wp2
      go_ret
      exact ⟨rfl, HB.out⟩
    | succ k1 =>
      have c3 : x < (l0.length : Int) := by have := HX.out; omega
      have c30 : 0 ≤ x := HX.out.1; have HD := Aside0.mk (firstIx_drop badS l0 z31 x c30 c3); have c3b0 : decide (x < (l0.length : Int)) = true := decide_eq_true c3; obtain ⟨ad, A2, c2, A3, c3_, A4, c4, A5, c5, A6, c6, e, hx0, hx1, hx2, hx3, hx4, hx5, hx6, hx7, hl2, hi2, hl3, hi3, hl4, hi4, hl5, hi5, hl6, hi6⟩ := at_T31 HR0.out x c30 c3; cases e; replace hx0 := (HB.out.cell (World.block_lt_of_cell? w _ hx0)).trans hx0; replace hx1 := (HB.out.cell (World.block_lt_of_cell? w _ hx1)).trans hx1; replace hx2 := (HB.out.cell (World.block_lt_of_cell? w _ hx2)).trans hx2; replace hx3 := (HB.out.cell (World.block_lt_of_cell? w _ hx3)).trans hx3; replace hx4 := (HB.out.cell (World.block_lt_of_cell? w _ hx4)).trans hx4; replace hx5 := (HB.out.cell (World.block_lt_of_cell? w _ hx5)).trans hx5; replace hx6 := (HB.out.cell (World.block_lt_of_cell? w _ hx6)).trans hx6; replace hx7 := (HB.out.cell (World.block_lt_of_cell? w _ hx7)).trans hx7; have HL2 := Aside0.mk hl2; have HL3 := Aside0.mk hl3; have HL4 := Aside0.mk hl4; have HL5 := Aside0.mk hl5; have HL6 := Aside0.mk hl6; have HI2 := Aside0.mk (Kd.C_below hi2 HB.out); have HI3 := Aside0.mk (Kd.C_below hi3 HB.out); have HI4 := Aside0.mk (Kd.C_below hi4 HB.out); have HI5 := Aside0.mk (Kd.C_below hi5 HB.out); have HI6 := Aside0.mk (Kd.C_below hi6 HB.out); clear hl2 hl3 hl4 hl5 hl6 hi2 hi3 hi4 hi5 hi6; have HW := Aside0.mk (wrap_step c30 c3 HN.out); replace c30 := eq_true c30; replace c3 := eq_true c3; have HV : Aside0 (sum_Lay_1.f (rd_T31 l0 x).f0 (rd_T31 l0 x).f1 (rd_T31 l0 x).f2 (rd_T31 l0 x).f3 (rd_T31 l0 x).f4 (rd_T31 l0 x).f5 (rd_T31 l0 x).f6 (rd_T31 l0 x).f7 = some (badS (rd_T31 l0 x))) := ⟨by unfold sum_Lay_1.f; rw [mask_Valid_eq]; simp⟩; by_cases hz : badS (rd_T31 l0 x) = true
      · have hr : r = x := by
          have h1 := HI.out; rw [HD.out] at h1; have hz2 : badS (l0.getD x.toNat z31) = true := hz; rw [if_pos hz2] at h1; exact h1.symm
        subst hr; go_wp2_with (go_at_call 77; (with_reducible refine (sum_Lay_1.calls _ _ _ _ (rd_T31 l0 r).f2 _ _ (rd_T31 l0 r).f3 _ _ (rd_T31 l0 r).f4 _ _ (rd_T31 l0 r).f5 _ _ (rd_T31 l0 r).f6 _ _ _ HI2.out HL2.out HI3.out HL3.out HI4.out HL4.out HI5.out HL5.out HI6.out HL6.out HV.out).mono ?_); rintro e w2 ⟨rfl, hb2⟩)
        have HB2 := Aside0.mk (below_step HB.out hb2); clear hb2; go_wp2
        go_ret
        exact ⟨rfl, HB2.out⟩
      · have hz1 : badS (rd_T31 l0 x) = false := by simpa using hz
        have HJ : Aside0 (firstIx badS (l0.drop (x + 1).toNat) (x + 1) = r) := ⟨by
          have h1 := HI.out; rw [HD.out] at h1; have hz2 : ¬ badS (l0.getD x.toNat z31) = true := hz; rw [if_neg hz2] at h1; exact h1⟩
        clear hz; go_wp2_with (go_at_call 77; (with_reducible refine (sum_Lay_1.calls _ _ _ _ (rd_T31 l0 x).f2 _ _ (rd_T31 l0 x).f3 _ _ (rd_T31 l0 x).f4 _ _ (rd_T31 l0 x).f5 _ _ (rd_T31 l0 x).f6 _ _ _ HI2.out HL2.out HI3.out HL3.out HI4.out HL4.out HI5.out HL5.out HI6.out HL6.out HV.out).mono ?_); rintro e w2 ⟨rfl, hb2⟩)
        have HB2 := Aside0.mk (below_step HB.out hb2); clear hb2; go_wp2
        go_roundg k1
        case measure => omega
        case rel => exact ⟨x + 1, by first | rfl | rw [HW.out] | (rw [← HW.out]), ⟨by have := HX.out; omega, by have := HX.out; omega⟩, HJ, HB2⟩
def AnyBadS.f (l0 : List S31) : Option Bool := some (l0.any badS)
theorem AnyBadS.calls (A0 : Option Addr) (c0 : Nat) (l0 : List S31) (r : Bool) (w : World) (hr0 : Kd.C k31 w A0 l0.length l0) (hc0 : l0.length ≤ c0) (h : AnyBadS.f l0 = some r) :
    Calls Try.prog 72 #[.slice A0 l0.length c0, .func (.func 77) #[] #[]] w fun e w' => e = .returned (.bool r) ∧ Below w.heap.size w w' := by
  have hn : l0.length ≤ 9223372036854775807 := (Kd.C_max hr0); have hg := firstIx_ge badS l0 0 (by omega); unfold AnyBadS.f at h; obtain rfl := Option.some.inj h; rw [← hg]; clear hg h; go_enter Try.func72, Try.ntmps72
  go_wp2_with (go_at_call 92; refine (AnyBadSIx.calls _ _ _ _ hr0 hn).mono ?_; rintro e w2 ⟨rfl, hb2⟩)
  go_ret
  exact ⟨rfl, hb2⟩

/-! ### CloneI: function 78 (by hand) -/
def CloneI.f (l0 : List Int) : Option (List Int) := if l0.length < 17592186044416 then some l0 else none
theorem CloneI.nilrun (A : Option Addr) (n c : Nat) (W : World) : (binOp .eql 23 (.slice A n c) (.slice none 0 0)).run Try.prog W = .ok (.bool A.isNone) W := Lib.run_eql_slice_nil W 23 3 A n c 0 0 Try.underlying23
set_option maxHeartbeats 8000000 in
set_option maxRecDepth 100000 in
theorem CloneI.calls (A0 : Option Addr) (c0 : Nat) (l0 : List Int) (r : List Int) (w : World) (hr0 : Kd.C (Kd.int .i64) w A0 l0.length l0) (hc0 : l0.length ≤ c0) (h : CloneI.f l0 = some r) :
    Calls Try.prog 78 #[.slice A0 l0.length c0] w fun e w' => ∃ v0_ : Value, e = .returned (v0_) ∧ Kd.R (Kd.int .i64) 3 w' w.heap.size (fun _ => True) v0_ r ∧ Below w.heap.size w w' := by
  have HR0 := Aside0.mk hr0; have HC0 := Aside0.mk hc0; clear hc0; have HB := Aside0.mk (Below.refl w.heap.size w); unfold CloneI.f at h; by_cases c2 : l0.length < 17592186044416
  · rw [if_pos c2] at h
    obtain rfl := Option.some.inj h; clear h; cases A0 with
    | none =>
      have h0 : l0 = [] := by
        rcases Nat.eq_zero_or_pos l0.length with h0 | h0
        · exact List.eq_nil_of_length_eq_zero h0
        · obtain ⟨ad, c, e, _⟩ := Kd.C_get hr0 (0 : Int) 0 (by omega) (by omega)
          cases e
      subst h0; clear hr0 c2; have hn := CloneI.nilrun none 0 c0; simp only [List.length_nil]; simp only [Option.isNone_none] at hn; go_enter Try.func78, Try.ntmps78
      go_wp2
      go_ret
      exact ⟨_, rfl, Kd.R_nil _ _ _ _ _, HB.out⟩
    | some ad =>
      clear hr0; have hn := CloneI.nilrun (some ad) l0.length c0; simp only [Option.isNone_some] at hn; have LMc2 := Aside0.mk c2; clear c2; obtain ⟨y109, hy109⟩ : ∃ y_ : List Int, y_ = (([] : List Int)) := ⟨_, rfl⟩; have Ny109 := Aside0.mk hy109; clear hy109; obtain ⟨y112, hy112⟩ : ∃ y_ : List Int, y_ = (y109 ++ l0) := ⟨_, rfl⟩; have Ny112 := Aside0.mk hy112; clear hy112; go_enter Try.func78, Try.ntmps78
      go_wp2_with (first | ((with_reducible refine gate_dst (N := 5) rfl ?_); refine Kd.R_lit (Kd.int .i64) _ 3 ?hg (N := 5) ?hd (xs := ([] : List Int)) (inner := []) (ok := fun _ => True) (okp := fun _ => True) ?hr ?hp (fun _ hk => hk) trivial (Below.refl _ _) (Nat.le_refl _) (by simp) ?_; (case hd => rfl); (case hg => rfl); (case hr => first | (go_simp; done) | (go_simp; rfl)); (case hp => exact (Reps.none _ _)); intro v110 w3 ho4 hb hg_ hnew_; clear hg_ hnew_; (first | rw [← Ny109.out] at ho4 | (simp only [Int.reduceToNat] at ho4; rw [← Ny109.out] at ho4)); have n0_ := Aside0.mk (Kd.R_lower ho4 (below_size (hb0_ HB.out))); have n1_ := Aside0.mk (below_step (hb0_ HB.out) hb); clear HB; revert n0_ n1_; intro HO111 HB; clear hb ho4) | ((with_reducible refine gate_builtin (b := .append) (xs := #[.tmp 5, .tmp 6]) rfl ?_); at_builtin; refine Kd.R_append_rows (Kd.int .i64) (w0 := w) w.heap.size rfl (.tmp 5) (.tmp 6) 23 3 (.int .i64 0) 8 rfl Try.underlying23 info3 rfl (by decide) (by omega) v110 y109 l0 _ _ _ (fun _ => True) (fun _ => False) rfl rfl ?aO ?aR (fun _ _ h => h) (fun _ h => h.elim) ?aF ?aB ?aS ?aL ?_; (case aR => repeat (first | exact (Kd.C_below HR0.out HB.out) | (with_reducible refine Kd.C_alloc ?_ _) | (with_reducible refine Kd.C_drewN ?_ _) | (with_reducible refine Kd.C_drew ?_))); (case aB => exact (hb0_ HB.out)); (case aF => exact (fun _ _ => trivial)); (case aO => exact (kR_ HO111.out)); (case aS => exact (below_size (hb0_ HB.out))); (case aL => have := LMc2.out; have h1_ := Ny109.out; (rw [h1_]); simp only [List.length_nil]; omega); intro v113 w5 ho hb hg hat; rw [← Ny112.out] at ho; have n0_ := Aside0.mk (hb); have n1_ := Aside0.mk (ho); clear HB HO111; revert n0_ n1_; intro HB HO114; clear ho hb hg hat))
      have hl0 : y112 = l0 := by rw [Ny112.out, Ny109.out]; rfl
      rw [hl0] at HO114; go_ret
      exact ⟨_, rfl, by (with_reducible repeat (first | apply Kd.R_alloc | apply Kd.R_drewN | apply Kd.R_drew)); exact HO114.out, (hb0_ HB.out)⟩
  · rw [if_neg c2] at h
    exact absurd h (by simp)

/-! ### bits_Mul32: function 97 -/
def bits_Mul32.f (a0 : Int) (a1 : Int) : Option (Int × Int) := some (((IntKind.u64.wrap ((IntKind.u64.wrap (a0)) * (IntKind.u64.wrap (a1)))) / 4294967296) % 4294967296, (IntKind.u64.wrap ((IntKind.u64.wrap (a0)) * (IntKind.u64.wrap (a1)))) % 4294967296)
set_option maxHeartbeats 8000000 in
set_option maxRecDepth 100000 in
theorem bits_Mul32.calls (a0 : Int) (a1 : Int) (r1 : Int) (r2 : Int) (w : World) (h : bits_Mul32.f a0 a1 = some (r1, r2)) :
  Calls Try.prog 97 #[.int .u32 a0, .int .u32 a1] w fun e w' => e = .returned (.tuple #[.int .u32 r1, .int .u32 r2]) ∧ Drawn0 w w' := by
 have H : (some (((IntKind.u64.wrap ((IntKind.u64.wrap (a0)) * (IntKind.u64.wrap (a1)))) / 4294967296) % 4294967296, (IntKind.u64.wrap ((IntKind.u64.wrap (a0)) * (IntKind.u64.wrap (a1)))) % 4294967296)) = some (r1, r2) := h; clear h; simp only [Option.some.injEq, Prod.mk.injEq] at H; obtain ⟨rfl, rfl⟩ := H; go_enter Try.func97, Try.ntmps97
 go_wp2
 go_ret2
 exact ⟨rf_, by repeat (first | exact Drawn0.refl _ | apply Drawn0.step)⟩

/-! ### bits_Mul64: function 98 -/
def bits_Mul64.f (a0 : Int) (a1 : Int) : Option (Int × Int) := some (IntKind.u64.wrap ((IntKind.u64.wrap ((IntKind.u64.wrap ((a0 / 4294967296) * (a1 / 4294967296))) + ((IntKind.u64.wrap ((IntKind.u64.wrap ((a0 / 4294967296) * (Go.bits .and .u64 a1 4294967295))) + ((IntKind.u64.wrap ((Go.bits .and .u64 a0 4294967295) * (Go.bits .and .u64 a1 4294967295))) / 4294967296))) / 4294967296))) + ((IntKind.u64.wrap ((Go.bits .and .u64 (IntKind.u64.wrap ((IntKind.u64.wrap ((a0 / 4294967296) * (Go.bits .and .u64 a1 4294967295))) + ((IntKind.u64.wrap ((Go.bits .and .u64 a0 4294967295) * (Go.bits .and .u64 a1 4294967295))) / 4294967296))) 4294967295) + (IntKind.u64.wrap ((Go.bits .and .u64 a0 4294967295) * (a1 / 4294967296))))) / 4294967296)), IntKind.u64.wrap (a0 * a1))
set_option maxHeartbeats 8000000 in
set_option maxRecDepth 100000 in
theorem bits_Mul64.calls (a0 : Int) (a1 : Int) (r1 : Int) (r2 : Int) (w : World) (h : bits_Mul64.f a0 a1 = some (r1, r2)) :
  Calls Try.prog 98 #[.int .u64 a0, .int .u64 a1] w fun e w' => e = .returned (.tuple #[.int .u64 r1, .int .u64 r2]) ∧ Drawn0 w w' := by
 have H : (some (IntKind.u64.wrap ((IntKind.u64.wrap ((IntKind.u64.wrap ((a0 / 4294967296) * (a1 / 4294967296))) + ((IntKind.u64.wrap ((IntKind.u64.wrap ((a0 / 4294967296) * (Go.bits .and .u64 a1 4294967295))) + ((IntKind.u64.wrap ((Go.bits .and .u64 a0 4294967295) * (Go.bits .and .u64 a1 4294967295))) / 4294967296))) / 4294967296))) + ((IntKind.u64.wrap ((Go.bits .and .u64 (IntKind.u64.wrap ((IntKind.u64.wrap ((a0 / 4294967296) * (Go.bits .and .u64 a1 4294967295))) + ((IntKind.u64.wrap ((Go.bits .and .u64 a0 4294967295) * (Go.bits .and .u64 a1 4294967295))) / 4294967296))) 4294967295) + (IntKind.u64.wrap ((Go.bits .and .u64 a0 4294967295) * (a1 / 4294967296))))) / 4294967296)), IntKind.u64.wrap (a0 * a1))) = some (r1, r2) := h; clear h; simp only [Option.some.injEq, Prod.mk.injEq] at H; obtain ⟨rfl, rfl⟩ := H; go_enter Try.func98, Try.ntmps98
 go_wp2
 go_ret2
 exact ⟨rf_, by repeat (first | exact Drawn0.refl _ | apply Drawn0.step)⟩

end Go.Proofs.Ytpcephbhnbfcmaa.I
