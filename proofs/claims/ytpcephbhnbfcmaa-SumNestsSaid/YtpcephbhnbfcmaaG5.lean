-- Written by this session's program fork.py: a Lean function for each Go function and its walk. Not trusted: Lean checks it.
import Derived.Test.YtpcephbhnbfcmaaG0
import Derived.Test.YtpcephbhnbfcmaaG4
namespace Go.Proofs.Ytpcephbhnbfcmaa.G
open Go.RowKit Go.Proofs.YtpcephbhnbfcmaaW.PrintWords Go.Proofs.YtpcephbhnbfcmaaW.PrintLast Go.Proofs.YtpcephbhnbfcmaaW.PrintMore
attribute [local go_sem] max2_int min2_int max_two min_two max_three min_three max_four min_four   -- for this text's walks alone
set_option linter.unusedVariables false
set_option linter.unusedSimpArgs false

/-! ### sum_Lay_1: function 77 -/
def sum_Lay_1.f (a0_0 : Int) (a0_1 : Int) (l0_2 : List Int) (l0_3 : List Int) (l0_4 : List (S101)) (l0_5 : List (S79)) (l0_6 : List Int) (a0_7 : Bool) : Option (Bool) := (mask_Valid.f a0_0 a0_1 l0_2 l0_3 l0_4 l0_5 l0_6 a0_7).bind fun t144 => (some (!t144))
set_option maxHeartbeats 8000000 in
set_option maxRecDepth 100000 in
theorem sum_Lay_1.calls (a0_0 : Int) (a0_1 : Int) (A0_2 : Option Addr) (c0_2 : Nat) (l0_2 : List Int) (A0_3 : Option Addr) (c0_3 : Nat) (l0_3 : List Int) (A0_4 : Option Addr) (c0_4 : Nat) (l0_4 : List (S101)) (A0_5 : Option Addr) (c0_5 : Nat) (l0_5 : List (S79)) (A0_6 : Option Addr) (c0_6 : Nat) (l0_6 : List Int) (a0_7 : Bool) (r : Bool) (w : World) (hr0_2 : Kd.C (Kd.int .u8) w A0_2 l0_2.length l0_2) (hc0_2 : l0_2.length ≤ c0_2) (hr0_3 : Kd.C (Kd.int .i64) w A0_3 l0_3.length l0_3) (hc0_3 : l0_3.length ≤ c0_3) (hr0_4 : Kd.C k101 w A0_4 l0_4.length l0_4) (hc0_4 : l0_4.length ≤ c0_4) (hr0_5 : Kd.C k79 w A0_5 l0_5.length l0_5) (hc0_5 : l0_5.length ≤ c0_5) (hr0_6 : Kd.C (Kd.int .i64) w A0_6 l0_6.length l0_6) (hc0_6 : l0_6.length ≤ c0_6) (h : sum_Lay_1.f a0_0 a0_1 l0_2 l0_3 l0_4 l0_5 l0_6 a0_7 = some r) :
  Calls Try.prog 77 #[.agg #[.int .i64 a0_0, .int .i64 a0_1, .slice A0_2 l0_2.length c0_2, .slice A0_3 l0_3.length c0_3, .slice A0_4 l0_4.length c0_4, .slice A0_5 l0_5.length c0_5, .slice A0_6 l0_6.length c0_6, .bool a0_7]] w fun e w' => e = .returned (.bool r) ∧ Below w.heap.size w w' := by
 have hu31 := Try.underlying31
 have HR0_2 := Aside0.mk hr0_2
 have HC0_2 := Aside0.mk hc0_2
 clear hr0_2 hc0_2
 have HR0_3 := Aside0.mk hr0_3
 have HC0_3 := Aside0.mk hc0_3
 clear hr0_3 hc0_3
 have HR0_4 := Aside0.mk hr0_4
 have HC0_4 := Aside0.mk hc0_4
 clear hr0_4 hc0_4
 have HR0_5 := Aside0.mk hr0_5
 have HC0_5 := Aside0.mk hc0_5
 clear hr0_5 hc0_5
 have HR0_6 := Aside0.mk hr0_6
 have HC0_6 := Aside0.mk hc0_6
 clear hr0_6 hc0_6
 have HB := Aside0.mk (Below.refl w.heap.size w)
 have H : ((mask_Valid.f a0_0 a0_1 l0_2 l0_3 l0_4 l0_5 l0_6 a0_7).bind fun t144 => (some (!t144))) = some r := h
 clear h
 replace H := Option.bind_eq_some_iff.mp H
 obtain ⟨t144, A20, H⟩ := H
 replace H : (some (!t144)) = some r := H
 have A2 := Aside0.mk A20
 clear A20
 obtain rfl := Option.some.inj H
 go_enter Try.func77, Try.ntmps77
 go_wp2_with (first | ((with_reducible refine gate_dst (N := 1) rfl ?_); refine box_event ?hg (N := 1) ?hd (cs := #[.int .i64 a0_0, .int .i64 a0_1, .slice A0_2 l0_2.length c0_2, .slice A0_3 l0_3.length c0_3, .slice A0_4 l0_4.length c0_4, .slice A0_5 l0_5.length c0_5, .slice A0_6 l0_6.length c0_6, .bool a0_7]) (t := 31) ?hr ?_; (case hd => rfl); (case hg => rfl); (case hr => first | (go_simp; done) | (go_simp; rfl)); intro gb143 hg w3 hbox hb; have n0_ := Aside0.mk (below_step (hb0_ HB.out) hb); have n1_ := Aside0.mk (hbox); have n2_ := Aside0.mk ((by rw [hg]; exact (below_size (hb0_ HB.out)) : w.heap.size ≤ gb143)); have n3_ := Aside0.mk ((by rw [hg]; exact (below_size (hb0_ HB.out)) : w.heap.size ≤ gb143)); clear HB; revert n0_ n1_ n2_ n3_; intro HB BK143 GW143 GE143; clear hb hbox hg; obtain ⟨hcz4_0, hcz4_1, hcz4_2, hcz4_3, hcz4_4, hcz4_5, hcz4_6, hcz4_7, hfz4_0, hfz4_1, hfz4_2, hfz4_3, hfz4_4, hfz4_5, hfz4_6, hfz4_7⟩ := bx8_ BK143.out) | ((with_reducible refine gate_callee (f := 56) rfl ?_); refine goesL_ (some 4) rfl rfl Try.func56 (by kernel_rfl) rfl #[.agg #[.int .i64 a0_0, .int .i64 a0_1, .slice A0_2 l0_2.length c0_2, .slice A0_3 l0_3.length c0_3, .slice A0_4 l0_4.length c0_4, .slice A0_5 l0_5.length c0_5, .slice A0_6 l0_6.length c0_6, .bool a0_7]] rfl (by (try simp only [List.map_toArray, List.map_cons, List.map_nil]); first | done | rfl | (simp only [List.length_drop, List.length_take]; rfl)) ?_; (with_reducible refine (mask_Valid.calls a0_0 a0_1 _ _ l0_2 _ _ l0_3 _ _ l0_4 _ _ l0_5 _ _ l0_6 a0_7 t144 _ ?side1 ?side2 ?side3 ?side4 ?side5 ?side6 ?side7 ?side8 ?side9 ?side10 A2.out).mono ?_); (case side1 => exact kD_ (Kd.C_below HR0_2.out HB.out)); (case side2 => exact HC0_2.out); (case side3 => exact kD_ (Kd.C_below HR0_3.out HB.out)); (case side4 => exact HC0_3.out); (case side5 => exact kD_ (Kd.C_below HR0_4.out HB.out)); (case side6 => exact HC0_4.out); (case side7 => exact kD_ (Kd.C_below HR0_5.out HB.out)); (case side8 => exact HC0_5.out); (case side9 => exact kD_ (Kd.C_below HR0_6.out HB.out)); (case side10 => exact HC0_6.out); rintro e w5 ⟨rfl, hb⟩; refine ⟨_, rfl, ?_⟩; have n0_ := Aside0.mk (blk_below (g := gb143) (o := .cells #[.int .i64 a0_0, .int .i64 a0_1, .slice A0_2 l0_2.length c0_2, .slice A0_3 l0_3.length c0_3, .slice A0_4 l0_4.length c0_4, .slice A0_5 l0_5.length c0_5, .slice A0_6 l0_6.length c0_6, .bool a0_7] 31 (0, 0)) (bk_ BK143.out) hb); have n1_ := Aside0.mk (below_step (hb1_ HB.out GE143.out) hb); clear BK143 HB; revert n0_ n1_; intro BK143 HB; (try clear hb); (try clear hb2); (try clear hk); (try clear hi)))
 go_ret
 exact ⟨by first | rfl | (simp [errW_none, errW_some] <;> rfl) | (simp [*, errW_none, errW_some] <;> rfl), (hb1_ HB.out GE143.out)⟩

/-! ### AnyBadP: function 72 (by hand) -/
/-- Is a layout none that could be? -/
def badS (p : S31) : Bool := !(decide (0 ≤ p.f0) && decide (p.f0 ≤ 1024) && (decide (p.f1 = 1) || decide (p.f1 = 8)) && decide ((p.f2.length : Int) = p.f0))
theorem mask_Valid_eq (p : S31) : mask_Valid.f p.f0 p.f1 p.f2 p.f3 p.f4 p.f5 p.f6 p.f7 = some (!(badS p)) := by
  unfold mask_Valid.f badS
  by_cases h0 : 0 ≤ p.f0
  · by_cases h1 : p.f0 ≤ 1024
    · by_cases h2 : p.f1 = 1
      · rw [if_pos h0, if_pos h1, if_pos h2]; simp [h0, h1, h2]
        by_cases h4 : (p.f2.length : Int) = p.f0 <;> simp [h4]
      · by_cases h3 : p.f1 = 8
        · rw [if_pos h0, if_pos h1, if_neg h2, if_pos h3]; simp [h0, h1, h3]
          by_cases h4 : (p.f2.length : Int) = p.f0 <;> simp [h4]
        · rw [if_pos h0, if_pos h1, if_neg h2, if_neg h3]; simp [h2, h3]
    · rw [if_pos h0, if_neg h1]; simp [h1]
  · rw [if_neg h0]; simp [h0]
/-- The first place of a list at which p answers yes, from place k on; -1 if there is none. -/
def firstIx {α : Type} (p : α → Bool) : List α → Int → Int
  | [], _ => -1
  | x :: xs, k => if p x = true then k else firstIx p xs (k + 1)
theorem firstIx_ge {α : Type} (p : α → Bool) : ∀ (l : List α) (k : Int), 0 ≤ k → decide (firstIx p l k ≥ 0) = l.any p
  | [], k, _ => by simp [firstIx]
  | x :: xs, k, h => by
    by_cases hx : p x = true
    · simp [firstIx, hx, h]
    · have := firstIx_ge p xs (k + 1) (by omega)
      simp only [firstIx, hx, List.any_cons]
      simpa using this
theorem firstIx_drop {α : Type} (p : α → Bool) (l : List α) (z : α) (i : Int) (h0 : 0 ≤ i) (h1 : i < l.length) :
    firstIx p (l.drop i.toNat) i = if p (l.getD i.toNat z) = true then i else firstIx p (l.drop (i + 1).toNat) (i + 1) := by
  have h : i.toNat < l.length := by omega
  rw [List.drop_eq_getElem_cons h]
  have e : (i + 1).toNat = i.toNat + 1 := by omega
  rw [e, List.getD_eq_getElem?_getD, List.getElem?_eq_getElem h]
  rfl
theorem wrap_step {i : Int} {n : Nat} (h0 : 0 ≤ i) (h : i < n) (hn : n ≤ 9223372036854775807) : wrap64 (i + 1) = i + 1 := by
  unfold wrap64
  omega
set_option maxHeartbeats 2000000 in
theorem AnyBadPIx.calls (A0 : Option Addr) (c0 : Nat) (l0 : List S31) (w : World) (hr0 : Kd.C k31 w A0 l0.length l0) (hn : l0.length ≤ 9223372036854775807) :
    Calls Try.prog 92 #[.slice A0 l0.length c0, .func (.func 73) #[] #[]] w fun e w' => e = .returned (.int .i64 (firstIx badS l0 0)) ∧ Below w.heap.size w w' := by
  have hu31 := Try.underlying31
  have HR0 := Aside0.mk hr0
  have HN := Aside0.mk hn
  clear hr0 hn
  obtain ⟨r, hr⟩ : ∃ r : Int, firstIx badS l0 0 = r := ⟨_, rfl⟩
  rw [hr]
  have HI : Aside0 (firstIx badS (l0.drop (0 : Int).toNat) 0 = r) := ⟨hr⟩
  clear hr
  go_enter Try.func92, Try.ntmps92
  go_wp2
  go_loopg [8] l0.length (fun kq v8 w' => ∃ (x : Int), v8 = .int .i64 x ∧ Aside0 (0 ≤ x ∧ x + kq = l0.length) ∧ Aside0 (firstIx badS (l0.drop x.toNat) x = r) ∧ Aside0 (Below w.heap.size w w'))
  case atStart => exact ⟨0, rfl, ⟨by omega, by omega⟩, HI, ⟨Below.refl _ _⟩⟩
  case round =>
    clear HI
    obtain ⟨x, rfl, HX, HI, HB⟩ := hrel
    cases gk with
    | zero =>
      have c3b0 : decide (x < (l0.length : Int)) = false := decide_eq_false (by have := HX.out; omega)
      have hr : r = -1 := by
        have h1 := HI.out
        rw [List.drop_of_length_le (by have := HX.out; omega)] at h1
        exact h1.symm
      subst hr
      go_wp2
      go_ret
      exact ⟨rfl, HB.out⟩
    | succ k1 =>
      have c3 : x < (l0.length : Int) := by have := HX.out; omega
      have c30 : 0 ≤ x := HX.out.1
      have HD := Aside0.mk (firstIx_drop badS l0 z31 x c30 c3)
      have c3b0 : decide (x < (l0.length : Int)) = true := decide_eq_true c3
      obtain ⟨ad, A2, c2, A3, c3_, A4, c4, A5, c5, A6, c6, e, hx0, hx1, hx2, hx3, hx4, hx5, hx6, hx7, hl2, hi2, hl3, hi3, hl4, hi4, hl5, hi5, hl6, hi6⟩ := at_T31 HR0.out x c30 c3
      cases e
      replace hx0 := (HB.out.cell (World.block_lt_of_cell? w _ hx0)).trans hx0
      replace hx1 := (HB.out.cell (World.block_lt_of_cell? w _ hx1)).trans hx1
      replace hx2 := (HB.out.cell (World.block_lt_of_cell? w _ hx2)).trans hx2
      replace hx3 := (HB.out.cell (World.block_lt_of_cell? w _ hx3)).trans hx3
      replace hx4 := (HB.out.cell (World.block_lt_of_cell? w _ hx4)).trans hx4
      replace hx5 := (HB.out.cell (World.block_lt_of_cell? w _ hx5)).trans hx5
      replace hx6 := (HB.out.cell (World.block_lt_of_cell? w _ hx6)).trans hx6
      replace hx7 := (HB.out.cell (World.block_lt_of_cell? w _ hx7)).trans hx7
      have HL2 := Aside0.mk hl2; have HL3 := Aside0.mk hl3; have HL4 := Aside0.mk hl4; have HL5 := Aside0.mk hl5; have HL6 := Aside0.mk hl6
      have HI2 := Aside0.mk (Kd.C_below hi2 HB.out); have HI3 := Aside0.mk (Kd.C_below hi3 HB.out); have HI4 := Aside0.mk (Kd.C_below hi4 HB.out); have HI5 := Aside0.mk (Kd.C_below hi5 HB.out); have HI6 := Aside0.mk (Kd.C_below hi6 HB.out)
      clear hl2 hl3 hl4 hl5 hl6 hi2 hi3 hi4 hi5 hi6
      have HW := Aside0.mk (wrap_step c30 c3 HN.out)
      replace c30 := eq_true c30
      replace c3 := eq_true c3
      have HV : Aside0 (product_Lay_1.f (rd_T31 l0 x).f0 (rd_T31 l0 x).f1 (rd_T31 l0 x).f2 (rd_T31 l0 x).f3 (rd_T31 l0 x).f4 (rd_T31 l0 x).f5 (rd_T31 l0 x).f6 (rd_T31 l0 x).f7 = some (badS (rd_T31 l0 x))) := ⟨by unfold product_Lay_1.f; rw [mask_Valid_eq]; simp⟩
      by_cases hz : badS (rd_T31 l0 x) = true
      · have hr : r = x := by
          have h1 := HI.out
          rw [HD.out] at h1
          have hz2 : badS (l0.getD x.toNat z31) = true := hz
          rw [if_pos hz2] at h1
          exact h1.symm
        subst hr
        go_wp2_with (go_at_call 73; (with_reducible refine (product_Lay_1.calls _ _ _ _ (rd_T31 l0 r).f2 _ _ (rd_T31 l0 r).f3 _ _ (rd_T31 l0 r).f4 _ _ (rd_T31 l0 r).f5 _ _ (rd_T31 l0 r).f6 _ _ _ HI2.out HL2.out HI3.out HL3.out HI4.out HL4.out HI5.out HL5.out HI6.out HL6.out HV.out).mono ?_); rintro e w2 ⟨rfl, hb2⟩)
        have HB2 := Aside0.mk (below_step HB.out hb2)
        clear hb2
        go_wp2
        go_ret
        exact ⟨rfl, HB2.out⟩
      · have hz1 : badS (rd_T31 l0 x) = false := by simpa using hz
        have HJ : Aside0 (firstIx badS (l0.drop (x + 1).toNat) (x + 1) = r) := ⟨by
          have h1 := HI.out
          rw [HD.out] at h1
          have hz2 : ¬ badS (l0.getD x.toNat z31) = true := hz
          rw [if_neg hz2] at h1
          exact h1⟩
        clear hz
        go_wp2_with (go_at_call 73; (with_reducible refine (product_Lay_1.calls _ _ _ _ (rd_T31 l0 x).f2 _ _ (rd_T31 l0 x).f3 _ _ (rd_T31 l0 x).f4 _ _ (rd_T31 l0 x).f5 _ _ (rd_T31 l0 x).f6 _ _ _ HI2.out HL2.out HI3.out HL3.out HI4.out HL4.out HI5.out HL5.out HI6.out HL6.out HV.out).mono ?_); rintro e w2 ⟨rfl, hb2⟩)
        have HB2 := Aside0.mk (below_step HB.out hb2)
        clear hb2
        go_wp2
        go_roundg k1
        case measure => omega
        case rel => exact ⟨x + 1, by first | rfl | rw [HW.out] | (rw [← HW.out]), ⟨by have := HX.out; omega, by have := HX.out; omega⟩, HJ, HB2⟩
def AnyBadP.f (l0 : List S31) : Option Bool := some (l0.any badS)
theorem AnyBadP.calls (A0 : Option Addr) (c0 : Nat) (l0 : List S31) (r : Bool) (w : World) (hr0 : Kd.C k31 w A0 l0.length l0) (hc0 : l0.length ≤ c0) (h : AnyBadP.f l0 = some r) :
    Calls Try.prog 72 #[.slice A0 l0.length c0, .func (.func 73) #[] #[]] w fun e w' => e = .returned (.bool r) ∧ Below w.heap.size w w' := by
  have hn : l0.length ≤ 9223372036854775807 := (Kd.C_max hr0)
  have hg := firstIx_ge badS l0 0 (by omega)
  unfold AnyBadP.f at h
  obtain rfl := Option.some.inj h
  rw [← hg]
  clear hg h
  go_enter Try.func72, Try.ntmps72
  go_wp2_with (go_at_call 92; refine (AnyBadPIx.calls _ _ _ _ hr0 hn).mono ?_; rintro e w2 ⟨rfl, hb2⟩)
  go_ret
  exact ⟨rfl, hb2⟩

/-! ### AnyBadS: function 72 (by hand) -/
set_option maxHeartbeats 2000000 in
theorem AnyBadSIx.calls (A0 : Option Addr) (c0 : Nat) (l0 : List S31) (w : World) (hr0 : Kd.C k31 w A0 l0.length l0) (hn : l0.length ≤ 9223372036854775807) :
    Calls Try.prog 92 #[.slice A0 l0.length c0, .func (.func 77) #[] #[]] w fun e w' => e = .returned (.int .i64 (firstIx badS l0 0)) ∧ Below w.heap.size w w' := by
  have hu31 := Try.underlying31
  have HR0 := Aside0.mk hr0
  have HN := Aside0.mk hn
  clear hr0 hn
  obtain ⟨r, hr⟩ : ∃ r : Int, firstIx badS l0 0 = r := ⟨_, rfl⟩
  rw [hr]
  have HI : Aside0 (firstIx badS (l0.drop (0 : Int).toNat) 0 = r) := ⟨hr⟩
  clear hr
  go_enter Try.func92, Try.ntmps92
  go_wp2
  go_loopg [8] l0.length (fun kq v8 w' => ∃ (x : Int), v8 = .int .i64 x ∧ Aside0 (0 ≤ x ∧ x + kq = l0.length) ∧ Aside0 (firstIx badS (l0.drop x.toNat) x = r) ∧ Aside0 (Below w.heap.size w w'))
  case atStart => exact ⟨0, rfl, ⟨by omega, by omega⟩, HI, ⟨Below.refl _ _⟩⟩
  case round =>
    clear HI
    obtain ⟨x, rfl, HX, HI, HB⟩ := hrel
    cases gk with
    | zero =>
      have c3b0 : decide (x < (l0.length : Int)) = false := decide_eq_false (by have := HX.out; omega)
      have hr : r = -1 := by
        have h1 := HI.out
        rw [List.drop_of_length_le (by have := HX.out; omega)] at h1
        exact h1.symm
      subst hr
      go_wp2
      go_ret
      exact ⟨rfl, HB.out⟩
    | succ k1 =>
      have c3 : x < (l0.length : Int) := by have := HX.out; omega
      have c30 : 0 ≤ x := HX.out.1
      have HD := Aside0.mk (firstIx_drop badS l0 z31 x c30 c3)
      have c3b0 : decide (x < (l0.length : Int)) = true := decide_eq_true c3
      obtain ⟨ad, A2, c2, A3, c3_, A4, c4, A5, c5, A6, c6, e, hx0, hx1, hx2, hx3, hx4, hx5, hx6, hx7, hl2, hi2, hl3, hi3, hl4, hi4, hl5, hi5, hl6, hi6⟩ := at_T31 HR0.out x c30 c3
      cases e
      replace hx0 := (HB.out.cell (World.block_lt_of_cell? w _ hx0)).trans hx0
      replace hx1 := (HB.out.cell (World.block_lt_of_cell? w _ hx1)).trans hx1
      replace hx2 := (HB.out.cell (World.block_lt_of_cell? w _ hx2)).trans hx2
      replace hx3 := (HB.out.cell (World.block_lt_of_cell? w _ hx3)).trans hx3
      replace hx4 := (HB.out.cell (World.block_lt_of_cell? w _ hx4)).trans hx4
      replace hx5 := (HB.out.cell (World.block_lt_of_cell? w _ hx5)).trans hx5
      replace hx6 := (HB.out.cell (World.block_lt_of_cell? w _ hx6)).trans hx6
      replace hx7 := (HB.out.cell (World.block_lt_of_cell? w _ hx7)).trans hx7
      have HL2 := Aside0.mk hl2; have HL3 := Aside0.mk hl3; have HL4 := Aside0.mk hl4; have HL5 := Aside0.mk hl5; have HL6 := Aside0.mk hl6
      have HI2 := Aside0.mk (Kd.C_below hi2 HB.out); have HI3 := Aside0.mk (Kd.C_below hi3 HB.out); have HI4 := Aside0.mk (Kd.C_below hi4 HB.out); have HI5 := Aside0.mk (Kd.C_below hi5 HB.out); have HI6 := Aside0.mk (Kd.C_below hi6 HB.out)
      clear hl2 hl3 hl4 hl5 hl6 hi2 hi3 hi4 hi5 hi6
      have HW := Aside0.mk (wrap_step c30 c3 HN.out)
      replace c30 := eq_true c30
      replace c3 := eq_true c3
      have HV : Aside0 (sum_Lay_1.f (rd_T31 l0 x).f0 (rd_T31 l0 x).f1 (rd_T31 l0 x).f2 (rd_T31 l0 x).f3 (rd_T31 l0 x).f4 (rd_T31 l0 x).f5 (rd_T31 l0 x).f6 (rd_T31 l0 x).f7 = some (badS (rd_T31 l0 x))) := ⟨by unfold sum_Lay_1.f; rw [mask_Valid_eq]; simp⟩
      by_cases hz : badS (rd_T31 l0 x) = true
      · have hr : r = x := by
          have h1 := HI.out
          rw [HD.out] at h1
          have hz2 : badS (l0.getD x.toNat z31) = true := hz
          rw [if_pos hz2] at h1
          exact h1.symm
        subst hr
        go_wp2_with (go_at_call 77; (with_reducible refine (sum_Lay_1.calls _ _ _ _ (rd_T31 l0 r).f2 _ _ (rd_T31 l0 r).f3 _ _ (rd_T31 l0 r).f4 _ _ (rd_T31 l0 r).f5 _ _ (rd_T31 l0 r).f6 _ _ _ HI2.out HL2.out HI3.out HL3.out HI4.out HL4.out HI5.out HL5.out HI6.out HL6.out HV.out).mono ?_); rintro e w2 ⟨rfl, hb2⟩)
        have HB2 := Aside0.mk (below_step HB.out hb2)
        clear hb2
        go_wp2
        go_ret
        exact ⟨rfl, HB2.out⟩
      · have hz1 : badS (rd_T31 l0 x) = false := by simpa using hz
        have HJ : Aside0 (firstIx badS (l0.drop (x + 1).toNat) (x + 1) = r) := ⟨by
          have h1 := HI.out
          rw [HD.out] at h1
          have hz2 : ¬ badS (l0.getD x.toNat z31) = true := hz
          rw [if_neg hz2] at h1
          exact h1⟩
        clear hz
        go_wp2_with (go_at_call 77; (with_reducible refine (sum_Lay_1.calls _ _ _ _ (rd_T31 l0 x).f2 _ _ (rd_T31 l0 x).f3 _ _ (rd_T31 l0 x).f4 _ _ (rd_T31 l0 x).f5 _ _ (rd_T31 l0 x).f6 _ _ _ HI2.out HL2.out HI3.out HL3.out HI4.out HL4.out HI5.out HL5.out HI6.out HL6.out HV.out).mono ?_); rintro e w2 ⟨rfl, hb2⟩)
        have HB2 := Aside0.mk (below_step HB.out hb2)
        clear hb2
        go_wp2
        go_roundg k1
        case measure => omega
        case rel => exact ⟨x + 1, by first | rfl | rw [HW.out] | (rw [← HW.out]), ⟨by have := HX.out; omega, by have := HX.out; omega⟩, HJ, HB2⟩
def AnyBadS.f (l0 : List S31) : Option Bool := some (l0.any badS)
theorem AnyBadS.calls (A0 : Option Addr) (c0 : Nat) (l0 : List S31) (r : Bool) (w : World) (hr0 : Kd.C k31 w A0 l0.length l0) (hc0 : l0.length ≤ c0) (h : AnyBadS.f l0 = some r) :
    Calls Try.prog 72 #[.slice A0 l0.length c0, .func (.func 77) #[] #[]] w fun e w' => e = .returned (.bool r) ∧ Below w.heap.size w w' := by
  have hn : l0.length ≤ 9223372036854775807 := (Kd.C_max hr0)
  have hg := firstIx_ge badS l0 0 (by omega)
  unfold AnyBadS.f at h
  obtain rfl := Option.some.inj h
  rw [← hg]
  clear hg h
  go_enter Try.func72, Try.ntmps72
  go_wp2_with (go_at_call 92; refine (AnyBadSIx.calls _ _ _ _ hr0 hn).mono ?_; rintro e w2 ⟨rfl, hb2⟩)
  go_ret
  exact ⟨rfl, hb2⟩

/-! ### CloneI: function 78 (by hand) -/
def CloneI.f (l0 : List Int) : Option (List Int) := if l0.length < 17592186044416 then some l0 else none
theorem CloneI.nilrun (A : Option Addr) (n c : Nat) (W : World) : (binOp .eql 23 (.slice A n c) (.slice none 0 0)).run Try.prog W = .ok (.bool A.isNone) W := Lib.run_eql_slice_nil W 23 3 A n c 0 0 Try.underlying23
set_option maxHeartbeats 8000000 in
set_option maxRecDepth 100000 in
theorem CloneI.calls (A0 : Option Addr) (c0 : Nat) (l0 : List Int) (r : List Int) (w : World) (hr0 : Kd.C (Kd.int .i64) w A0 l0.length l0) (hc0 : l0.length ≤ c0) (h : CloneI.f l0 = some r) :
    Calls Try.prog 78 #[.slice A0 l0.length c0] w fun e w' => ∃ v0_ : Value, e = .returned (v0_) ∧ Kd.R (Kd.int .i64) 3 w' w.heap.size (fun _ => True) v0_ r ∧ Below w.heap.size w w' := by
  have HR0 := Aside0.mk hr0
  have HC0 := Aside0.mk hc0
  clear hc0
  have HB := Aside0.mk (Below.refl w.heap.size w)
  unfold CloneI.f at h
  by_cases c2 : l0.length < 17592186044416
  · rw [if_pos c2] at h
    obtain rfl := Option.some.inj h
    clear h
    cases A0 with
    | none =>
      have h0 : l0 = [] := by
        rcases Nat.eq_zero_or_pos l0.length with h0 | h0
        · exact List.eq_nil_of_length_eq_zero h0
        · obtain ⟨ad, c, e, _⟩ := Kd.C_get hr0 (0 : Int) 0 (by omega) (by omega)
          cases e
      subst h0
      clear hr0 c2
      have hn := CloneI.nilrun none 0 c0
      simp only [List.length_nil]
      simp only [Option.isNone_none] at hn
      go_enter Try.func78, Try.ntmps78
      go_wp2
      go_ret
      exact ⟨_, rfl, Kd.R_nil _ _ _ _ _, HB.out⟩
    | some ad =>
      clear hr0
      have hn := CloneI.nilrun (some ad) l0.length c0
      simp only [Option.isNone_some] at hn
      have LMc2 := Aside0.mk c2
      clear c2
      obtain ⟨y109, hy109⟩ : ∃ y_ : List Int, y_ = (([] : List Int)) := ⟨_, rfl⟩
      have Ny109 := Aside0.mk hy109
      clear hy109
      obtain ⟨y112, hy112⟩ : ∃ y_ : List Int, y_ = (y109 ++ l0) := ⟨_, rfl⟩
      have Ny112 := Aside0.mk hy112
      clear hy112
      go_enter Try.func78, Try.ntmps78
      go_wp2_with (first | ((with_reducible refine gate_dst (N := 5) rfl ?_); refine Kd.R_lit (Kd.int .i64) _ 3 ?hg (N := 5) ?hd (xs := ([] : List Int)) (inner := []) (ok := fun _ => True) (okp := fun _ => True) ?hr ?hp (fun _ hk => hk) trivial (Below.refl _ _) (Nat.le_refl _) (by simp) ?_; (case hd => rfl); (case hg => rfl); (case hr => first | (go_simp; done) | (go_simp; rfl)); (case hp => exact (Reps.none _ _)); intro v110 w3 ho4 hb hg_ hnew_; clear hg_ hnew_; (first | rw [← Ny109.out] at ho4 | (simp only [Int.reduceToNat] at ho4; rw [← Ny109.out] at ho4)); have n0_ := Aside0.mk (Kd.R_lower ho4 (below_size (hb0_ HB.out))); have n1_ := Aside0.mk (below_step (hb0_ HB.out) hb); clear HB; revert n0_ n1_; intro HO111 HB; clear hb ho4) | ((with_reducible refine gate_builtin (b := .append) (xs := #[.tmp 5, .tmp 6]) rfl ?_); at_builtin; refine Kd.R_append_rows (Kd.int .i64) (w0 := w) w.heap.size rfl (.tmp 5) (.tmp 6) 23 3 (.int .i64 0) 8 rfl Try.underlying23 info3 rfl (by decide) (by omega) v110 y109 l0 _ _ _ (fun _ => True) (fun _ => False) rfl rfl ?aO ?aR (fun _ _ h => h) (fun _ h => h.elim) ?aF ?aB ?aS ?aL ?_; (case aR => repeat (first | exact (Kd.C_below HR0.out HB.out) | (with_reducible refine Kd.C_alloc ?_ _) | (with_reducible refine Kd.C_drewN ?_ _) | (with_reducible refine Kd.C_drew ?_))); (case aB => exact (hb0_ HB.out)); (case aF => exact (fun _ _ => trivial)); (case aO => exact (kR_ HO111.out)); (case aS => exact (below_size (hb0_ HB.out))); (case aL => have := LMc2.out; have h1_ := Ny109.out; (rw [h1_]); simp only [List.length_nil]; omega); intro v113 w5 ho hb hg hat; rw [← Ny112.out] at ho; have n0_ := Aside0.mk (hb); have n1_ := Aside0.mk (ho); clear HB HO111; revert n0_ n1_; intro HB HO114; clear ho hb hg hat))
      have hl0 : y112 = l0 := by rw [Ny112.out, Ny109.out]; rfl
      rw [hl0] at HO114
      go_ret
      exact ⟨_, rfl, by (with_reducible repeat (first | apply Kd.R_alloc | apply Kd.R_drewN | apply Kd.R_drew)); exact HO114.out, (hb0_ HB.out)⟩
  · rw [if_neg c2] at h
    exact absurd h (by simp)

/-! ### bits_Mul32: function 97 -/
def bits_Mul32.f (a0 : Int) (a1 : Int) : Option (Int × Int) := some (((IntKind.u64.wrap ((IntKind.u64.wrap (a0)) * (IntKind.u64.wrap (a1)))) / 4294967296) % 4294967296, (IntKind.u64.wrap ((IntKind.u64.wrap (a0)) * (IntKind.u64.wrap (a1)))) % 4294967296)
set_option maxHeartbeats 8000000 in
set_option maxRecDepth 100000 in
theorem bits_Mul32.calls (a0 : Int) (a1 : Int) (r1 : Int) (r2 : Int) (w : World) (h : bits_Mul32.f a0 a1 = some (r1, r2)) :
  Calls Try.prog 97 #[.int .u32 a0, .int .u32 a1] w fun e w' => e = .returned (.tuple #[.int .u32 r1, .int .u32 r2]) ∧ Drawn0 w w' := by
 have H : (some (((IntKind.u64.wrap ((IntKind.u64.wrap (a0)) * (IntKind.u64.wrap (a1)))) / 4294967296) % 4294967296, (IntKind.u64.wrap ((IntKind.u64.wrap (a0)) * (IntKind.u64.wrap (a1)))) % 4294967296)) = some (r1, r2) := h
 clear h
 simp only [Option.some.injEq, Prod.mk.injEq] at H
 obtain ⟨rfl, rfl⟩ := H
 go_enter Try.func97, Try.ntmps97
 go_wp2
 go_ret2
 exact ⟨by first | rfl | (simp; done) | (simp [*]; done), by repeat (first | exact Drawn0.refl _ | apply Drawn0.step)⟩

/-! ### bits_Mul64: function 98 -/
def bits_Mul64.f (a0 : Int) (a1 : Int) : Option (Int × Int) := some (IntKind.u64.wrap ((IntKind.u64.wrap ((IntKind.u64.wrap ((a0 / 4294967296) * (a1 / 4294967296))) + ((IntKind.u64.wrap ((IntKind.u64.wrap ((a0 / 4294967296) * (Go.bits .and .u64 a1 4294967295))) + ((IntKind.u64.wrap ((Go.bits .and .u64 a0 4294967295) * (Go.bits .and .u64 a1 4294967295))) / 4294967296))) / 4294967296))) + ((IntKind.u64.wrap ((Go.bits .and .u64 (IntKind.u64.wrap ((IntKind.u64.wrap ((a0 / 4294967296) * (Go.bits .and .u64 a1 4294967295))) + ((IntKind.u64.wrap ((Go.bits .and .u64 a0 4294967295) * (Go.bits .and .u64 a1 4294967295))) / 4294967296))) 4294967295) + (IntKind.u64.wrap ((Go.bits .and .u64 a0 4294967295) * (a1 / 4294967296))))) / 4294967296)), IntKind.u64.wrap (a0 * a1))
set_option maxHeartbeats 8000000 in
set_option maxRecDepth 100000 in
theorem bits_Mul64.calls (a0 : Int) (a1 : Int) (r1 : Int) (r2 : Int) (w : World) (h : bits_Mul64.f a0 a1 = some (r1, r2)) :
  Calls Try.prog 98 #[.int .u64 a0, .int .u64 a1] w fun e w' => e = .returned (.tuple #[.int .u64 r1, .int .u64 r2]) ∧ Drawn0 w w' := by
 have H : (some (IntKind.u64.wrap ((IntKind.u64.wrap ((IntKind.u64.wrap ((a0 / 4294967296) * (a1 / 4294967296))) + ((IntKind.u64.wrap ((IntKind.u64.wrap ((a0 / 4294967296) * (Go.bits .and .u64 a1 4294967295))) + ((IntKind.u64.wrap ((Go.bits .and .u64 a0 4294967295) * (Go.bits .and .u64 a1 4294967295))) / 4294967296))) / 4294967296))) + ((IntKind.u64.wrap ((Go.bits .and .u64 (IntKind.u64.wrap ((IntKind.u64.wrap ((a0 / 4294967296) * (Go.bits .and .u64 a1 4294967295))) + ((IntKind.u64.wrap ((Go.bits .and .u64 a0 4294967295) * (Go.bits .and .u64 a1 4294967295))) / 4294967296))) 4294967295) + (IntKind.u64.wrap ((Go.bits .and .u64 a0 4294967295) * (a1 / 4294967296))))) / 4294967296)), IntKind.u64.wrap (a0 * a1))) = some (r1, r2) := h
 clear h
 simp only [Option.some.injEq, Prod.mk.injEq] at H
 obtain ⟨rfl, rfl⟩ := H
 go_enter Try.func98, Try.ntmps98
 go_wp2
 go_ret2
 exact ⟨by first | rfl | (simp; done) | (simp [*]; done), by repeat (first | exact Drawn0.refl _ | apply Drawn0.step)⟩

/-! ### bits_Mul: function 94 -/
def bits_Mul.f (a0 : Int) (a1 : Int) : Option (Int × Int) := (bits_Mul64.f a0 a1).bind fun bt145 => (some (bt145.1, bt145.2))
set_option maxHeartbeats 8000000 in
set_option maxRecDepth 100000 in
theorem bits_Mul.calls (a0 : Int) (a1 : Int) (r1 : Int) (r2 : Int) (w : World) (h : bits_Mul.f a0 a1 = some (r1, r2)) :
  Calls Try.prog 94 #[.int .u64 a0, .int .u64 a1] w fun e w' => e = .returned (.tuple #[.int .u64 r1, .int .u64 r2]) ∧ Drawn0 w w' := by
 have H : ((bits_Mul64.f a0 a1).bind fun bt145 => (some (bt145.1, bt145.2))) = some (r1, r2) := h
 clear h
 replace H := Option.bind_eq_some_iff.mp H
 obtain ⟨⟨t145, t146⟩, A30, H⟩ := H
 replace H : (some (t145, t146)) = some (r1, r2) := H
 have A3 := Aside0.mk A30
 clear A30
 simp only [Option.some.injEq, Prod.mk.injEq] at H
 obtain ⟨rfl, rfl⟩ := H
 go_enter Try.func94, Try.ntmps94
 go_wp2_with (first | ((with_reducible refine gate_callee (f := 98) rfl ?_); refine goesL_ (some 25) rfl rfl Try.func98 (by kernel_rfl) rfl #[.int .u64 a0, .int .u64 a1] rfl (by (try simp only [List.map_toArray, List.map_cons, List.map_nil]); first | done | rfl | (simp only [List.length_drop, List.length_take]; rfl)) ?_; (with_reducible refine (bits_Mul64.calls a0 a1 t145 t146 _ A3.out).mono ?_); rintro e w' ⟨rfl, ⟨nd, rfl⟩⟩; refine ⟨_, rfl, ?_⟩))
 go_ret2
 exact ⟨by first | rfl | (simp; done) | (simp [*]; done), by repeat (first | exact Drawn0.refl _ | apply Drawn0.step)⟩

/-! ### Extend: function 46 (by hand) -/
/-- A row of bytes of the call's own whose block may be longer than its capacity. -/
def ExtRow (w : World) (base : Nat) (v : Value) (xs : List Int) : Prop :=
  ∃ g cap cur, v = .slice (some ⟨g, 0, none⟩) xs.length cap ∧ base ≤ g ∧ w.heap[g]? = some (.cells cur 5 (0, 0)) ∧ xs.length ≤ cap ∧ cap ≤ cur.size ∧ xs.length ≤ 1024 ∧ cur.toList.take xs.length = nums .u8 xs
theorem bits_Mul_one : ∀ n : Fin 1025, bits_Mul.f 1 (n.val : Int) = some (0, (n.val : Int)) := by decide +kernel
theorem splice_take (L : List Value) (b m : Nat) (x : Value) (hL : ∀ j, j < b → L[j]? = some x) (hm : m ≤ b) (hb : b + m ≤ L.length) :
    ∀ j, j < b + m → (splice L b (L.take m))[j]? = some x := by
  intro j hj
  unfold splice
  rw [List.getElem?_append]
  simp only [List.length_take]
  split
  · rename_i h
    rw [List.getElem?_take, if_pos (by omega)]
    exact hL j (by omega)
  · rename_i h
    rw [List.getElem?_append]
    simp only [List.length_take]
    rw [if_pos (by omega), List.getElem?_take, if_pos (by omega)]
    exact hL _ (by omega)
theorem callNoZero (n : Nat) (hn : n ≤ 1024) (w : World) (nd : Nat) : ∃ cs : Array Value, (callFunc 95 #[.int .i64 (n : Int)]).run Try.prog (w.drewN nd) = .ok (.value (.slice (some ⟨w.heap.size, 0, none⟩) n cs.size)) ((w.alloc (.cells cs 5)).drewN (nd + 2)) ∧ n ≤ cs.size := by
  obtain ⟨cs, hrunM, hle, _⟩ := Lib.run_makeNoZero (P := Try.prog) (w.drewN nd) #[3] 27 5 Try.underlying27 n (by omega)
  refine ⟨cs, ?_, hle⟩
  rw [run_callFunc_extern Try.func95 (by kernel_rfl) (by kernel_rfl) (by kernel_rfl) (e := Extern.BytealgMakeNoZero.makeNoZero #[3] #[27]) (by kernel_rfl), hrunM]
  rfl
theorem one_src {W : World} {b o : Nat} {x : Value} (h : W.cell? ⟨b, o, none⟩ = some x) : ∀ j v, [x][j]? = some v → W.cell? ((⟨b, o, none⟩ : Addr).add j) = some v := by
  intro j v hj
  rcases j with _ | j
  · simp only [List.getElem?_cons_zero, Option.some.injEq] at hj
    subst hj
    simpa [Go.Addr.add] using h
  · simp at hj
theorem cells_one {L : List Value} {k m : Nat} (h : ∀ j, j < k → L[j]? = some (Value.int .u8 255)) (hm : m ≤ k) {v : Value} (hv : v ∈ L.take m) : v.oneCell' = true := by
  obtain ⟨j, hj⟩ := List.mem_iff_getElem?.1 hv
  rw [List.getElem?_take] at hj
  split at hj
  · rw [h j (by omega)] at hj
    obtain rfl := Option.some.inj hj
    rfl
  · cases hj
theorem self_src {W : World} {g : Nat} {L : List Value} (h : W.heap[g]? = some (.cells L.toArray 5 (0, 0))) (m : Nat) : ∀ j v, (L.take m)[j]? = some v → W.cell? ((⟨g, 0, none⟩ : Addr).add j) = some v := by
  intro j v hj
  rw [List.getElem?_take] at hj
  split at hj
  · rw [add_plain, cell_of_row W g j L.toArray 5 (0, 0) h]
    simpa using hj
  · cases hj
theorem cut1 (g n k : Nat) (h : k < n) (W : World) : (Instr.slice 27 (.slice (some ⟨g, 0, none⟩) n n) (some (.int .i64 (k : Int))) none none).run Try.prog W = .ok (.slice (some ⟨g, k, none⟩) (n - k) (n - k)) W := by
  have hu := Try.underlying27
  have h1 : ¬ (n < k) := by omega
  have h2 : ¬ (n = k) := by omega
  have h3 : (k : Int) ≤ (n : Int) := by omega
  have h0 : (0 : Int) ≤ (k : Int) := by omega
  go_simp
theorem cut2 (g n k : Nat) (h : k < n) (hn : n ≤ 1024) (W : World) : (Instr.slice 27 (.slice (some ⟨g, 0, none⟩) n n) none (some (.int .i64 (k : Int))) none).run Try.prog W = .ok (.slice (some ⟨g, 0, none⟩) k n) W := by
  have hu := Try.underlying27
  have h3 : (k : Int) ≤ (n : Int) := by omega
  have h0 : (0 : Int) ≤ (k : Int) := by omega
  go_simp
theorem info5s : (Try.prog.info? 5).map (·.size) = some 1 := by kernel_rfl
set_option maxHeartbeats 4000000 in
set_option maxRecDepth 100000 in
theorem Repeat.pos (b o c n : Nat) (hn : n ≤ 1024) (h0 : 0 < n) (w : World) (hc : w.cell? ⟨b, o, none⟩ = some (.int .u8 255)) :
    Calls Try.prog 87 #[.slice (some ⟨b, o, none⟩) 1 c, .int .i64 (n : Int)] w fun e w' => ∃ v, e = .returned v ∧ ExtRow w' w.heap.size v (List.replicate n 255) ∧ Below w.heap.size w w' := by
  have HM := Aside0.mk (bits_Mul_one ⟨n, by omega⟩)
  have e0 : ((n : Int) == 0) = false := by simp; omega
  have i0 : (0 : Int) ≤ (n : Int) := by omega
  have i2 : (n : Int) ≤ 1024 := by omega
  have hlt0 : decide ((n : Int) < 0) = false := by simp
  go_enter Try.func87, Try.ntmps87
  go_wp2_with (first | (go_at_call 94; (with_reducible refine (bits_Mul.calls 1 (n : Int) 0 (n : Int) _ HM.out).mono ?_); rintro e w' ⟨rfl, ⟨nd, rfl⟩⟩; obtain ⟨cs, hcall, hle⟩ := callNoZero n hn w nd; have i1 : (n : Int) ≤ (cs.size : Int) := (by omega)) | ((with_reducible refine gate_builtin (b := .copy) (xs := #[.tmp 58, .tmp 59]) rfl ?_); refine wpList_copy_splice (by rfl) (.tmp 58) (.tmp 59) 27 27 (by rfl) 5 Try.underlying27 info5s (some ⟨w.heap.size, 0, none⟩) (some ⟨b, o, none⟩) n n 1 c (by rfl) (by rfl) w.heap.size 0 cs.toList 5 ?hg [.int .u8 255] ?hn ?hpos ?hfit ?h1 w.heap.size w ?hb ?hBg ?_; (case hg => exact heap_alloc_new w _); (case hn => show (1 : Nat) = min 1 n; omega); (case hpos => exact fun _ => ⟨rfl, ⟨b, o, none⟩, rfl, one_src ((World.cell?_alloc_lt w (.cells cs 5) ⟨b, o, none⟩ (World.block_lt_of_cell? w _ hc)).trans hc)⟩); (case hfit => simp; omega); (case h1 => simp [Value.oneCell']); (case hb => exact pw_below_drewN ((Below.refl _ _).alloc (Nat.le_refl _) _) _); (case hBg => exact Nat.le_refl _); intro w3 hg3 hb3; have HG3 := Aside0.mk hg3.out; have HB3 := Aside0.mk hb3; clear hg3 hb3))
  have H3 : ∀ j, j < 1 → (splice cs.toList 0 [Value.int .u8 255])[j]? = some (.int .u8 255) := by
    intro j hj
    obtain rfl : j = 0 := by omega
    simp [splice]
  have L3 : (splice cs.toList 0 [Value.int .u8 255]).length = cs.size := by
    rw [length_splice _ _ _ (by simp; omega)]
    simp
  obtain ⟨LL, hLL⟩ : ∃ LL, splice cs.toList 0 [Value.int .u8 255] = LL := ⟨_, rfl⟩
  rw [hLL] at HG3 H3 L3
  clear hLL
  have HH3 := Aside0.mk H3
  have HL3 := Aside0.mk L3
  clear H3 L3
  go_loopg [10] (n - 1) (fun kq v10 wr => ∃ (k : Nat) (L : List Value), v10 = .int .i64 k ∧ Aside0 (1 ≤ k ∧ k ≤ n ∧ kq = n - k) ∧ Aside0 (L.length = cs.size) ∧ Aside0 (∀ j, j < k → L[j]? = some (.int .u8 255)) ∧ Aside0 (wr.heap[w.heap.size]? = some (.cells L.toArray 5 (0, 0))) ∧ Aside0 (Below w.heap.size w wr))
  case atStart => exact ⟨1, LL, rfl, ⟨by omega, by omega, by omega⟩, HL3, HH3, HG3, HB3⟩
  case round =>
    clear HL3 HH3 HG3 HB3
    obtain ⟨k, L, rfl, HK, HL, HH, HG, HB⟩ := hrel
    by_cases hkn : k < n
    · have hk1 := HK.out.1
      go_wp2
      have s0 : (0 : Int) ≤ (k : Int) := by omega
      have s1 : (k : Int) ≤ (n : Int) := by omega
      have HC := Aside0.mk hle
      obtain ⟨m, hm⟩ : ∃ m, m = min k (n - k) := ⟨_, rfl⟩
      have HMM := Aside0.mk hm
      have HM1 := Aside0.mk (show m ≤ k by omega)
      have HM2 := Aside0.mk (show k + m ≤ n by omega)
      have HM3 := Aside0.mk (show 1 ≤ m by omega)
      have m0 : (0 : Int) ≤ (m : Int) := by omega
      have m1 : (k : Int) + (m : Int) ≤ 1024 := by omega
      have HLM := Aside0.mk (show (L.take m).length = m by rw [List.length_take]; have := HL.out; omega)
      have HW := Aside0.mk (show wrap64 ((k : Int) + (m : Int)) = ((k + m : Nat) : Int) by unfold wrap64; omega)
      clear hm
      have hcut1 : ∀ W, (Instr.slice 27 (.slice (some ⟨w.heap.size, 0, none⟩) n n) (some (.int .i64 (k : Int))) none none).run Try.prog W = .ok (.slice (some ⟨w.heap.size, k, none⟩) (n - k) (n - k)) W := cut1 w.heap.size n k hkn
      have hcut2 : ∀ W, (Instr.slice 27 (.slice (some ⟨w.heap.size, 0, none⟩) n n) none (some (.int .i64 (k : Int))) none).run Try.prog W = .ok (.slice (some ⟨w.heap.size, 0, none⟩) k n) W := cut2 w.heap.size n k hkn hn
      replace HG : Aside0 (wr.drew.heap[w.heap.size]? = some (.cells L.toArray 5 (0, 0))) := ⟨HG.out⟩
      replace HB : Aside0 (Below w.heap.size w wr.drew) := ⟨below_drew HB.out⟩
      refine start_ (n := 10) (S := fun w' => True) (ds := []) #[false, false, false, false, false, false, false, false, false, false] (by kernel_rfl) rfl rfl trivial (fun hHeld => ?_)
      generalize wr.drew = w4 at HG HB hHeld ⊢
      refine pure_ (i := 0) (N := some 67) (v := ?_) (a' := ?_) #[true, false, false, false, false, false, false, false, false, false] rfl rfl (by kernel_rfl) (fun _ _ _ h => h) (Or.inl ⟨by rfl, ?_⟩) ?_ ?_
      rotate_left
      · intro w'
        go_simp
        with_reducible rfl
      rotate_left
      · simp only [Act.put, List.setIfInBounds_toArray, List.set_cons_zero, List.set_cons_succ, i64_w, i32_w]
        rfl
      refine pure_ (i := 1) (N := some 68) (v := ?_) (a' := ?_) #[true, true, false, false, false, false, false, false, false, false] rfl rfl (by kernel_rfl) (fun _ _ _ h => h) (Or.inl ⟨by rfl, ?_⟩) ?_ ?_
      rotate_left
      · intro w'
        go_simp
        with_reducible rfl
      rotate_left
      · simp only [Act.put, List.setIfInBounds_toArray, List.set_cons_zero, List.set_cons_succ, i64_w, i32_w]
        rfl
      refine pure_ (i := 2) (N := some 69) (v := ?_) (a' := ?_) #[true, true, true, false, false, false, false, false, false, false] rfl rfl (by kernel_rfl) (fun _ _ _ h => h) (Or.inl ⟨by rfl, ?_⟩) ?_ ?_
      rotate_left
      · intro w'
        go_simp
        with_reducible rfl
      rotate_left
      · simp only [Act.put, List.setIfInBounds_toArray, List.set_cons_zero, List.set_cons_succ, i64_w, i32_w]
        rfl
      refine pure_ (i := 3) (N := some 70) (v := ?_) (a' := ?_) #[true, true, true, true, false, false, false, false, false, false] rfl rfl (by kernel_rfl) (fun _ _ _ h => h) (Or.inl ⟨by rfl, ?_⟩) ?_ ?_
      rotate_left
      · intro w'
        go_simp
        with_reducible rfl
      rotate_left
      · simp only [Act.put, List.setIfInBounds_toArray, List.set_cons_zero, List.set_cons_succ, i64_w, i32_w]
        rfl
      refine pure_ (i := 4) (N := some 71) (v := ?_) (a' := ?_) #[true, true, true, true, true, false, false, false, false, false] rfl rfl (by kernel_rfl) (fun _ _ _ h => h) (Or.inl ⟨by rfl, ?_⟩) ?_ ?_
      rotate_left
      · intro w'
        go_simp
        with_reducible rfl
      rotate_left
      · simp only [Act.put, List.setIfInBounds_toArray, List.set_cons_zero, List.set_cons_succ, i64_w, i32_w]
        rfl
      refine pure_ (i := 5) (N := some 72) (v := ?_) (a' := ?_) #[true, true, true, true, true, true, false, false, false, false] rfl rfl (by kernel_rfl) (fun _ _ _ h => h) (Or.inl ⟨by rfl, ?_⟩) ?_ ?_
      rotate_left
      · intro w'
        go_simp
        with_reducible rfl
      rotate_left
      · simp only [Act.put, List.setIfInBounds_toArray, List.set_cons_zero, List.set_cons_succ, i64_w, i32_w]
        rfl
      refine pure_ (i := 6) (N := some 73) (v := ?_) (a' := ?_) #[true, true, true, true, true, true, true, false, false, false] rfl rfl (by kernel_rfl) (fun _ _ _ h => h) (Or.inl ⟨by rfl, ?_⟩) ?_ ?_
      rotate_left
      · intro w'
        go_simp
        with_reducible rfl
      rotate_left
      · simp only [Act.put, List.setIfInBounds_toArray, List.set_cons_zero, List.set_cons_succ, i64_w, i32_w]
        rfl
      refine one_ (i := 7) (N := some 74) #[true, true, true, true, true, true, true, true, false, false] rfl rfl (by kernel_rfl) (by decide) (fun K hK => ?_)
      refine step_copy_splice (by rfl) (.tmp 70) (.tmp 73) 27 27 (by rfl) 5 Try.underlying27 info5s (some ⟨w.heap.size, k, none⟩) (some ⟨w.heap.size, 0, none⟩) (n - k) (n - k) k n (by rfl) (by rfl) w.heap.size k L 5 ?hg (L.take m) ?hn ?hpos ?hfit ?h1 w.heap.size w ?hb ?hBg ?_
      (case hg => exact HG.out)
      (case hn => show _ = min k (n - k); rw [HLM.out]; exact HMM.out)
      (case hpos => exact fun _ => ⟨rfl, _, rfl, self_src HG.out _⟩)
      (case hfit => rw [HLM.out]; have := HL.out; have := HC.out; have := HM2.out; omega)
      (case h1 => exact fun v hv => cells_one HH.out HM1.out hv)
      (case hb => exact HB.out)
      (case hBg => exact Nat.le_refl _)
      intro w5 hg5 hb5
      have HG5 := Aside0.mk hg5.out
      have HB5 := Aside0.mk hb5
      clear hg5 hb5
      rw [HLM.out]
      refine hK.out _ _ trivial (fun hHeld => ?_)
      clear hK K
      refine norm_ (a' := ?_) ?_ ?_
      rotate_left
      · show Act.put _ (some 74) _ = _
        simp only [Act.put, List.setIfInBounds_toArray, List.set_cons_zero, List.set_cons_succ, i64_w, i32_w]
        rfl
      refine pure_ (i := 8) (N := some 75) (v := ?_) (a' := ?_) #[true, true, true, true, true, true, true, true, true, false] rfl rfl (by kernel_rfl) (fun _ _ _ h => h) (Or.inl ⟨by rfl, ?_⟩) ?_ ?_
      rotate_left
      · intro w'
        go_simp
        with_reducible rfl
      rotate_left
      · simp only [Act.put, List.setIfInBounds_toArray, List.set_cons_zero, List.set_cons_succ, i64_w, i32_w]
        rfl
      refine pure_ (i := 9) (N := some 10) (v := ?_) (a' := ?_) #[true, true, true, true, true, true, true, true, true, true] rfl rfl (by kernel_rfl) (fun _ _ _ h => h) (Or.inl ⟨by rfl, ?_⟩) ?_ ?_
      rotate_left
      · intro w'
        go_simp
        with_reducible rfl
      rotate_left
      · simp only [Act.put, List.setIfInBounds_toArray, List.set_cons_zero, List.set_cons_succ, i64_w, i32_w]
        rfl
      refine done_ (by kernel_rfl) ?_

      go_wp2
      go_roundg (n - (k + m))
      case measure => have := HK.out; have := HM3.out; have := HM2.out; omega
      case rel => exact ⟨k + m, splice L k (L.take m), by rw [HW.out], ⟨by omega, HM2.out, rfl⟩, ⟨by rw [length_splice _ _ _ (by rw [HLM.out]; have := HL.out; have := HC.out; have := HM2.out; omega)]; exact HL.out⟩, ⟨splice_take L k m _ HH.out HM1.out (by have := HL.out; have := HC.out; have := HM2.out; omega)⟩, HG5, HB5⟩
    · obtain rfl : k = n := by have := HK.out; omega
      clear hkn
      have hl : decide (k < k) = false := by simp
      go_wp2
      go_ret
      refine ⟨_, rfl, ⟨w.heap.size, k, L.toArray, by simp, Nat.le_refl _, HG.out, by simp, by simp [HL.out]; omega, by simp; omega, ?_⟩, HB.out⟩
      apply List.ext_getElem?
      intro j
      have hL := HL.out
      by_cases hj : j < k
      · rw [List.getElem?_take, if_pos (by simpa using hj)]
        rw [show L.toArray.toList[j]? = L[j]? from rfl, HH.out j hj]
        simp [nums, hj]
      · rw [List.getElem?_eq_none (by simp; omega), List.getElem?_eq_none (by simp [nums]; omega)]
theorem ExtRow_nil (w : World) (g : Nat) (base : Nat) (hb : base ≤ g) (cur : Array Value) (h : w.heap[g]? = some (.cells cur 5 (0, 0))) : ExtRow w base (.slice (some ⟨g, 0, none⟩) 0 0) [] :=
  ⟨g, 0, cur, rfl, hb, h, Nat.le_refl _, Nat.zero_le _, by simp, by simp [nums]⟩
theorem Repeat.zero (b o c : Nat) (w : World) :
    Calls Try.prog 87 #[.slice (some ⟨b, o, none⟩) 1 c, .int .i64 (0 : Int)] w fun e w' => ∃ v, e = .returned v ∧ ExtRow w' w.heap.size v [] ∧ Below w.heap.size w w' := by
  go_enter Try.func87, Try.ntmps87
  go_wp2
  go_ret
  exact ⟨_, rfl, ExtRow_nil _ w.heap.size _ (Nat.le_refl _) _ (heap_alloc_new w _), (Below.refl _ _).alloc (Nat.le_refl _) _⟩
theorem Repeat.all (b o c n : Nat) (hn : n ≤ 1024) (w : World) (hc : w.cell? ⟨b, o, none⟩ = some (.int .u8 255)) :
    Calls Try.prog 87 #[.slice (some ⟨b, o, none⟩) 1 c, .int .i64 (n : Int)] w fun e w' => ∃ v, e = .returned v ∧ ExtRow w' w.heap.size v (List.replicate n 255) ∧ Below w.heap.size w w' := by
  rcases Nat.eq_zero_or_pos n with h | h
  · subst h
    exact Repeat.zero b o c w
  · exact Repeat.pos b o c n hn h w hc
theorem src_of_C {w : World} {A : Option Addr} {n : Nat} {xs : List Int} (h : Kd.C (Kd.int .u8) w A n xs) (hp : 0 < n) : ∃ ad, A = some ad ∧ ∀ j v, (nums .u8 xs)[j]? = some v → w.cell? (ad.add j) = some v := by
  have hl : xs.length = n := h.1
  obtain ⟨ad, e, _⟩ := Kd.at_int h 0 (by omega) (by omega)
  refine ⟨ad, e, fun j v hj => ?_⟩
  have hlt : j < xs.length := by
    rcases Nat.lt_or_ge j xs.length with h1 | h1
    · exact h1
    · rw [List.getElem?_eq_none (by simpa [nums] using h1)] at hj
      cases hj
  obtain ⟨ad2, e2, hc⟩ := Kd.at_int h (j : Int) (by omega) (by omega)
  rw [e] at e2
  obtain rfl := Option.some.inj e2
  rw [Int.toNat_natCast] at hc
  rw [hc, ← hj]
  simp [nums, rd, List.getElem?_eq_getElem hlt, List.getD_eq_getElem?_getD]
theorem take_splice0 (cur : List Value) (cs : List Value) (n : Nat) (h : cs.length ≤ n) : (splice cur 0 cs).take n = cs ++ (cur.take n).drop cs.length := by
  unfold splice
  simp only [List.take_zero, List.nil_append, Nat.zero_add]
  rw [List.take_append, List.take_of_length_le h, List.drop_take]
theorem nums_take_some {k : IntKind} {xs : List Int} {n j : Nat} {v : Value} (h : (nums k (xs.take n))[j]? = some v) : (nums k xs)[j]? = some v := by
  unfold nums at h ⊢
  rw [List.map_take, List.getElem?_take] at h
  split at h
  · exact h
  · cases h
theorem nums_one {k : IntKind} {xs : List Int} {v : Value} (h : v ∈ nums k xs) : v.oneCell' = true := by
  unfold nums at h
  obtain ⟨x, _, rfl⟩ := List.mem_map.1 h
  rfl
def ext (l0 : List Int) (a1 : Int) : List Int := l0.take (min (max a1 0) 1024).toNat ++ List.replicate ((min (max a1 0) 1024).toNat - l0.length) 255
theorem ext_n (l0 : List Int) (a1 : Int) (n : Nat) (h : (n : Int) = min (max a1 0) 1024) : ext l0 a1 = l0.take n ++ List.replicate (n - l0.length) 255 := by
  unfold ext
  rw [← h]
  rfl
theorem ext_row {w : World} {base g cap n : Nat} {cur : Array Value} (l0 : List Int) (hb : base ≤ g) (hn : n ≤ 1024) (hcap : n ≤ cap) (hcur : cap ≤ cur.size) (ht : cur.toList.take n = nums .u8 (List.replicate n 255))
    (h : w.heap[g]? = some (.cells (splice cur.toList 0 (nums .u8 (l0.take n))).toArray 5 (0, 0))) : ExtRow w base (.slice (some ⟨g, 0, none⟩) n cap) (l0.take n ++ List.replicate (n - l0.length) 255) := by
  have hl : (l0.take n ++ List.replicate (n - l0.length) 255).length = n := by simp; omega
  have hcl : (nums .u8 (l0.take n)).length = min n l0.length := by simp [nums]
  refine ⟨g, cap, _, by rw [hl], hb, h, by rw [hl]; exact hcap, ?_, by rw [hl]; exact hn, ?_⟩
  · rw [List.size_toArray, length_splice _ _ _ (by rw [hcl]; simp only [Array.length_toList]; omega), Array.length_toList]
    exact hcur
  · rw [hl]
    show (splice cur.toList 0 (nums .u8 (l0.take n))).take n = _
    rw [take_splice0 _ _ _ (by rw [hcl]; omega), ht, nums_append, hcl]
    congr 1
    simp [nums]
    omega
set_option maxHeartbeats 2000000 in
set_option maxRecDepth 100000 in
theorem ExtendS.calls (A0 : Option Addr) (c0 : Nat) (l0 : List Int) (a1 : Int) (w : World) (hr0 : Kd.C (Kd.int .u8) w A0 l0.length l0) :
    Calls Try.prog 46 #[.slice A0 l0.length c0, .int .i64 a1] w fun e w' => ∃ v, e = .returned v ∧ ExtRow w' w.heap.size v (ext l0 a1) ∧ Below w.heap.size w w' := by
  obtain ⟨n, hn⟩ : ∃ n : Nat, (n : Int) = min (max a1 0) 1024 := ⟨(min (max a1 0) 1024).toNat, by omega⟩
  rw [ext_n l0 a1 n hn]
  have hn1 : n ≤ 1024 := by omega
  obtain ⟨j1, hj1⟩ : ∃ j : Int, (if 1024 < a1 then 1024 else a1) = j := ⟨_, rfl⟩
  have hj2 : (if 0 < j1 then j1 else 0) = (n : Int) := by
    split at hj1 <;> split <;> omega
  have HR := Aside0.mk hr0
  have HN := Aside0.mk hn1
  clear hn hr0 hn1
  go_enter Try.func46, Try.ntmps46
  go_wp2_with (first | (go_at_call 87; (with_reducible refine (Repeat.all w.heap.size 0 1 n HN.out _ (by simp)).mono ?_); rintro e w2 ⟨v2, rfl, hx, hb⟩; obtain ⟨g, cap, cur, hv, hg, hh, h1, h2, h3, h4⟩ := hx; rw [List.length_replicate] at hv h1 h3 h4; subst hv; have HB := Aside0.mk hb; have HG := Aside0.mk hg; have HH := Aside0.mk hh; have H1 := Aside0.mk h1; have H2 := Aside0.mk h2; have H4 := Aside0.mk h4; clear hb hg hh h1 h2 h3 h4) | ((with_reducible refine gate_builtin (b := .copy) (xs := #[.tmp 12, .tmp 13]) rfl ?_); refine wpList_copy_splice (by rfl) (.tmp 12) (.tmp 13) 27 27 (by rfl) 5 Try.underlying27 info5s (some ⟨g, 0, none⟩) A0 n cap l0.length c0 (by rfl) (by rfl) g 0 cur.toList 5 ?hg (nums .u8 (l0.take n)) ?hn ?hpos ?hfit ?h1 w.heap.size w ?hb ?hBg ?_; (case hg => exact HH.out); (case hn => show _ = min l0.length n; simp [nums]; omega); (case hpos => intro hp_; have hlp_ : 0 < l0.length := (by rw [nums_length, List.length_take] at hp_; omega); obtain ⟨ad_, ea_, hs_⟩ := src_of_C (Kd.C_below (Kd.C_below HR.out (below_alloc (Below.refl _ _) _)) HB.out) hlp_; exact ⟨rfl, ad_, ea_, fun j v hj => hs_ j v (nums_take_some hj)⟩); (case hfit => rw [nums_length, List.length_take]; have := H1.out; have := H2.out; simp only [Array.length_toList]; omega); (case h1 => exact fun v hv => nums_one hv); (case hb => exact below_step (below_alloc (Below.refl _ _) _) HB.out); (case hBg => have h_ := HG.out; simp only [World.size_alloc] at h_; omega); intro w3 hg3 hb3; have HG3 := Aside0.mk hg3.out; have HB3 := Aside0.mk hb3; clear hg3 hb3))
  go_ret
  exact ⟨_, rfl, ext_row l0 (by have h_ := HG.out; simp only [World.size_alloc] at h_; omega) HN.out H1.out H2.out H4.out HG3.out, HB3.out⟩
theorem ExtRow.toV {w : World} {base : Nat} {v : Value} {xs : List Int} (h : ExtRow w base v xs) : Kd.V (Kd.int .u8) 5 w base (fun k_ => base ≤ k_) v xs := by
  obtain ⟨g, cap, cur, rfl, hb, hh, h1, h2, h3, h4⟩ := h
  refine Kd.V_mk h1 ?_
  intro W' hW
  have hlt : g < w.heap.size := (Array.getElem?_eq_some_iff.1 hh).1
  have hg : W'.heap[g]? = some (.cells cur 5 (0, 0)) := (hW g hb hlt).trans hh
  refine Kd.C_of_reads (d := (0 : Int)) (h1 := fun _ => rfl) ⟨rfl, by omega, fun hp => ⟨⟨g, 0, none⟩, rfl, fun j hj => ?_⟩⟩
  rw [add_plain, cell_of_row W' g j cur 5 (0, 0) hg]
  have e : cur.toList[j]? = (nums .u8 xs)[j]? := by
    rw [← h4, List.getElem?_take, if_pos hj]
  rw [← Array.getElem?_toList, e]
  simp [nums, List.getElem?_eq_getElem hj, List.getD_eq_getElem?_getD]
def Extend.f (l0 : List Int) (a1 : Int) : Option (List Int) := some (ext l0 a1)
theorem Extend.calls (A0 : Option Addr) (c0 : Nat) (l0 : List Int) (a1 : Int) (r : List Int) (w : World) (hr0 : Kd.C (Kd.int .u8) w A0 l0.length l0) (hc0 : l0.length ≤ c0) (h : Extend.f l0 a1 = some r) :
    Calls Try.prog 46 #[.slice A0 l0.length c0, .int .i64 a1] w fun e w' => ∃ v0_ : Value, e = .returned (v0_) ∧ Kd.V (Kd.int .u8) 5 w' w.heap.size (fun k_ => (w.heap.size ≤ k_)) v0_ r ∧ Below w.heap.size w w' := by
  unfold Extend.f at h
  obtain rfl := Option.some.inj h
  refine (ExtendS.calls A0 c0 l0 a1 w hr0).mono ?_
  rintro e w' ⟨v, rfl, hx, hb⟩
  exact ⟨v, rfl, hx.toV, hb⟩

end Go.Proofs.Ytpcephbhnbfcmaa.G
