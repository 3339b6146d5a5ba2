-- Written by this session's program fork.py: a Lean function for each Go function and its walk. Not trusted: Lean checks it.
import Derived.Test.YtpcephbhnbfcmaaR0
import Derived.Test.YtpcephbhnbfcmaaR1
import Derived.Test.YtpcephbhnbfcmaaR3
namespace Go.Proofs.Ytpcephbhnbfcmaa.R
open Go.RowKit Go.Proofs.YtpcephbhnbfcmaaW.PrintWords Go.Proofs.YtpcephbhnbfcmaaW.PrintLast Go.Proofs.YtpcephbhnbfcmaaW.PrintMore
attribute [local go_sem] max2_int min2_int max_two min_two max_three min_three max_four min_four   -- for this text's walks alone
set_option linter.unusedVariables false
set_option linter.unusedSimpArgs false

open List (setIfInBounds_toArray set_cons_zero set_cons_succ)
/-! ### the builtin copy into a row of the call's own -/
def cpy : List Int → Nat → List Int → List Int
  | xs, _, [] => xs
  | xs, off, y :: ys => cpy (xs.set off y) (off + 1) ys
theorem cpy_length : ∀ (ys xs : List Int) (off : Nat), (cpy xs off ys).length = xs.length
  | [], _, _ => rfl
  | y :: ys, xs, off => by rw [cpy, cpy_length ys, List.length_set]
theorem cpy_row {base g n cap : Nat} {ok : Nat → Prop} : ∀ (ys xs : List Int) (off : Nat) (W : World), Kd.R (Kd.int .u8) 5 W base ok (.slice (some ⟨g, 0, none⟩) n cap) xs →
    Kd.R (Kd.int .u8) 5 (W.setCells g off (nums .u8 ys)) base ok (.slice (some ⟨g, 0, none⟩) n cap) (cpy xs off ys) ∧ W.grownBy (W.setCells g off (nums .u8 ys)) (some g)
  | [], xs, off, W, h => ⟨h, World.grownBy.refl _ _⟩
  | y :: ys, xs, off, W, h => by
    obtain ⟨h1, h2⟩ := Kd.R_putg (enc := Value.int .u8) (h1 := fun _ => rfl) h (off : Int) y; rw [Int.toNat_natCast] at h1 h2; obtain ⟨h3, h4⟩ := cpy_row ys (xs.set off y) (off + 1) _ h1; exact ⟨h3, h2.trans h4⟩
theorem info5c : (Try.prog.info? 5).map (·.size) = some 1 := by kernel_rfl
set_option maxRecDepth 100000 in
theorem copy_ev_ {w : World} {ops : Array Oper} {rest : List Oper} {o : Oper} {a : Act} {Q : Exit → Act → World → Prop} (hgd : o.guard = none) (d s : Operand) (dT sT : TypeId)
    (ho : o.op = .call { callee := .builtin .copy, args := #[d, s], argTypes := #[dT, sT] }) (hu : Try.prog.underlying dT = some (.slice 5)) {off base n cap dLen dCap c : Nat} {ok : Nat → Prop} {xs ys : List Int} {A0 dp A : Option Addr}
    (hd : a.eval d = .slice dp dLen dCap) (hs : a.eval s = .slice A ys.length c) (HO : Kd.R (Kd.int .u8) 5 w base ok (.slice A0 n cap) xs) (HC : (Kd.int .u8).C w A ys.length ys)
    (hf : off + ys.length ≤ xs.length) (hl : dLen = n - off) (ha : dp = if cap = off then A0 else A0.map (·.add (off * 1)))
    (h : ∀ w', Kd.R (Kd.int .u8) 5 w' base ok (.slice A0 n cap) (cpy xs off ys) → w.grownBy w' (Value.slice A0 n cap).ownBlock → wpList Try.prog ops Q rest (a.put o.dst (goInt ys.length)) w') : wpList Try.prog ops Q (o :: rest) a w := by
  obtain ⟨rfl, hcap, _⟩ := Kd.R_reads' HO; by_cases h0 : ys = []
  · subst h0
    exact wpList_copy_nothing hgd d s dT sT ho 5 hu info5c dp A dLen dCap 0 c hd hs (Nat.zero_min _) (h w HO (World.grownBy.refl _ _))
  · have hpos : 0 < ys.length := List.length_pos_iff.2 h0
    have HO' := HO; obtain ⟨hok, inner, hown, _⟩ := HO'; rcases hown.2 with ⟨he, _⟩ | ⟨g, cp, cur, he, hbg, hh, hrest⟩
    · injection he with h1 h2 h3
      omega
    · injection he with h1 h2 h3
      subst h1; subst h3; obtain ⟨h4, h5⟩ := cpy_row ys xs off w HO; refine wpList_plain hgd fun K hK => ?_; obtain ⟨_, _, hsrc⟩ := HC; obtain ⟨ad, rfl, hel⟩ := hsrc hpos; have hdp : dp = some ⟨g, off, none⟩ := by
        rw [ha, if_neg (by omega)]; simp only [Option.map_some, Nat.mul_one]; congr 1
        unfold Addr.add; split <;> simp_all
      have hrun := run_copy_cells (P := Try.prog) w dT sT o.type 5 g off dLen dCap ad ys.length c (nums .u8 ys) hu info5c (by rw [hl, show (nums .u8 ys).length = ys.length by simp [nums]]; exact (Nat.min_eq_left (by omega)).symm)
        (fun j v hv => by
          simp only [nums, List.getElem?_map, Option.map_eq_some_iff] at hv; obtain ⟨p, hp, rfl⟩ := hv; obtain ⟨cc, hcl, hK1, hcc⟩ := hel j p hp; have e : cc = [Value.int .u8 p] := hK1; have h9 := hcc 0 (Value.int .u8 p) (by rw [e]; rfl); have e1 : (Kd.int IntKind.u8).sz = 1 := rfl; rw [e1, Nat.mul_one, Nat.add_zero] at h9; exact h9)
        (fun j hj => by
          have hj2 : off + j < xs.length := by simp [nums] at hj; omega
          obtain ⟨h9, _⟩ := Kd.R_celln (enc := Value.int .u8) (h1 := fun _ => rfl) (0 : Int) HO ((off + j : Nat) : Int) (by omega) (by omega); rw [Int.toNat_natCast] at h9; rw [h9]; rfl)
        (fun j hj => by
          have hj2 : off + j < xs.length := by simp [nums] at hj; omega
          obtain ⟨_, h9⟩ := Kd.R_celln (enc := Value.int .u8) (h1 := fun _ => rfl) (0 : Int) HO ((off + j : Nat) : Int) (by omega) (by omega); rw [Int.toNat_natCast] at h9; exact h9)
        (fun v hv => by
          simp only [nums, List.mem_map] at hv; obtain ⟨p, _, rfl⟩ := hv; rfl)
      unfold Oper.wp; simp only [hdp] at hd; simp [execOp, ho, resolve, invoke, builtin, hd, hs, hrun, Result.andThen]
      refine hK _ _ ?_; have e : (nums .u8 ys).length = ys.length := by simp [nums]
      first | exact h _ h4 h5 | (rw [e]; exact h _ h4 h5) | (have := h _ h4 h5; simpa [nums] using this)
/-! ### product_Join: function 60 -/
mutual
def product_Join.j0 : Nat → List (List Int) → Bool → Int → Int → List Int → List Int → List (S101) → List (S79) → List Int → Bool → Option (List Int × Int)
 | 0, _, _, _, _, _, _, _, _, _, _ => none
 | k + 1, x1, x22, x238000, x238001, x238002, x238003, x238004, x238005, x238006, x238007 => if x22 = true then (some (([] : List Int), 19)) else (if 0 ≤ x238000 then (if (x238000 : Int).toNat ≤ 281474976710656 then (product_Join.l0 k (List.replicate (x238000 : Int).toNat 0) (List.replicate (x238000 : Int).toNat false) x1 (x1.length : Int) 0 x238000 x238001 x238002 x238003 x238004 x238005 x238006 x238007) else (none)) else (none))
def product_Join.l0 : Nat → List Int → List Bool → List (List Int) → Int → Int → Int → Int → List Int → List Int → List (S101) → List (S79) → List Int → Bool → Option (List Int × Int)
 | 0, _, _, _, _, _, _, _, _, _, _, _, _, _ => none
 | k + 1, x6, x7, x29, x30, x31, x238000, x238001, x238002, x238003, x238004, x238005, x238006, x238007 => if x31 < x30 then (if 0 ≤ x31 then (if x31 < (x29.length : Int) then (if x31 < (x238003.length : Int) then (if (rd x238003 x31) < 0 then (product_Join.j2 k x6 x7 (rd_L8 x29 x31) (rd x238003 x31) x29 x30 x31 true x238000 x238001 x238002 x238003 x238004 x238005 x238006 x238007) else (if (rd x238003 x31) > x238000 then (product_Join.j2 k x6 x7 (rd_L8 x29 x31) (rd x238003 x31) x29 x30 x31 true x238000 x238001 x238002 x238003 x238004 x238005 x238006 x238007) else (if ((rd_L8 x29 x31).length : Int) > (wrap64 (x238000 - (rd x238003 x31))) then (product_Join.j2 k x6 x7 (rd_L8 x29 x31) (rd x238003 x31) x29 x30 x31 true x238000 x238001 x238002 x238003 x238004 x238005 x238006 x238007) else (if 0 ≤ (rd x238003 x31) then (if (rd x238003 x31) ≤ (wrap64 ((rd x238003 x31) + ((rd_L8 x29 x31).length : Int))) then (if (wrap64 ((rd x238003 x31) + ((rd_L8 x29 x31).length : Int))) ≤ (x7.length : Int) then ((slices_Contains_bool_bool.f k ((x7.take ((wrap64 ((rd x238003 x31) + ((rd_L8 x29 x31).length : Int))) : Int).toNat).drop ((rd x238003 x31) : Int).toNat) true).bind fun t251 => (product_Join.j2 k x6 x7 (rd_L8 x29 x31) (rd x238003 x31) x29 x30 x31 t251 x238000 x238001 x238002 x238003 x238004 x238005 x238006 x238007)) else (none)) else (none)) else (none))))) else (none)) else (none)) else (none)) else (some (x6, 0))
def product_Join.j2 : Nat → List Int → List Bool → List Int → Int → List (List Int) → Int → Int → Bool → Int → Int → List Int → List Int → List (S101) → List (S79) → List Int → Bool → Option (List Int × Int)
 | 0, _, _, _, _, _, _, _, _, _, _, _, _, _, _, _, _ => none
 | k + 1, x6, x7, x9, x10, x29, x30, x31, x67, x238000, x238001, x238002, x238003, x238004, x238005, x238006, x238007 => if x67 = true then (some (([] : List Int), 19)) else (if 0 ≤ x10 then (if x10 ≤ (x6.length : Int) then (if x10 + (x9.length : Int) ≤ (x6.length : Int) then (product_Join.l1 k (cpy x6 (x10 : Int).toNat x9) x7 x10 x29 x30 x31 (x9.length : Int) 0 x238000 x238001 x238002 x238003 x238004 x238005 x238006 x238007) else (none)) else (none)) else (none))
def product_Join.l1 : Nat → List Int → List Bool → Int → List (List Int) → Int → Int → Int → Int → Int → Int → List Int → List Int → List (S101) → List (S79) → List Int → Bool → Option (List Int × Int)
 | 0, _, _, _, _, _, _, _, _, _, _, _, _, _, _, _, _ => none
 | k + 1, x6, x7, x10, x29, x30, x31, x74, x75, x238000, x238001, x238002, x238003, x238004, x238005, x238006, x238007 => if x75 < x74 then (if 0 ≤ (wrap64 (x10 + x75)) then (if (wrap64 (x10 + x75)) < (x7.length : Int) then (product_Join.l1 k x6 (x7.set ((wrap64 (x10 + x75)) : Int).toNat true) x10 x29 x30 x31 x74 (wrap64 (x75 + 1)) x238000 x238001 x238002 x238003 x238004 x238005 x238006 x238007) else (none)) else (none)) else (product_Join.l0 k x6 x7 x29 x30 (wrap64 (x31 + 1)) x238000 x238001 x238002 x238003 x238004 x238005 x238006 x238007)
end
def product_Join.f (k : Nat) (a0_0 : Int) (a0_1 : Int) (l0_2 : List Int) (l0_3 : List Int) (l0_4 : List (S101)) (l0_5 : List (S79)) (l0_6 : List Int) (a0_7 : Bool) (l1 : List (List Int)) : Option (List Int × Int) := (mask_Valid.f a0_0 a0_1 l0_2 l0_3 l0_4 l0_5 l0_6 a0_7).bind fun t238 => (if t238 = true then (product_Join.j0 k l1 ((l1.length : Int) != (l0_3.length : Int)) a0_0 a0_1 l0_2 l0_3 l0_4 l0_5 l0_6 a0_7) else (product_Join.j0 k l1 true a0_0 a0_1 l0_2 l0_3 l0_4 l0_5 l0_6 a0_7))
theorem product_Join.mono_l : ∀ k, (∀ y0 y1 y2 y3 y4 y5 y6 y7 y8 y9, LeO (product_Join.j0 k y0 y1 y2 y3 y4 y5 y6 y7 y8 y9) (product_Join.j0 (k + 1) y0 y1 y2 y3 y4 y5 y6 y7 y8 y9)) ∧ (∀ y0 y1 y2 y3 y4 y5 y6 y7 y8 y9 y10 y11 y12, LeO (product_Join.l0 k y0 y1 y2 y3 y4 y5 y6 y7 y8 y9 y10 y11 y12) (product_Join.l0 (k + 1) y0 y1 y2 y3 y4 y5 y6 y7 y8 y9 y10 y11 y12)) ∧ (∀ y0 y1 y2 y3 y4 y5 y6 y7 y8 y9 y10 y11 y12 y13 y14 y15, LeO (product_Join.j2 k y0 y1 y2 y3 y4 y5 y6 y7 y8 y9 y10 y11 y12 y13 y14 y15) (product_Join.j2 (k + 1) y0 y1 y2 y3 y4 y5 y6 y7 y8 y9 y10 y11 y12 y13 y14 y15)) ∧ (∀ y0 y1 y2 y3 y4 y5 y6 y7 y8 y9 y10 y11 y12 y13 y14 y15, LeO (product_Join.l1 k y0 y1 y2 y3 y4 y5 y6 y7 y8 y9 y10 y11 y12 y13 y14 y15) (product_Join.l1 (k + 1) y0 y1 y2 y3 y4 y5 y6 y7 y8 y9 y10 y11 y12 y13 y14 y15))
 | 0 => ⟨fun _ _ _ _ _ _ _ _ _ _ r h => by simp [product_Join.j0] at h, fun _ _ _ _ _ _ _ _ _ _ _ _ _ r h => by simp [product_Join.l0] at h, fun _ _ _ _ _ _ _ _ _ _ _ _ _ _ _ _ r h => by simp [product_Join.j2] at h, fun _ _ _ _ _ _ _ _ _ _ _ _ _ _ _ _ r h => by simp [product_Join.l1] at h⟩
 | k + 1 => by
  obtain ⟨ih0, ih1, ih2, ih3⟩ := product_Join.mono_l k; refine ⟨?_, ?_, ?_, ?_⟩
  ·
   intro y0 y1 y2 y3 y4 y5 y6 y7 y8 y9; unfold product_Join.j0
   repeat' first
   | (with_reducible exact ih0 _ _ _ _ _ _ _ _ _ _)
   | (with_reducible exact ih1 _ _ _ _ _ _ _ _ _ _ _ _ _)
   | (with_reducible exact ih2 _ _ _ _ _ _ _ _ _ _ _ _ _ _ _ _)
   | (with_reducible exact ih3 _ _ _ _ _ _ _ _ _ _ _ _ _ _ _ _)
   | (with_reducible exact slices_Contains_bool_bool.mono _ _ _)
   | (with_reducible exact LeO.refl _)
   | (with_reducible exact LeO.none _)
   | (with_reducible refine LeO.ite ?_ ?_)
   | (with_reducible refine LeO.bind ?_ (fun _ => ?_))
   | exact ih0 _ _ _ _ _ _ _ _ _ _
   | exact ih1 _ _ _ _ _ _ _ _ _ _ _ _ _
   | exact ih2 _ _ _ _ _ _ _ _ _ _ _ _ _ _ _ _
   | exact ih3 _ _ _ _ _ _ _ _ _ _ _ _ _ _ _ _
   | exact slices_Contains_bool_bool.mono _ _ _
   | exact LeO.none _
   | refine LeO.ite ?_ ?_
   | refine LeO.bind ?_ (fun _ => ?_)
  ·
   intro y0 y1 y2 y3 y4 y5 y6 y7 y8 y9 y10 y11 y12; unfold product_Join.l0
   repeat' first
   | (with_reducible exact ih0 _ _ _ _ _ _ _ _ _ _)
   | (with_reducible exact ih1 _ _ _ _ _ _ _ _ _ _ _ _ _)
   | (with_reducible exact ih2 _ _ _ _ _ _ _ _ _ _ _ _ _ _ _ _)
   | (with_reducible exact ih3 _ _ _ _ _ _ _ _ _ _ _ _ _ _ _ _)
   | (with_reducible exact slices_Contains_bool_bool.mono _ _ _)
   | (with_reducible exact LeO.refl _)
   | (with_reducible exact LeO.none _)
   | (with_reducible refine LeO.ite ?_ ?_)
   | (with_reducible refine LeO.bind ?_ (fun _ => ?_))
   | exact ih0 _ _ _ _ _ _ _ _ _ _
   | exact ih1 _ _ _ _ _ _ _ _ _ _ _ _ _
   | exact ih2 _ _ _ _ _ _ _ _ _ _ _ _ _ _ _ _
   | exact ih3 _ _ _ _ _ _ _ _ _ _ _ _ _ _ _ _
   | exact slices_Contains_bool_bool.mono _ _ _
   | exact LeO.none _
   | refine LeO.ite ?_ ?_
   | refine LeO.bind ?_ (fun _ => ?_)
  ·
   intro y0 y1 y2 y3 y4 y5 y6 y7 y8 y9 y10 y11 y12 y13 y14 y15; unfold product_Join.j2
   repeat' first
   | (with_reducible exact ih0 _ _ _ _ _ _ _ _ _ _)
   | (with_reducible exact ih1 _ _ _ _ _ _ _ _ _ _ _ _ _)
   | (with_reducible exact ih2 _ _ _ _ _ _ _ _ _ _ _ _ _ _ _ _)
   | (with_reducible exact ih3 _ _ _ _ _ _ _ _ _ _ _ _ _ _ _ _)
   | (with_reducible exact slices_Contains_bool_bool.mono _ _ _)
   | (with_reducible exact LeO.refl _)
   | (with_reducible exact LeO.none _)
   | (with_reducible refine LeO.ite ?_ ?_)
   | (with_reducible refine LeO.bind ?_ (fun _ => ?_))
   | exact ih0 _ _ _ _ _ _ _ _ _ _
   | exact ih1 _ _ _ _ _ _ _ _ _ _ _ _ _
   | exact ih2 _ _ _ _ _ _ _ _ _ _ _ _ _ _ _ _
   | exact ih3 _ _ _ _ _ _ _ _ _ _ _ _ _ _ _ _
   | exact slices_Contains_bool_bool.mono _ _ _
   | exact LeO.none _
   | refine LeO.ite ?_ ?_
   | refine LeO.bind ?_ (fun _ => ?_)
  ·
   intro y0 y1 y2 y3 y4 y5 y6 y7 y8 y9 y10 y11 y12 y13 y14 y15; unfold product_Join.l1
   repeat' first
   | (with_reducible exact ih0 _ _ _ _ _ _ _ _ _ _)
   | (with_reducible exact ih1 _ _ _ _ _ _ _ _ _ _ _ _ _)
   | (with_reducible exact ih2 _ _ _ _ _ _ _ _ _ _ _ _ _ _ _ _)
   | (with_reducible exact ih3 _ _ _ _ _ _ _ _ _ _ _ _ _ _ _ _)
   | (with_reducible exact slices_Contains_bool_bool.mono _ _ _)
   | (with_reducible exact LeO.refl _)
   | (with_reducible exact LeO.none _)
   | (with_reducible refine LeO.ite ?_ ?_)
   | (with_reducible refine LeO.bind ?_ (fun _ => ?_))
   | exact ih0 _ _ _ _ _ _ _ _ _ _
   | exact ih1 _ _ _ _ _ _ _ _ _ _ _ _ _
   | exact ih2 _ _ _ _ _ _ _ _ _ _ _ _ _ _ _ _
   | exact ih3 _ _ _ _ _ _ _ _ _ _ _ _ _ _ _ _
   | exact slices_Contains_bool_bool.mono _ _ _
   | exact LeO.none _
   | refine LeO.ite ?_ ?_
   | refine LeO.bind ?_ (fun _ => ?_)
theorem product_Join.mono : ∀ a0 a1 a2 a3 a4 a5 a6 a7 a8 k, LeO (product_Join.f k a0 a1 a2 a3 a4 a5 a6 a7 a8) (product_Join.f (k + 1) a0 a1 a2 a3 a4 a5 a6 a7 a8) := by
 intro a0 a1 a2 a3 a4 a5 a6 a7 a8 k; obtain ⟨ih0, ih1, ih2, ih3⟩ := product_Join.mono_l k; unfold product_Join.f
 repeat' first
   | (with_reducible exact ih0 _ _ _ _ _ _ _ _ _ _)
   | (with_reducible exact ih1 _ _ _ _ _ _ _ _ _ _ _ _ _)
   | (with_reducible exact ih2 _ _ _ _ _ _ _ _ _ _ _ _ _ _ _ _)
   | (with_reducible exact ih3 _ _ _ _ _ _ _ _ _ _ _ _ _ _ _ _)
   | (with_reducible exact slices_Contains_bool_bool.mono _ _ _)
   | (with_reducible exact LeO.refl _)
   | (with_reducible exact LeO.none _)
   | (with_reducible refine LeO.ite ?_ ?_)
   | (with_reducible refine LeO.bind ?_ (fun _ => ?_))
   | exact ih0 _ _ _ _ _ _ _ _ _ _
   | exact ih1 _ _ _ _ _ _ _ _ _ _ _ _ _
   | exact ih2 _ _ _ _ _ _ _ _ _ _ _ _ _ _ _ _
   | exact ih3 _ _ _ _ _ _ _ _ _ _ _ _ _ _ _ _
   | exact slices_Contains_bool_bool.mono _ _ _
   | exact LeO.none _
   | refine LeO.ite ?_ ?_
   | refine LeO.bind ?_ (fun _ => ?_)
def product_Join.T3 : Bool × List (List Nat × List Nat) := (true, [([], []), ([0], [0]), ([1, 1], [1]), ([], []), ([3], [3]), ([4, 4], [4]), ([2, 0, 1, 2], [2]), ([5, 6, 0, 1, 2, 3, 4, 5, 6], [5])])
def product_Join.B3 : List Nat := [0, 1, 3, 0, 8, 24, 7, 127]
theorem product_Join.tab3 : rtab .any (opsOf Try.f60 3) = product_Join.T3 := by kernel_rfl
theorem product_Join.bits3 : waitsOk product_Join.T3.2 product_Join.B3 = true := by kernel_rfl
set_option maxHeartbeats 8000000 in
set_option maxRecDepth 100000 in
theorem product_Join.calls (k : Nat) (a0_0 : Int) (a0_1 : Int) (A0_2 : Option Addr) (c0_2 : Nat) (l0_2 : List Int) (A0_3 : Option Addr) (c0_3 : Nat) (l0_3 : List Int) (A0_4 : Option Addr) (c0_4 : Nat) (l0_4 : List (S101)) (A0_5 : Option Addr) (c0_5 : Nat) (l0_5 : List (S79)) (A0_6 : Option Addr) (c0_6 : Nat) (l0_6 : List Int) (a0_7 : Bool) (A1 : Option Addr) (c1 : Nat) (l1 : List (List Int)) (r1 : List Int) (r2 : Int) (w : World) (hr0_2 : Kd.C (Kd.int .u8) w A0_2 l0_2.length l0_2) (hc0_2 : l0_2.length ≤ c0_2) (hr0_3 : Kd.C (Kd.int .i64) w A0_3 l0_3.length l0_3) (hc0_3 : l0_3.length ≤ c0_3) (hr0_4 : Kd.C k101 w A0_4 l0_4.length l0_4) (hc0_4 : l0_4.length ≤ c0_4) (hr0_5 : Kd.C k79 w A0_5 l0_5.length l0_5) (hc0_5 : l0_5.length ≤ c0_5) (hr0_6 : Kd.C (Kd.int .i64) w A0_6 l0_6.length l0_6) (hc0_6 : l0_6.length ≤ c0_6) (hr1 : Kd.C (Kd.slice 5 (Kd.int .u8)) w A1 l1.length l1) (hc1 : l1.length ≤ c1) (h : product_Join.f k a0_0 a0_1 l0_2 l0_3 l0_4 l0_5 l0_6 a0_7 l1 = some (r1, r2)) :
  Calls Try.prog 60 #[.agg #[.int .i64 a0_0, .int .i64 a0_1, .slice A0_2 l0_2.length c0_2, .slice A0_3 l0_3.length c0_3, .slice A0_4 l0_4.length c0_4, .slice A0_5 l0_5.length c0_5, .slice A0_6 l0_6.length c0_6, .bool a0_7], .slice A1 l1.length c1] w fun e w' => ∃ v0_ : Value, e = .returned (.tuple #[v0_, .int .i64 r2]) ∧ Kd.R (Kd.int .u8) 5 w' w.heap.size (fun _ => True) v0_ r1 ∧ Below w.heap.size w w' := by
 have hu31 := Try.underlying31; have HR0_2 := Aside0.mk hr0_2; have HC0_2 := Aside0.mk hc0_2; clear hr0_2 hc0_2; have HR0_3 := Aside0.mk hr0_3; have HC0_3 := Aside0.mk hc0_3; clear hr0_3 hc0_3; have HR0_4 := Aside0.mk hr0_4; have HC0_4 := Aside0.mk hc0_4; clear hr0_4 hc0_4; have HR0_5 := Aside0.mk hr0_5; have HC0_5 := Aside0.mk hc0_5; clear hr0_5 hc0_5; have HR0_6 := Aside0.mk hr0_6; have HC0_6 := Aside0.mk hc0_6; clear hr0_6 hc0_6; have HR1 := Aside0.mk hr1; have HC1 := Aside0.mk hc1; clear hr1 hc1; have HB := Aside0.mk (Below.refl w.heap.size w); have H : ((mask_Valid.f a0_0 a0_1 l0_2 l0_3 l0_4 l0_5 l0_6 a0_7).bind fun t238 => (if t238 = true then (product_Join.j0 k l1 ((l1.length : Int) != (l0_3.length : Int)) a0_0 a0_1 l0_2 l0_3 l0_4 l0_5 l0_6 a0_7) else (product_Join.j0 k l1 true a0_0 a0_1 l0_2 l0_3 l0_4 l0_5 l0_6 a0_7))) = some (r1, r2) := h; clear h; have HC3 := Aside0.mk H; clear H; go_enter Try.func60, Try.ntmps60
 go_upto_region 1 with (first | ((with_reducible refine gate_dst (N := 2) rfl ?_); (try (refine gate_guard (by rfl) ?_; dsimp only)); refine box_event ?hg (N := 2) ?hd (cs := #[.int .i64 a0_0, .int .i64 a0_1, .slice A0_2 l0_2.length c0_2, .slice A0_3 l0_3.length c0_3, .slice A0_4 l0_4.length c0_4, .slice A0_5 l0_5.length c0_5, .slice A0_6 l0_6.length c0_6, .bool a0_7]) (t := 31) ?hr ?_; (case hd => rfl); (case hg => rfl); (case hr => first | (go_simp; done) | (go_simp; rfl)); intro gb237 hg w4 hbox hb; have n0_ := Aside0.mk (below_step (hb0_ HB.out) hb); have n1_ := Aside0.mk (hbox); have n2_ := Aside0.mk ((by rw [hg]; exact (below_size (hb0_ HB.out)) : w.heap.size ≤ gb237)); have n3_ := Aside0.mk ((by rw [hg]; exact (below_size (hb0_ HB.out)) : w.heap.size ≤ gb237)); clear HB; revert n0_ n1_ n2_ n3_; intro HB BK237 GW237 GE237; clear hb hbox hg))
 (try simp only [Act.put, setIfInBounds_toArray, set_cons_zero, set_cons_succ])
 go_cut [22] (fun v22 wc => ∃ (kq : Nat) (x22_2 : Bool), v22 = .bool x22_2 ∧ Aside0 (product_Join.j0 kq l1 x22_2 a0_0 a0_1 l0_2 l0_3 l0_4 l0_5 l0_6 a0_7 = some (r1, r2)) ∧ Aside0 (kq ≤ k) ∧ Aside0 (wc.heap[gb237]? = some (.cells #[.int .i64 a0_0, .int .i64 a0_1, (.slice A0_2 l0_2.length c0_2), (.slice A0_3 l0_3.length c0_3), (.slice A0_4 l0_4.length c0_4), (.slice A0_5 l0_5.length c0_5), (.slice A0_6 l0_6.length c0_6), .bool a0_7] 31 (0, 0))) ∧ Aside0 (Below w.heap.size w wc))
 case first =>
  have H := HC3.out; clear HC3; replace H := Option.bind_eq_some_iff.mp H; obtain ⟨t238, A50, H⟩ := H; (try dsimp only at H); have A5 := Aside0.mk A50; clear A50; by_cases c6 : t238 = true
  ·
   subst c6; have H1 : (product_Join.j0 k l1 ((l1.length : Int) != (l0_3.length : Int)) a0_0 a0_1 l0_2 l0_3 l0_4 l0_5 l0_6 a0_7) = some (r1, r2) := by rw [if_pos rfl] at H; exact H
   clear H; have H := H1; clear H1; have H' := Aside0.mk H; clear H; obtain ⟨hcz7_0, hcz7_1, hcz7_2, hcz7_3, hcz7_4, hcz7_5, hcz7_6, hcz7_7, hfz7_0, hfz7_1, hfz7_2, hfz7_3, hfz7_4, hfz7_5, hfz7_6, hfz7_7⟩ := bx8_ BK237.out; go_wp2_with (first | ((with_reducible refine gate_callee (f := 56) rfl ?_); refine goesL_ (some 13) rfl rfl Try.func56 (by kernel_rfl) rfl #[.agg #[.int .i64 a0_0, .int .i64 a0_1, .slice A0_2 l0_2.length c0_2, .slice A0_3 l0_3.length c0_3, .slice A0_4 l0_4.length c0_4, .slice A0_5 l0_5.length c0_5, .slice A0_6 l0_6.length c0_6, .bool a0_7]] rfl lm_ ?_; (with_reducible refine (mask_Valid.calls a0_0 a0_1 _ _ l0_2 _ _ l0_3 _ _ l0_4 _ _ l0_5 _ _ l0_6 a0_7 true _ ?side1 ?side2 ?side3 ?side4 ?side5 ?side6 ?side7 ?side8 ?side9 ?side10 A5.out).mono ?_); (case side1 => exact kD_ (Kd.C_below HR0_2.out HB.out)); (case side2 => exact HC0_2.out); (case side3 => exact kD_ (Kd.C_below HR0_3.out HB.out)); (case side4 => exact HC0_3.out); (case side5 => exact kD_ (Kd.C_below HR0_4.out HB.out)); (case side6 => exact HC0_4.out); (case side7 => exact kD_ (Kd.C_below HR0_5.out HB.out)); (case side8 => exact HC0_5.out); (case side9 => exact kD_ (Kd.C_below HR0_6.out HB.out)); (case side10 => exact HC0_6.out); rintro e w8 ⟨rfl, hb⟩; refine ⟨_, rfl, ?_⟩; have n0_ := Aside0.mk (bb_ BK237.out hb); have n1_ := Aside0.mk (below_step (hb1_ HB.out GE237.out) hb); clear BK237 HB; revert n0_ n1_; intro BK237 HB; (try clear hb); (try clear hb2); (try clear hk); (try clear hi); obtain ⟨hcz9_0, hcz9_1, hcz9_2, hcz9_3, hcz9_4, hcz9_5, hcz9_6, hcz9_7, hfz9_0, hfz9_1, hfz9_2, hfz9_3, hfz9_4, hfz9_5, hfz9_6, hfz9_7⟩ := bx8_ BK237.out))
   go_meet
   case rel => exact ⟨_, (((l1.length : Int) != (l0_3.length : Int))), rf_, H', ⟨om_⟩, ⟨(bk_ BK237.out)⟩, ⟨(hb1_ HB.out GE237.out)⟩⟩
  ·
   replace c6 := Bool.eq_false_iff.mpr c6; subst c6; have H1 : (product_Join.j0 k l1 true a0_0 a0_1 l0_2 l0_3 l0_4 l0_5 l0_6 a0_7) = some (r1, r2) := by rw [if_neg (show ¬ (false = true) by decide)] at H; exact H
   clear H; have H := H1; clear H1; have H' := Aside0.mk H; clear H; obtain ⟨hcz10_0, hcz10_1, hcz10_2, hcz10_3, hcz10_4, hcz10_5, hcz10_6, hcz10_7, hfz10_0, hfz10_1, hfz10_2, hfz10_3, hfz10_4, hfz10_5, hfz10_6, hfz10_7⟩ := bx8_ BK237.out; go_wp2_with (first | ((with_reducible refine gate_callee (f := 56) rfl ?_); refine goesL_ (some 13) rfl rfl Try.func56 (by kernel_rfl) rfl #[.agg #[.int .i64 a0_0, .int .i64 a0_1, .slice A0_2 l0_2.length c0_2, .slice A0_3 l0_3.length c0_3, .slice A0_4 l0_4.length c0_4, .slice A0_5 l0_5.length c0_5, .slice A0_6 l0_6.length c0_6, .bool a0_7]] rfl lm_ ?_; (with_reducible refine (mask_Valid.calls a0_0 a0_1 _ _ l0_2 _ _ l0_3 _ _ l0_4 _ _ l0_5 _ _ l0_6 a0_7 false _ ?side1 ?side2 ?side3 ?side4 ?side5 ?side6 ?side7 ?side8 ?side9 ?side10 A5.out).mono ?_); (case side1 => exact kD_ (Kd.C_below HR0_2.out HB.out)); (case side2 => exact HC0_2.out); (case side3 => exact kD_ (Kd.C_below HR0_3.out HB.out)); (case side4 => exact HC0_3.out); (case side5 => exact kD_ (Kd.C_below HR0_4.out HB.out)); (case side6 => exact HC0_4.out); (case side7 => exact kD_ (Kd.C_below HR0_5.out HB.out)); (case side8 => exact HC0_5.out); (case side9 => exact kD_ (Kd.C_below HR0_6.out HB.out)); (case side10 => exact HC0_6.out); rintro e w11 ⟨rfl, hb⟩; refine ⟨_, rfl, ?_⟩; have n0_ := Aside0.mk (bb_ BK237.out hb); have n1_ := Aside0.mk (below_step (hb1_ HB.out GE237.out) hb); clear BK237 HB; revert n0_ n1_; intro BK237 HB; (try clear hb); (try clear hb2); (try clear hk); (try clear hi)))
   go_meet
   case rel => exact ⟨_, (true), rf_, H', ⟨om_⟩, ⟨(bk_ BK237.out)⟩, ⟨(hb1_ HB.out GE237.out)⟩⟩
 case rest =>
  clear HC3; try clear c1
  try clear p2
  try clear c5
  try clear c6
  try clear hcz10_0 hcz10_1 hcz10_2 hcz10_3 hcz10_4 hcz10_5 hcz10_6 hcz10_7
  try clear hcz7_0 hcz7_1 hcz7_2 hcz7_3 hcz7_4 hcz7_5 hcz7_6 hcz7_7
  try clear hcz9_0 hcz9_1 hcz9_2 hcz9_3 hcz9_4 hcz9_5 hcz9_6 hcz9_7
  try clear hfz10_0 hfz10_1 hfz10_2 hfz10_3 hfz10_4 hfz10_5 hfz10_6 hfz10_7
  try clear hfz7_0 hfz7_1 hfz7_2 hfz7_3 hfz7_4 hfz7_5 hfz7_6 hfz7_7
  try clear hfz9_0 hfz9_1 hfz9_2 hfz9_3 hfz9_4 hfz9_5 hfz9_6 hfz9_7
  obtain ⟨kq, x22_2, rfl, HA, HJ2, BK237, HB⟩ := hcut; cases kq with
  | zero => exact absurd HA.out (by simp [product_Join.j0])
  | succ kj2 =>
   have H := HA.out; clear HA; simp only [product_Join.j0] at H; by_cases c12 : x22_2 = true
   ·
    subst c12; have H1 : (some (([] : List Int), 19)) = some (r1, r2) := by rw [if_pos rfl] at H; exact H
    clear H; have H := H1; clear H1; simp only [Option.some.injEq, Prod.mk.injEq] at H; obtain ⟨rfl, rfl⟩ := H; go_wp2
    go_ret2
    exact ⟨_, by first | rfl | (simp [errW_none, errW_some] <;> rfl) | (simp [*, errW_none, errW_some] <;> rfl), by first | exact Kd.R_nil _ _ _ _ _ | exact Kd.N_nil _ _ _ _ _ | exact Kd.V_nil _ _ _ _ _ | exact Kd.Q_nil _ _ _ _ _ | exact Kd.S_nil _ _ _ _ _, (hb1_ HB.out GE237.out)⟩
   ·
    replace c12 := Bool.eq_false_iff.mpr c12; subst c12; have H1 : (if 0 ≤ a0_0 then (if (a0_0 : Int).toNat ≤ 281474976710656 then (product_Join.l0 kj2 (List.replicate (a0_0 : Int).toNat 0) (List.replicate (a0_0 : Int).toNat false) l1 (l1.length : Int) 0 a0_0 a0_1 l0_2 l0_3 l0_4 l0_5 l0_6 a0_7) else (none)) else (none)) = some (r1, r2) := by rw [if_neg (show ¬ (false = true) by decide)] at H; exact H
    clear H; have H := H1; clear H1; by_cases c13 : 0 ≤ a0_0
    ·
     rw [if_pos c13] at H; have c13b0 := eq_true c13; have c13b1 : decide (0 ≤ a0_0) = true := decide_eq_true c13; clear c13; by_cases c14 : (a0_0 : Int).toNat ≤ 281474976710656
     rotate_left
     ·
      rw [if_neg c14] at H; exact absurd H (by simp)
     rw [if_pos c14] at H; have c14b0 := eq_true c14; have c14b1 : decide ((a0_0 : Int).toNat ≤ 281474976710656) = true := decide_eq_true c14; clear c14; obtain ⟨y239, hy239⟩ : ∃ y_ : List Int, y_ = (List.replicate (a0_0 : Int).toNat 0) := ⟨_, rfl⟩; replace H : (product_Join.l0 kj2 y239 (List.replicate (a0_0 : Int).toNat false) l1 (l1.length : Int) 0 a0_0 a0_1 l0_2 l0_3 l0_4 l0_5 l0_6 a0_7) = some (r1, r2) := by first | (rw [hy239]; with_reducible exact H) | (have H2_ := (Option.bind_some _ _).symm.trans H; rw [hy239]; with_reducible exact H2_) | (have H2_ := (Option.bind_some _ _).symm.trans H; with_reducible exact H2_) | with_reducible exact H | (rw [hy239]; exact H) | exact H
     have Ny239 := Aside0.mk hy239; clear hy239; obtain ⟨y242, hy242⟩ : ∃ y_ : List Bool, y_ = (List.replicate (a0_0 : Int).toNat false) := ⟨_, rfl⟩; replace H : (product_Join.l0 kj2 y239 y242 l1 (l1.length : Int) 0 a0_0 a0_1 l0_2 l0_3 l0_4 l0_5 l0_6 a0_7) = some (r1, r2) := by first | (rw [hy242]; with_reducible exact H) | (have H2_ := (Option.bind_some _ _).symm.trans H; rw [hy242]; with_reducible exact H2_) | (have H2_ := (Option.bind_some _ _).symm.trans H; with_reducible exact H2_) | with_reducible exact H | (rw [hy242]; exact H) | exact H
     have Ny242 := Aside0.mk hy242; clear hy242; have H' := Aside0.mk H; clear H; try go_wp2
     have n0_ := Aside0.mk (blk_drew BK237.out); have n1_ := Aside0.mk (below_drew1 HB.out); clear BK237; clear HB; revert n0_ n1_; intro BK237 HB; refine start_ (n := 8) (S := fun w' => w'.cell? ⟨gb237, 0, none⟩ = some (.int .i64 a0_0) ∧ w'.cell? ⟨gb237, 1, none⟩ = some (.int .i64 a0_1) ∧ w'.cell? ⟨gb237, 2, none⟩ = some (.slice A0_2 l0_2.length c0_2) ∧ w'.cell? ⟨gb237, 3, none⟩ = some (.slice A0_3 l0_3.length c0_3) ∧ w'.cell? ⟨gb237, 4, none⟩ = some (.slice A0_4 l0_4.length c0_4) ∧ w'.cell? ⟨gb237, 5, none⟩ = some (.slice A0_5 l0_5.length c0_5) ∧ w'.cell? ⟨gb237, 6, none⟩ = some (.slice A0_6 l0_6.length c0_6) ∧ w'.cell? ⟨gb237, 7, none⟩ = some (.bool a0_7)) (ds := []) (mk_ 0 8) (by kernel_rfl) rfl rfl (c8_ BK237.out) (fun hHeld => ?_); refine with_tabW product_Join.tab3 product_Join.bits3 (fun HT_ HW_ => ?_); generalize wc.drew = w15 at BK237 HB hHeld ⊢; refine pu_ 0 (some 23) (mk_ 1 8) HT_ ?_; refine pu_ 3 (some 26) (bm_ 8 9) HT_ ?_; refine take_ (i := 1) (N := some 24) (v := ?_) (a' := ?_) (bm_ 8 11) rfl rfl (take_ofW HT_.out HW_.out (by kernel_rfl)) (fun _ _ _ h => h) (Or.inl ⟨by rfl, ?_⟩) hHeld ?_ ?_; rotate_left
     ·
      rintro w' ⟨s0, s1, s2, s3, s4, s5, s6, s7⟩; go_simp
      with_reducible rfl
     rotate_left
     ·
      simp only [Act.put, setIfInBounds_toArray, set_cons_zero, set_cons_succ, i64_w, i32_w]; rfl
     refine take_ (i := 4) (N := some 27) (v := ?_) (a' := ?_) (bm_ 8 27) rfl rfl (take_ofW HT_.out HW_.out (by kernel_rfl)) (fun _ _ _ h => h) (Or.inl ⟨by rfl, ?_⟩) hHeld ?_ ?_; rotate_left
     ·
      rintro w' ⟨s0, s1, s2, s3, s4, s5, s6, s7⟩; go_simp
      with_reducible rfl
     rotate_left
     ·
      simp only [Act.put, setIfInBounds_toArray, set_cons_zero, set_cons_succ, i64_w, i32_w]; rfl
     refine join_ (σ := Value × Value) 1 (mk_ 7 8) (fun s_ => [(25, s_.1), (28, s_.2), (6, s_.1)]) (fun s_ w' => (w'.cell? ⟨gb237, 0, none⟩ = some (.int .i64 a0_0) ∧ w'.cell? ⟨gb237, 1, none⟩ = some (.int .i64 a0_1) ∧ w'.cell? ⟨gb237, 2, none⟩ = some (.slice A0_2 l0_2.length c0_2) ∧ w'.cell? ⟨gb237, 3, none⟩ = some (.slice A0_3 l0_3.length c0_3) ∧ w'.cell? ⟨gb237, 4, none⟩ = some (.slice A0_4 l0_4.length c0_4) ∧ w'.cell? ⟨gb237, 5, none⟩ = some (.slice A0_5 l0_5.length c0_5) ∧ w'.cell? ⟨gb237, 6, none⟩ = some (.slice A0_6 l0_6.length c0_6) ∧ w'.cell? ⟨gb237, 7, none⟩ = some (.bool a0_7)) ∧ (Kd.R (Kd.int .u8) 5 w' w.heap.size (fun _ => True) s_.1 y239) ∧ (Kd.R Kd.bool 4 w' w.heap.size (fun _ => True) s_.2 y242) ∧ (w'.heap[gb237]? = some (.cells #[.int .i64 a0_0, .int .i64 a0_1, .slice A0_2 l0_2.length c0_2, .slice A0_3 l0_3.length c0_3, .slice A0_4 l0_4.length c0_4, .slice A0_5 l0_5.length c0_5, .slice A0_6 l0_6.length c0_6, .bool a0_7] 31 (0, 0))) ∧ (Below w.heap.size w w')) ?_ ?_; rotate_left
     ·
      intro hCont; refine two_ (i := 2) (j := 5) (Ni := some 25) (Nj := some 28) (mk_ 5 8) (bm_ 8 59) rfl rfl rfl rfl (two_of HT_.out (by kernel_rfl)) (by decide) (by decide) (fun K hK => ?_) (fun K hK => ?_)
      ·
       skip
       refine Kd.R_make_step (Kd.int .u8) _ 5 (by rfl) (N := 25) rfl 27 _ _ rfl a0_0 rfl rfl Try.underlying27 (.int .u8 0) 1 info5 rfl (by decide) (by omega) 0 (ok := fun _ => True) (okp := fun _ => True) rfl (fun _ hk => hk) trivial od_ (Nat.le_trans (Nat.mul_le_mul_right _ (od_ : a0_0.toNat ≤ 281474976710656)) (by omega)) (Below.refl _ _) (Nat.le_refl _) ?_; intro v240 w16 ho17 hb hg_ hnew_; clear hg_ hnew_; (first | rw [← Ny239.out] at ho17 | (simp only [Int.reduceToNat] at ho17; rw [← Ny239.out] at ho17))
       have n0_ := Aside0.mk (Kd.R_lower ho17 (below_size (hb1_ HB.out GE237.out))); have n1_ := Aside0.mk (bb_ BK237.out hb); have n2_ := Aside0.mk (below_step (hb1_ HB.out GE237.out) hb); clear BK237; clear HB; revert n0_ n1_ n2_; intro HO241 BK237 HB; clear hb ho17; refine hK.out _ _ (c8_ BK237.out) (fun hHeld => ?_); clear hK K; refine norm_ (a' := ?_) ?_ ?_; rotate_left
       ·
        show Act.put _ (some 25) _ = _
        simp only [Act.put, setIfInBounds_toArray, set_cons_zero, set_cons_succ, i64_w, i32_w]; rfl
       refine pu_ 6 (some 6) (bm_ 8 95) HT_ ?_; refine one_ (i := 5) (N := some 28) (mk_ 7 8) rfl rfl (one_of HT_.out (by kernel_rfl)) (by decide) (fun K hK => ?_); refine Kd.R_make_step Kd.bool _ 4 (by rfl) (N := 28) rfl 48 _ _ rfl a0_0 rfl rfl Try.underlying48 (.bool false) 1 info4 rfl (by decide) (by omega) false (ok := fun _ => True) (okp := fun _ => True) rfl (fun _ hk => hk) trivial od_ (Nat.le_trans (Nat.mul_le_mul_right _ (od_ : a0_0.toNat ≤ 281474976710656)) (by omega)) (Below.refl _ _) (Nat.le_refl _) ?_; intro v243 w18 ho19 hb hg_ hnew_; clear hg_ hnew_; (first | rw [← Ny242.out] at ho19 | (simp only [Int.reduceToNat] at ho19; rw [← Ny242.out] at ho19))
       have n0_ := Aside0.mk (Kd.R_below (kR_ HO241.out) hb); have n1_ := Aside0.mk (Kd.R_lower ho19 (below_size (hb1_ HB.out GE237.out))); have n2_ := Aside0.mk (bb_ BK237.out hb); have n3_ := Aside0.mk (below_step (hb1_ HB.out GE237.out) hb); clear HO241; clear BK237; clear HB; revert n0_ n1_ n2_ n3_; intro HO241 HO244 BK237 HB; clear hb ho19; refine hK.out _ _ (c8_ BK237.out) (fun hHeld => ?_); clear hK K; refine norm_ (a' := ?_) ?_ ?_; rotate_left
       ·
        show Act.put _ (some 28) _ = _
        simp only [Act.put, setIfInBounds_toArray, set_cons_zero, set_cons_succ, i64_w, i32_w]; rfl
       exact norm_ (by simp only [putAll, Act.put, setIfInBounds_toArray, set_cons_zero, set_cons_succ]) (hCont (v240, v243) _ ⟨hHeld, (kR_ HO241.out), (kR_ HO244.out), (bk_ BK237.out), (hb1_ HB.out GE237.out)⟩)
      ·
       skip
       refine Kd.R_make_step Kd.bool _ 4 (by rfl) (N := 28) rfl 48 _ _ rfl a0_0 rfl rfl Try.underlying48 (.bool false) 1 info4 rfl (by decide) (by omega) false (ok := fun _ => True) (okp := fun _ => True) rfl (fun _ hk => hk) trivial od_ (Nat.le_trans (Nat.mul_le_mul_right _ (od_ : a0_0.toNat ≤ 281474976710656)) (by omega)) (Below.refl _ _) (Nat.le_refl _) ?_; intro v243 w16 ho17 hb hg_ hnew_; clear hg_ hnew_; (first | rw [← Ny242.out] at ho17 | (simp only [Int.reduceToNat] at ho17; rw [← Ny242.out] at ho17))
       have n0_ := Aside0.mk (Kd.R_lower ho17 (below_size (hb1_ HB.out GE237.out))); have n1_ := Aside0.mk (bb_ BK237.out hb); have n2_ := Aside0.mk (below_step (hb1_ HB.out GE237.out) hb); clear BK237; clear HB; revert n0_ n1_ n2_; intro HO244 BK237 HB; clear hb ho17; refine hK.out _ _ (c8_ BK237.out) (fun hHeld => ?_); clear hK K; refine norm_ (a' := ?_) ?_ ?_; rotate_left
       ·
        show Act.put _ (some 28) _ = _
        simp only [Act.put, setIfInBounds_toArray, set_cons_zero, set_cons_succ, i64_w, i32_w]; rfl
       refine one_ (i := 2) (N := some 25) (mk_ 6 8) rfl rfl (one_of HT_.out (by kernel_rfl)) (by decide) (fun K hK => ?_); refine Kd.R_make_step (Kd.int .u8) _ 5 (by rfl) (N := 25) rfl 27 _ _ rfl a0_0 rfl rfl Try.underlying27 (.int .u8 0) 1 info5 rfl (by decide) (by omega) 0 (ok := fun _ => True) (okp := fun _ => True) rfl (fun _ hk => hk) trivial od_ (Nat.le_trans (Nat.mul_le_mul_right _ (od_ : a0_0.toNat ≤ 281474976710656)) (by omega)) (Below.refl _ _) (Nat.le_refl _) ?_; intro v240 w18 ho19 hb hg_ hnew_; clear hg_ hnew_; (first | rw [← Ny239.out] at ho19 | (simp only [Int.reduceToNat] at ho19; rw [← Ny239.out] at ho19))
       have n0_ := Aside0.mk (Kd.R_below (kR_ HO244.out) hb); have n1_ := Aside0.mk (Kd.R_lower ho19 (below_size (hb1_ HB.out GE237.out))); have n2_ := Aside0.mk (bb_ BK237.out hb); have n3_ := Aside0.mk (below_step (hb1_ HB.out GE237.out) hb); clear HO244; clear BK237; clear HB; revert n0_ n1_ n2_ n3_; intro HO244 HO241 BK237 HB; clear hb ho19; refine hK.out _ _ (c8_ BK237.out) (fun hHeld => ?_); clear hK K; refine norm_ (a' := ?_) ?_ ?_; rotate_left
       ·
        show Act.put _ (some 25) _ = _
        simp only [Act.put, setIfInBounds_toArray, set_cons_zero, set_cons_succ, i64_w, i32_w]; rfl
       refine pu_ 6 (some 6) (mk_ 7 8) HT_ ?_; exact norm_ (by simp only [putAll, Act.put, setIfInBounds_toArray, set_cons_zero, set_cons_succ]) (hCont (v240, v243) _ ⟨hHeld, (kR_ HO241.out), (kR_ HO244.out), (bk_ BK237.out), (hb1_ HB.out GE237.out)⟩)
     rintro ⟨v240, v243⟩ w20 ⟨hS_, h0_, h1_, h2_, h3_⟩; (try dsimp only at h0_ h1_ h2_ h3_); have n0_ := Aside0.mk h0_; have n1_ := Aside0.mk h1_; have n2_ := Aside0.mk h2_; have n3_ := Aside0.mk h3_; clear BK237; clear HB; clear h0_ h1_ h2_ h3_; revert n0_ n1_ n2_ n3_; intro HO241 HO244 BK237 HB; have hHeld := hS_; refine norm_ (a' := ?_) ?_ ?_; rotate_left
     ·
      simp only [putAll, Act.put, setIfInBounds_toArray, set_cons_zero, set_cons_succ]; rfl
     refine pu_ 7 (some 7) (mk_ 8 8) HT_ ?_; refine done_ (done_of HT_.out (by kernel_rfl)) ?_; try go_wp2
     go_loopg [31] kj2 (fun kq v31 w' => ∃ (x6_2 : List Int) (x7_2 : List Bool) (x31_2 : Int), v31 = .int .i64 x31_2 ∧ Aside0 (product_Join.l0 kq x6_2 x7_2 l1 (l1.length : Int) x31_2 a0_0 a0_1 l0_2 l0_3 l0_4 l0_5 l0_6 a0_7 = some (r1, r2)) ∧ Aside0 (kq ≤ kj2) ∧ Aside0 (Kd.R (Kd.int .u8) 5 w' w.heap.size (fun _ => True) v240 x6_2) ∧ Aside0 (Kd.R Kd.bool 4 w' w.heap.size (fun _ => True) v243 x7_2) ∧ Aside0 (w'.heap[gb237]? = some (.cells #[.int .i64 a0_0, .int .i64 a0_1, (.slice A0_2 l0_2.length c0_2), (.slice A0_3 l0_3.length c0_3), (.slice A0_4 l0_4.length c0_4), (.slice A0_5 l0_5.length c0_5), (.slice A0_6 l0_6.length c0_6), .bool a0_7] 31 (0, 0))) ∧ Aside0 (Below w.heap.size w w'))
     case atStart => exact ⟨(y239), (y242), (0), rf_, H', ⟨Nat.le_refl _⟩, ⟨by (with_reducible repeat (first | apply Kd.R_alloc | apply Kd.R_drewN | apply Kd.R_drew)); exact HO241.out⟩, ⟨by (with_reducible repeat (first | apply Kd.R_alloc | apply Kd.R_drewN | apply Kd.R_drew)); exact HO244.out⟩, ⟨(bk_ BK237.out)⟩, ⟨(hb1_ HB.out GE237.out)⟩⟩
     case round =>
      clear H'; try clear c1
      try clear p2
      try clear c5
      try clear c6
      try clear c12
      try clear c13
      try clear c13b0
      try clear c13b1
      try clear c14
      try clear c14b0
      try clear c14b1
      try clear hcz10_0 hcz10_1 hcz10_2 hcz10_3 hcz10_4 hcz10_5 hcz10_6 hcz10_7
      try clear hcz7_0 hcz7_1 hcz7_2 hcz7_3 hcz7_4 hcz7_5 hcz7_6 hcz7_7
      try clear hcz9_0 hcz9_1 hcz9_2 hcz9_3 hcz9_4 hcz9_5 hcz9_6 hcz9_7
      try clear hfz10_0 hfz10_1 hfz10_2 hfz10_3 hfz10_4 hfz10_5 hfz10_6 hfz10_7
      try clear hfz7_0 hfz7_1 hfz7_2 hfz7_3 hfz7_4 hfz7_5 hfz7_6 hfz7_7
      try clear hfz9_0 hfz9_1 hfz9_2 hfz9_3 hfz9_4 hfz9_5 hfz9_6 hfz9_7
      try clear p2
      obtain ⟨x6_2, x7_2, x31_2, rfl, HA, HK2, HO_6, HO_7, BK237, HB⟩ := hrel; cases gk with
      | zero => exact absurd HA.out (by simp [product_Join.l0])
      | succ k2 =>
       have H := HA.out; clear HA; simp only [product_Join.l0] at H; by_cases c21 : x31_2 < (l1.length : Int)
       ·
        rw [if_pos c21] at H; have c21b0 : decide (x31_2 < (l1.length : Int)) = true := decide_eq_true c21; clear c21; by_cases c22 : 0 ≤ x31_2
        rotate_left
        ·
         rw [if_neg c22] at H; exact absurd H (by simp)
        rw [if_pos c22] at H; have c22b0 : decide (0 ≤ x31_2) = true := decide_eq_true c22; clear c22; by_cases c23 : x31_2 < (l1.length : Int)
        rotate_left
        ·
         rw [if_neg c23] at H; exact absurd H (by simp)
        rw [if_pos c23] at H; have c23b0 : decide (x31_2 < (l1.length : Int)) = true := decide_eq_true c23; clear c23; by_cases c24 : x31_2 < (l0_3.length : Int)
        rotate_left
        ·
         rw [if_neg c24] at H; exact absurd H (by simp)
        rw [if_pos c24] at H; have c24b0 : decide (x31_2 < (l0_3.length : Int)) = true := decide_eq_true c24; clear c24; have HC25 := Aside0.mk H; clear H; have p245 : 0 ≤ (x31_2 : Int) := od_; have q245 : x31_2 < (l1.length : Int) := od_; obtain ⟨ad245, A245_0, c245_0, e245, hx245_0, hl245_0, hi245_0⟩ := at_L8 HR1.out x31_2 p245 q245; cases e245; replace hx245_0 := (HB.out.cell (World.block_lt_of_cell? w _ hx245_0)).trans hx245_0; have HR245_0 := Aside0.mk hi245_0; have HC245_0 := Aside0.mk hl245_0; clear hi245_0 hl245_0; replace p245 := eq_true p245; replace q245 := eq_true q245; obtain ⟨hcz26_0, hcz26_1, hcz26_2, hcz26_3, hcz26_4, hcz26_5, hcz26_6, hcz26_7, hfz26_0, hfz26_1, hfz26_2, hfz26_3, hfz26_4, hfz26_5, hfz26_6, hfz26_7⟩ := bx8_ BK237.out; have p246 : 0 ≤ (x31_2 : Int) := od_; have q246 : x31_2 < (l0_3.length : Int) := od_; obtain ⟨ad246, e246, hx246_0⟩ := Kd.at_int HR0_3.out x31_2 p246 q246; cases e246; replace hx246_0 := (HB.out.cell (World.block_lt_of_cell? w _ hx246_0)).trans hx246_0; replace p246 := eq_true p246; replace q246 := eq_true q246; go_upto_region 8 with (fail)
        go_cut [67] (fun v67 wc => ∃ (kq : Nat) (x67_24 : Bool), v67 = .bool x67_24 ∧ Aside0 (product_Join.j2 kq x6_2 x7_2 (rd_L8 l1 x31_2) (rd l0_3 x31_2) l1 (l1.length : Int) x31_2 x67_24 a0_0 a0_1 l0_2 l0_3 l0_4 l0_5 l0_6 a0_7 = some (r1, r2)) ∧ Aside0 (kq ≤ k2) ∧ Aside0 (Kd.R (Kd.int .u8) 5 wc w.heap.size (fun _ => True) v240 x6_2) ∧ Aside0 (Kd.R Kd.bool 4 wc w.heap.size (fun _ => True) v243 x7_2) ∧ Aside0 (wc.heap[gb237]? = some (.cells #[.int .i64 a0_0, .int .i64 a0_1, (.slice A0_2 l0_2.length c0_2), (.slice (some ad246) l0_3.length c0_3), (.slice A0_4 l0_4.length c0_4), (.slice A0_5 l0_5.length c0_5), (.slice A0_6 l0_6.length c0_6), .bool a0_7] 31 (0, 0))) ∧ Aside0 (Below w.heap.size w wc))
        case first =>
         have H := HC25.out; clear HC25; by_cases c27 : (rd l0_3 x31_2) < 0
         ·
          rw [if_pos c27] at H; have c27b0 : decide ((rd l0_3 x31_2) < 0) = true := decide_eq_true c27; clear c27; (first | rw [c27b0] | (simp only [i64_w, i32_w]; rw [c27b0]) | skip)
          have H' := Aside0.mk H; clear H; go_wp2
          go_meet
          case rel => exact ⟨_, (true), rf_, H', ⟨by have := HJ2.out; have := HK2.out; first | omega | exact Nat.le_refl _⟩, ⟨by (with_reducible repeat (first | apply Kd.R_alloc | apply Kd.R_drewN | apply Kd.R_drew)); exact HO_6.out⟩, ⟨by (with_reducible repeat (first | apply Kd.R_alloc | apply Kd.R_drewN | apply Kd.R_drew)); exact HO_7.out⟩, ⟨(bk_ BK237.out)⟩, ⟨(hb1_ HB.out GE237.out)⟩⟩
         ·
          rw [if_neg c27] at H; have c27b0 : decide ((rd l0_3 x31_2) < 0) = false := decide_eq_false c27; clear c27; (first | rw [c27b0] | (simp only [i64_w, i32_w]; rw [c27b0]) | skip)
          by_cases c28 : (rd l0_3 x31_2) > a0_0
          ·
           rw [if_pos c28] at H; have c28b0 : decide (a0_0 < (rd l0_3 x31_2)) = true := decide_eq_true c28; clear c28; have H' := Aside0.mk H; clear H; obtain ⟨hcz29_0, hcz29_1, hcz29_2, hcz29_3, hcz29_4, hcz29_5, hcz29_6, hcz29_7, hfz29_0, hfz29_1, hfz29_2, hfz29_3, hfz29_4, hfz29_5, hfz29_6, hfz29_7⟩ := bx8_ BK237.out; go_wp2
           go_meet
           case rel => exact ⟨_, (true), rf_, H', ⟨by have := HJ2.out; have := HK2.out; first | omega | exact Nat.le_refl _⟩, ⟨by (with_reducible repeat (first | apply Kd.R_alloc | apply Kd.R_drewN | apply Kd.R_drew)); exact HO_6.out⟩, ⟨by (with_reducible repeat (first | apply Kd.R_alloc | apply Kd.R_drewN | apply Kd.R_drew)); exact HO_7.out⟩, ⟨(bk_ BK237.out)⟩, ⟨(hb1_ HB.out GE237.out)⟩⟩
          ·
           rw [if_neg c28] at H; have c28b0 : decide (a0_0 < (rd l0_3 x31_2)) = false := decide_eq_false c28; clear c28; by_cases c30 : ((rd_L8 l1 x31_2).length : Int) > (wrap64 (a0_0 - (rd l0_3 x31_2)))
           ·
            rw [if_pos c30] at H; have c30b0 : decide ((wrap64 (a0_0 - (rd l0_3 x31_2))) < ((rd_L8 l1 x31_2).length : Int)) = true := decide_eq_true c30; clear c30; have H' := Aside0.mk H; clear H; obtain ⟨hcz31_0, hcz31_1, hcz31_2, hcz31_3, hcz31_4, hcz31_5, hcz31_6, hcz31_7, hfz31_0, hfz31_1, hfz31_2, hfz31_3, hfz31_4, hfz31_5, hfz31_6, hfz31_7⟩ := bx8_ BK237.out; go_wp2
            go_meet
            case rel => exact ⟨_, (true), rf_, H', ⟨by have := HJ2.out; have := HK2.out; first | omega | exact Nat.le_refl _⟩, ⟨by (with_reducible repeat (first | apply Kd.R_alloc | apply Kd.R_drewN | apply Kd.R_drew)); exact HO_6.out⟩, ⟨by (with_reducible repeat (first | apply Kd.R_alloc | apply Kd.R_drewN | apply Kd.R_drew)); exact HO_7.out⟩, ⟨(bk_ BK237.out)⟩, ⟨(hb1_ HB.out GE237.out)⟩⟩
           ·
            rw [if_neg c30] at H; have c30b0 : decide ((wrap64 (a0_0 - (rd l0_3 x31_2))) < ((rd_L8 l1 x31_2).length : Int)) = false := decide_eq_false c30; clear c30; by_cases c32 : 0 ≤ (rd l0_3 x31_2)
            rotate_left
            ·
             rw [if_neg c32] at H; exact absurd H (by simp)
            rw [if_pos c32] at H; have c32b0 := eq_true c32; have c32b1 : decide (0 ≤ (rd l0_3 x31_2)) = true := decide_eq_true c32; clear c32; by_cases c33 : (rd l0_3 x31_2) ≤ (wrap64 ((rd l0_3 x31_2) + ((rd_L8 l1 x31_2).length : Int)))
            rotate_left
            ·
             rw [if_neg c33] at H; exact absurd H (by simp)
            rw [if_pos c33] at H; have c33b0 := eq_true c33; have c33b1 : decide ((rd l0_3 x31_2) ≤ (wrap64 ((rd l0_3 x31_2) + ((rd_L8 l1 x31_2).length : Int)))) = true := decide_eq_true c33; by_cases c34 : (wrap64 ((rd l0_3 x31_2) + ((rd_L8 l1 x31_2).length : Int))) ≤ (x7_2.length : Int)
            rotate_left
            ·
             rw [if_neg c34] at H; exact absurd H (by simp)
            rw [if_pos c34] at H; have c34b0 := eq_true c34; have c34b1 : decide ((wrap64 ((rd l0_3 x31_2) + ((rd_L8 l1 x31_2).length : Int))) ≤ (x7_2.length : Int)) = true := decide_eq_true c34; obtain ⟨y247, hy247⟩ : ∃ y_ : List Bool, y_ = ((x7_2.take ((wrap64 ((rd l0_3 x31_2) + ((rd_L8 l1 x31_2).length : Int))) : Int).toNat).drop ((rd l0_3 x31_2) : Int).toNat) := ⟨_, rfl⟩; replace H : ((slices_Contains_bool_bool.f k2 y247 true).bind fun t251 => (product_Join.j2 k2 x6_2 x7_2 (rd_L8 l1 x31_2) (rd l0_3 x31_2) l1 (l1.length : Int) x31_2 t251 a0_0 a0_1 l0_2 l0_3 l0_4 l0_5 l0_6 a0_7)) = some (r1, r2) := by first | (rw [hy247]; with_reducible exact H) | (have H2_ := (Option.bind_some _ _).symm.trans H; rw [hy247]; with_reducible exact H2_) | (have H2_ := (Option.bind_some _ _).symm.trans H; with_reducible exact H2_) | with_reducible exact H | (rw [hy247]; exact H) | exact H
            have Ny247 := Aside0.mk hy247; clear hy247; replace H := Option.bind_eq_some_iff.mp H; obtain ⟨t251, A350, H⟩ := H; (try dsimp only at H); have A35 := Aside0.mk A350; clear A350; have H' := Aside0.mk H; clear H; obtain ⟨hcz36_0, hcz36_1, hcz36_2, hcz36_3, hcz36_4, hcz36_5, hcz36_6, hcz36_7, hfz36_0, hfz36_1, hfz36_2, hfz36_3, hfz36_4, hfz36_5, hfz36_6, hfz36_7⟩ := bx8_ BK237.out; obtain ⟨Ao38, co38, eo38⟩ := Kd.R_slice HO_7.out; subst eo38; have q37 : ((wrap64 ((rd l0_3 x31_2) + ((rd_L8 l1 x31_2).length : Int))) : Int) ≤ ((x7_2.length : Int) : Int) := od_; obtain ⟨i037, hi037, _, hsz37, _⟩ := info_parts info4; have hroom37 : x7_2.length ≤ co38 := (Kd.R_reads' HO_7.out).2.1; have hC37 : Kd.C Kd.bool _ Ao38 x7_2.length x7_2 := (Kd.R_reads' HO_7.out).2.2; have ql37 : ((rd l0_3 x31_2) : Int) ≤ ((wrap64 ((rd l0_3 x31_2) + ((rd_L8 l1 x31_2).length : Int))) : Int) := od_; have q037 : (0 : Int) ≤ ((rd l0_3 x31_2) : Int) := od_; have hcut37 := cut_mid (P := Try.prog) 48 4 .i64 .i64 Try.underlying48 hi037 1 hsz37 Ao38 x7_2.length co38 (rd l0_3 x31_2) (wrap64 ((rd l0_3 x31_2) + ((rd_L8 l1 x31_2).length : Int))) q037 ql37 q37 hroom37; have hr37 := Kd.C_mid (lo := ((rd l0_3 x31_2) : Int).toNat) (hi := ((wrap64 ((rd l0_3 x31_2) + ((rd_L8 l1 x31_2).length : Int))) : Int).toNat) (c := co38) hC37 (by omega) (by omega) hroom37; obtain ⟨A37, hA37⟩ : ∃ A1, A1 = (if co38 = ((rd l0_3 x31_2) : Int).toNat then Ao38 else (Ao38 : Option Addr).map (·.add (((rd l0_3 x31_2) : Int).toNat * 1))) := ⟨_, rfl⟩; obtain ⟨c37, hc37⟩ : ∃ c1, c1 = co38 - ((rd l0_3 x31_2) : Int).toNat := ⟨_, rfl⟩; have hy37 : y247.length = ((wrap64 ((rd l0_3 x31_2) + ((rd_L8 l1 x31_2).length : Int))) : Int).toNat - ((rd l0_3 x31_2) : Int).toNat := (by rw [Ny247.out, List.length_drop, List.length_take] <;> omega); rw [show ((x7_2).take ((wrap64 ((rd l0_3 x31_2) + ((rd_L8 l1 x31_2).length : Int))) : Int).toNat).drop ((rd l0_3 x31_2) : Int).toNat = y247 from Ny247.out.symm] at hr37; replace hr37 : Kd.C Kd.bool _ A37 y247.length y247 := (by rw [hA37]; exact hr37); rw [← hy37, ← hA37, ← hc37] at hcut37; have HR250 := Aside0.mk hr37; have HC250 := Aside0.mk (show y247.length ≤ c37 from by rw [hy37, hc37]; exact Nat.sub_le_sub_right (Nat.le_trans (by omega) hroom37) _); clear hr37 hC37 hroom37 hi037 hsz37 hc37; have KY37 := Aside0.mk hy37; have KA37 := Aside0.mk hA37; clear hy37 hA37; have KL37 := Aside0.mk (show ((wrap64 ((rd l0_3 x31_2) + ((rd_L8 l1 x31_2).length : Int))) : Int).toNat ≤ x7_2.length from by omega); have KM37 := Aside0.mk (show ((rd l0_3 x31_2) : Int).toNat ≤ ((wrap64 ((rd l0_3 x31_2) + ((rd_L8 l1 x31_2).length : Int))) : Int).toNat from by omega); replace q37 := eq_true q37; go_wp2_with (first | (go_at_call 90; (with_reducible refine (slices_Contains_bool_bool.calls k2 _ _ y247 true t251 _ ?side1 ?side2 A35.out).mono ?_); (case side1 => exact kD_ HR250.out); (case side2 => exact HC250.out); rintro e w' ⟨rfl, ⟨nd, rfl⟩⟩))
            go_meet
            case rel => exact ⟨_, (t251), rf_, H', ⟨by have := HJ2.out; have := HK2.out; first | omega | exact Nat.le_refl _⟩, ⟨by (with_reducible repeat (first | apply Kd.R_alloc | apply Kd.R_drewN | apply Kd.R_drew)); exact HO_6.out⟩, ⟨by (with_reducible repeat (first | apply Kd.R_alloc | apply Kd.R_drewN | apply Kd.R_drew)); exact HO_7.out⟩, ⟨(bk_ BK237.out)⟩, ⟨(hb1_ HB.out GE237.out)⟩⟩
        case rest =>
         clear HC25; try clear c1
         try clear c2
         try clear p2
         try clear q2
         try clear hx2
         try clear c3
         try clear q3
         try clear c5
         try clear c6
         try clear p6
         try clear c12
         try clear c13
         try clear c13b0
         try clear c13b1
         try clear c14
         try clear c14b0
         try clear c14b1
         try clear c21
         try clear c21b0
         try clear c22
         try clear c22b0
         try clear c23
         try clear c23b0
         try clear c24
         try clear c24b0
         try clear p24
         try clear q24
         try clear hx24
         try clear c27
         try clear c27b0
         try clear c28
         try clear c28b0
         try clear c30
         try clear c30b0
         try clear c32
         try clear c32b0
         try clear c32b1
         try clear c33
         try clear c33b0
         try clear c33b1
         try clear c34
         try clear c34b0
         try clear c34b1
         try clear c37
         try clear q37
         try clear hcz10_0 hcz10_1 hcz10_2 hcz10_3 hcz10_4 hcz10_5 hcz10_6 hcz10_7
         try clear hcz26_0 hcz26_1 hcz26_2 hcz26_3 hcz26_4 hcz26_5 hcz26_6 hcz26_7
         try clear hcz29_0 hcz29_1 hcz29_2 hcz29_3 hcz29_4 hcz29_5 hcz29_6 hcz29_7
         try clear hcz31_0 hcz31_1 hcz31_2 hcz31_3 hcz31_4 hcz31_5 hcz31_6 hcz31_7
         try clear hcz36_0 hcz36_1 hcz36_2 hcz36_3 hcz36_4 hcz36_5 hcz36_6 hcz36_7
         try clear hcz7_0 hcz7_1 hcz7_2 hcz7_3 hcz7_4 hcz7_5 hcz7_6 hcz7_7
         try clear hcz9_0 hcz9_1 hcz9_2 hcz9_3 hcz9_4 hcz9_5 hcz9_6 hcz9_7
         try clear hfz10_0 hfz10_1 hfz10_2 hfz10_3 hfz10_4 hfz10_5 hfz10_6 hfz10_7
         try clear hfz26_0 hfz26_1 hfz26_2 hfz26_3 hfz26_4 hfz26_5 hfz26_6 hfz26_7
         try clear hfz29_0 hfz29_1 hfz29_2 hfz29_3 hfz29_4 hfz29_5 hfz29_6 hfz29_7
         try clear hfz31_0 hfz31_1 hfz31_2 hfz31_3 hfz31_4 hfz31_5 hfz31_6 hfz31_7
         try clear hfz36_0 hfz36_1 hfz36_2 hfz36_3 hfz36_4 hfz36_5 hfz36_6 hfz36_7
         try clear hfz7_0 hfz7_1 hfz7_2 hfz7_3 hfz7_4 hfz7_5 hfz7_6 hfz7_7
         try clear hfz9_0 hfz9_1 hfz9_2 hfz9_3 hfz9_4 hfz9_5 hfz9_6 hfz9_7
         try clear hx245_0
         try clear hx246_0
         try clear p2
         try clear p245
         try clear p246
         try clear q037
         try clear q245
         try clear q246
         try clear q37
         obtain ⟨kq, x67_24, rfl, HA, HJ24, HO_6, HO_7, BK237, HB⟩ := hcut; cases kq with
         | zero => exact absurd HA.out (by simp [product_Join.j2])
         | succ kj24 =>
          have H := HA.out; clear HA; simp only [product_Join.j2] at H; by_cases c39 : x67_24 = true
          ·
           subst c39; have H1 : (some (([] : List Int), 19)) = some (r1, r2) := by rw [if_pos rfl] at H; exact H
           clear H; have H := H1; clear H1; simp only [Option.some.injEq, Prod.mk.injEq] at H; obtain ⟨rfl, rfl⟩ := H; go_wp2
           go_ret2
           exact ⟨_, by first | rfl | (simp [errW_none, errW_some] <;> rfl) | (simp [*, errW_none, errW_some] <;> rfl), by first | exact Kd.R_nil _ _ _ _ _ | exact Kd.N_nil _ _ _ _ _ | exact Kd.V_nil _ _ _ _ _ | exact Kd.Q_nil _ _ _ _ _ | exact Kd.S_nil _ _ _ _ _, (hb1_ HB.out GE237.out)⟩
          ·
           replace c39 := Bool.eq_false_iff.mpr c39; subst c39; have H1 : (if 0 ≤ (rd l0_3 x31_2) then (if (rd l0_3 x31_2) ≤ (x6_2.length : Int) then (if (rd l0_3 x31_2) + ((rd_L8 l1 x31_2).length : Int) ≤ (x6_2.length : Int) then (product_Join.l1 kj24 (cpy x6_2 ((rd l0_3 x31_2) : Int).toNat (rd_L8 l1 x31_2)) x7_2 (rd l0_3 x31_2) l1 (l1.length : Int) x31_2 ((rd_L8 l1 x31_2).length : Int) 0 a0_0 a0_1 l0_2 l0_3 l0_4 l0_5 l0_6 a0_7) else (none)) else (none)) else (none)) = some (r1, r2) := by rw [if_neg (show ¬ (false = true) by decide)] at H; exact H
           clear H; have H := H1; clear H1; by_cases c40 : 0 ≤ (rd l0_3 x31_2)
           rotate_left
           ·
            rw [if_neg c40] at H; exact absurd H (by simp)
           rw [if_pos c40] at H; have c40b0 := eq_true c40; have c40b1 : decide (0 ≤ (rd l0_3 x31_2)) = true := decide_eq_true c40; clear c40; by_cases c41 : (rd l0_3 x31_2) ≤ (x6_2.length : Int)
           rotate_left
           ·
            rw [if_neg c41] at H; exact absurd H (by simp)
           rw [if_pos c41] at H; have c41b0 := eq_true c41; have c41b1 : decide ((rd l0_3 x31_2) ≤ (x6_2.length : Int)) = true := decide_eq_true c41; clear c41; obtain ⟨y252, hy252⟩ : ∃ y_ : List Int, y_ = (x6_2.drop ((rd l0_3 x31_2) : Int).toNat) := ⟨_, rfl⟩; replace H : (if (rd l0_3 x31_2) + ((rd_L8 l1 x31_2).length : Int) ≤ (x6_2.length : Int) then (product_Join.l1 kj24 (cpy x6_2 ((rd l0_3 x31_2) : Int).toNat (rd_L8 l1 x31_2)) x7_2 (rd l0_3 x31_2) l1 (l1.length : Int) x31_2 ((rd_L8 l1 x31_2).length : Int) 0 a0_0 a0_1 l0_2 l0_3 l0_4 l0_5 l0_6 a0_7) else (none)) = some (r1, r2) := by first | (rw [hy252]; with_reducible exact H) | (have H2_ := (Option.bind_some _ _).symm.trans H; rw [hy252]; with_reducible exact H2_) | (have H2_ := (Option.bind_some _ _).symm.trans H; with_reducible exact H2_) | with_reducible exact H | (rw [hy252]; exact H) | exact H
           have Ny252 := Aside0.mk hy252; clear hy252; by_cases c42 : (rd l0_3 x31_2) + ((rd_L8 l1 x31_2).length : Int) ≤ (x6_2.length : Int)
           rotate_left
           ·
            rw [if_neg c42] at H; exact absurd H (by simp)
           rw [if_pos c42] at H; have c42b0 := eq_true c42; have c42b1 : decide ((rd l0_3 x31_2) + ((rd_L8 l1 x31_2).length : Int) ≤ (x6_2.length : Int)) = true := decide_eq_true c42; obtain ⟨y256, hy256⟩ : ∃ y_ : List Int, y_ = (cpy x6_2 ((rd l0_3 x31_2) : Int).toNat (rd_L8 l1 x31_2)) := ⟨_, rfl⟩; replace H : (product_Join.l1 kj24 y256 x7_2 (rd l0_3 x31_2) l1 (l1.length : Int) x31_2 ((rd_L8 l1 x31_2).length : Int) 0 a0_0 a0_1 l0_2 l0_3 l0_4 l0_5 l0_6 a0_7) = some (r1, r2) := by first | (rw [hy256]; with_reducible exact H) | (have H2_ := (Option.bind_some _ _).symm.trans H; rw [hy256]; with_reducible exact H2_) | (have H2_ := (Option.bind_some _ _).symm.trans H; with_reducible exact H2_) | with_reducible exact H | (rw [hy256]; exact H) | exact H
           have Ny256 := Aside0.mk hy256; clear hy256; have H' := Aside0.mk H; clear H; obtain ⟨Ao44, co44, eo44⟩ := Kd.R_slice HO_6.out; subst eo44; have q43 : ((rd l0_3 x31_2) : Int) ≤ ((x6_2.length : Int) : Int) := od_; obtain ⟨i043, hi043, _, hsz43, _⟩ := info_parts info5; have hroom43 : x6_2.length ≤ co44 := (Kd.R_reads' HO_6.out).2.1; have hC43 : Kd.C (Kd.int .u8) _ Ao44 x6_2.length x6_2 := (Kd.R_reads' HO_6.out).2.2; have q043 : (0 : Int) ≤ ((rd l0_3 x31_2) : Int) := od_; have hcut43 := cut_from (P := Try.prog) 27 5 .i64 Try.underlying27 hi043 1 hsz43 Ao44 x6_2.length co44 (rd l0_3 x31_2) q043 q43; have hr43 := Kd.C_drop (m := ((rd l0_3 x31_2) : Int).toNat) (c := co44) hC43 (by omega) hroom43; obtain ⟨A43, hA43⟩ : ∃ A1, A1 = (if co44 = ((rd l0_3 x31_2) : Int).toNat then Ao44 else (Ao44 : Option Addr).map (·.add (((rd l0_3 x31_2) : Int).toNat * 1))) := ⟨_, rfl⟩; obtain ⟨c43, hc43⟩ : ∃ c1, c1 = co44 - ((rd l0_3 x31_2) : Int).toNat := ⟨_, rfl⟩; have hy43 : y252.length = x6_2.length - ((rd l0_3 x31_2) : Int).toNat := (by rw [Ny252.out, List.length_drop] <;> omega); rw [show (x6_2).drop ((rd l0_3 x31_2) : Int).toNat = y252 from Ny252.out.symm] at hr43; replace hr43 : Kd.C (Kd.int .u8) _ A43 y252.length y252 := (by rw [hA43]; exact hr43); rw [← hy43, ← hA43, ← hc43] at hcut43; have HR255 := Aside0.mk hr43; have HC255 := Aside0.mk (show y252.length ≤ c43 from by rw [hy43, hc43]; exact Nat.sub_le_sub_right hroom43 _); clear hr43 hC43 hroom43 hi043 hsz43 hc43; have KY43 := Aside0.mk hy43; have KA43 := Aside0.mk hA43; clear hy43 hA43; have KL43 := Aside0.mk (show ((rd l0_3 x31_2) : Int).toNat ≤ x6_2.length from by omega); replace q43 := eq_true q43; go_wp2_with (first | ((with_reducible refine gate_builtin (b := .copy) (xs := #[.tmp 70, .tmp 71]) rfl ?_); (try (refine gate_guard (by rfl) ?_; dsimp only)); refine copy_ev_ (by rfl) (.tmp 70) (.tmp 71) _ _ (by rfl) Try.underlying27 (off := ((rd l0_3 x31_2) : Int).toNat) (by rfl) (by rfl) HO_6.out (Kd.C_below HR245_0.out HB.out) ?hf ?hl ?hp ?_; (case hf => omega); (case hl => exact Aside0.out (by assumption)); (case hp => exact Aside0.out (by assumption)); intro w45 hp_ hg; rw [← Ny256.out] at hp_; have n0_ := Aside0.mk (hp_); have n1_ := Aside0.mk (Kd.R_over' (v := (.slice Ao44 x6_2.length co44)) (kR_ HO_7.out) (Kd.R_typed HO_6.out) (by decide) hg); have n2_ := Aside0.mk (blk_grown (g := gb237) (o := .cells #[.int .i64 a0_0, .int .i64 a0_1, .slice A0_2 l0_2.length c0_2, .slice (some ad246) l0_3.length c0_3, .slice A0_4 l0_4.length c0_4, .slice A0_5 l0_5.length c0_5, .slice A0_6 l0_6.length c0_6, .bool a0_7] 31 (0, 0)) (bk_ BK237.out) hg (Kd.R_ne HO_6.out BK237.out (by decide))); have n3_ := Aside0.mk ((Below.grown HB.out hg (below_size HB.out) (Kd.R_base HO_6.out))); clear HO_6 HO_7 BK237 HB; revert n0_ n1_ n2_ n3_; intro HO_6 HO_7 BK237 HB; clear hg hp_))
           go_loopg [75] kj24 (fun kq v75 w' => ∃ (x7_4 : List Bool) (x75_4 : Int), v75 = .int .i64 x75_4 ∧ Aside0 (product_Join.l1 kq y256 x7_4 (rd l0_3 x31_2) l1 (l1.length : Int) x31_2 ((rd_L8 l1 x31_2).length : Int) x75_4 a0_0 a0_1 l0_2 l0_3 l0_4 l0_5 l0_6 a0_7 = some (r1, r2)) ∧ Aside0 (kq ≤ kj24) ∧ Aside0 (Kd.R (Kd.int .u8) 5 w' w.heap.size (fun _ => True) (.slice Ao44 x6_2.length co44) y256) ∧ Aside0 (Kd.R Kd.bool 4 w' w.heap.size (fun _ => True) v243 x7_4) ∧ Aside0 (w'.heap[gb237]? = some (.cells #[.int .i64 a0_0, .int .i64 a0_1, (.slice A0_2 l0_2.length c0_2), (.slice (some ad246) l0_3.length c0_3), (.slice A0_4 l0_4.length c0_4), (.slice A0_5 l0_5.length c0_5), (.slice A0_6 l0_6.length c0_6), .bool a0_7] 31 (0, 0))) ∧ Aside0 (Below w.heap.size w w'))
           case atStart => exact ⟨(x7_2), (0), rf_, H', ⟨Nat.le_refl _⟩, ⟨by (with_reducible repeat (first | apply Kd.R_alloc | apply Kd.R_drewN | apply Kd.R_drew)); exact HO_6.out⟩, ⟨by (with_reducible repeat (first | apply Kd.R_alloc | apply Kd.R_drewN | apply Kd.R_drew)); exact HO_7.out⟩, ⟨(bk_ BK237.out)⟩, ⟨(hb1_ HB.out GE237.out)⟩⟩
           case round =>
            clear H'; try clear c1
            try clear c2
            try clear p2
            try clear q2
            try clear hx2
            try clear c3
            try clear q3
            try clear c4
            try clear q4
            try clear c5
            try clear c6
            try clear p6
            try clear c12
            try clear c13
            try clear c13b0
            try clear c13b1
            try clear c14
            try clear c14b0
            try clear c14b1
            try clear c21
            try clear c21b0
            try clear c22
            try clear c22b0
            try clear c23
            try clear c23b0
            try clear c24
            try clear c24b0
            try clear p24
            try clear q24
            try clear hx24
            try clear c27
            try clear c27b0
            try clear c28
            try clear c28b0
            try clear c30
            try clear c30b0
            try clear c32
            try clear c32b0
            try clear c32b1
            try clear c33
            try clear c33b0
            try clear c33b1
            try clear c34
            try clear c34b0
            try clear c34b1
            try clear c37
            try clear q37
            try clear c39
            try clear c40
            try clear c40b0
            try clear c40b1
            try clear c41
            try clear c41b0
            try clear c41b1
            try clear c42
            try clear c42b0
            try clear c42b1
            try clear c43
            try clear q43
            try clear hcz10_0 hcz10_1 hcz10_2 hcz10_3 hcz10_4 hcz10_5 hcz10_6 hcz10_7
            try clear hcz26_0 hcz26_1 hcz26_2 hcz26_3 hcz26_4 hcz26_5 hcz26_6 hcz26_7
            try clear hcz29_0 hcz29_1 hcz29_2 hcz29_3 hcz29_4 hcz29_5 hcz29_6 hcz29_7
            try clear hcz31_0 hcz31_1 hcz31_2 hcz31_3 hcz31_4 hcz31_5 hcz31_6 hcz31_7
            try clear hcz36_0 hcz36_1 hcz36_2 hcz36_3 hcz36_4 hcz36_5 hcz36_6 hcz36_7
            try clear hcz7_0 hcz7_1 hcz7_2 hcz7_3 hcz7_4 hcz7_5 hcz7_6 hcz7_7
            try clear hcz9_0 hcz9_1 hcz9_2 hcz9_3 hcz9_4 hcz9_5 hcz9_6 hcz9_7
            try clear hfz10_0 hfz10_1 hfz10_2 hfz10_3 hfz10_4 hfz10_5 hfz10_6 hfz10_7
            try clear hfz26_0 hfz26_1 hfz26_2 hfz26_3 hfz26_4 hfz26_5 hfz26_6 hfz26_7
            try clear hfz29_0 hfz29_1 hfz29_2 hfz29_3 hfz29_4 hfz29_5 hfz29_6 hfz29_7
            try clear hfz31_0 hfz31_1 hfz31_2 hfz31_3 hfz31_4 hfz31_5 hfz31_6 hfz31_7
            try clear hfz36_0 hfz36_1 hfz36_2 hfz36_3 hfz36_4 hfz36_5 hfz36_6 hfz36_7
            try clear hfz7_0 hfz7_1 hfz7_2 hfz7_3 hfz7_4 hfz7_5 hfz7_6 hfz7_7
            try clear hfz9_0 hfz9_1 hfz9_2 hfz9_3 hfz9_4 hfz9_5 hfz9_6 hfz9_7
            try clear hx245_0
            try clear hx246_0
            try clear p2
            try clear p24
            try clear p245
            try clear p246
            try clear p6
            try clear q037
            try clear q043
            try clear q2
            try clear q24
            try clear q245
            try clear q246
            try clear q3
            try clear q37
            try clear q43
            obtain ⟨x7_4, x75_4, rfl, HA, HK4, HO_6, HO_7, BK237, HB⟩ := hrel; have hl6_4 := (Kd.R_reads' HO_6.out).1; rw [hl6_4] at HO_6; (try simp only [hl6_4])
            (try simp only [ns_, hl6_4] at BK237 HO_7)
            cases gk with
            | zero => exact absurd HA.out (by simp [product_Join.l1])
            | succ k4 =>
             have H := HA.out; clear HA; simp only [product_Join.l1] at H; by_cases c46 : x75_4 < ((rd_L8 l1 x31_2).length : Int)
             ·
              rw [if_pos c46] at H; have c46b0 : decide (x75_4 < ((rd_L8 l1 x31_2).length : Int)) = true := decide_eq_true c46; (try (have c46r0 := c46b0; simp only [hl6_4] at c46r0))
              clear c46; obtain ⟨ji47, hji47⟩ : ∃ j_ : Int, (wrap64 ((rd l0_3 x31_2) + x75_4)) = j_ := ⟨_, rfl⟩; replace H : (if 0 ≤ (ji47) then (if (ji47) < (x7_4.length : Int) then (product_Join.l1 k4 y256 (x7_4.set ((ji47) : Int).toNat true) (rd l0_3 x31_2) l1 (l1.length : Int) x31_2 ((rd_L8 l1 x31_2).length : Int) (wrap64 (x75_4 + 1)) a0_0 a0_1 l0_2 l0_3 l0_4 l0_5 l0_6 a0_7) else (none)) else (none)) = some (r1, r2) := by first | (rw [hji47] at H; exact H) | (simp only [hji47] at H ⊢; exact H)
              have hji47w : (IntKind.i64.wrap ((rd l0_3 x31_2) + x75_4)) = ji47 := (i64_w _).trans hji47; by_cases c48 : 0 ≤ (ji47)
              rotate_left
              ·
               rw [if_neg c48] at H; exact absurd H (by simp)
              rw [if_pos c48] at H; have c48b0 : decide (0 ≤ (ji47)) = true := decide_eq_true c48; clear c48; by_cases c49 : (ji47) < (x7_4.length : Int)
              rotate_left
              ·
               rw [if_neg c49] at H; exact absurd H (by simp)
              rw [if_pos c49] at H; have c49b0 : decide ((ji47) < (x7_4.length : Int)) = true := decide_eq_true c49; (try (have c49r0 := c49b0; simp only [hl6_4] at c49r0))
              clear c49; obtain ⟨y257, hy257⟩ : ∃ y_ : List Bool, y_ = (x7_4.set ((ji47) : Int).toNat true) := ⟨_, rfl⟩; replace H : (product_Join.l1 k4 y256 y257 (rd l0_3 x31_2) l1 (l1.length : Int) x31_2 ((rd_L8 l1 x31_2).length : Int) (wrap64 (x75_4 + 1)) a0_0 a0_1 l0_2 l0_3 l0_4 l0_5 l0_6 a0_7) = some (r1, r2) := by first | (rw [hy257]; with_reducible exact H) | (have H2_ := (Option.bind_some _ _).symm.trans H; rw [hy257]; with_reducible exact H2_) | (have H2_ := (Option.bind_some _ _).symm.trans H; with_reducible exact H2_) | with_reducible exact H | (rw [hy257]; exact H) | exact H
              have Ny257 := Aside0.mk hy257; clear hy257; have H' := Aside0.mk H; clear H; have p50 : 0 ≤ ((ji47) : Int) := od_; have q50 : ((ji47) : Int) < ((x7_4.length : Int) : Int) := od_; obtain ⟨go50, co50, eo50, gb50, gl50, cl50, HG50⟩ := Kd.R_form HO_7.out (by omega); (first | cases eo50 | (injection eo50 with ea_ en_ ec_; (first | subst ea_ | (injection ea_ with ea_; subst ea_)); subst ec_; clear en_))
              have GB50 := Aside0.mk gb50; have GG50 := Aside0.mk HG50; clear gb50 gl50 HG50; obtain ⟨hx50_0, hf50_0⟩ := Kd.R_celln false HO_7.out ((ji47) : Int) p50 q50; replace p50 := eq_true p50; replace q50 := eq_true q50; have HP51 := Kd.R_putg HO_7.out ((ji47) : Int) true; go_wp2_with (first | ((with_reducible refine gate_store (t := 4) (p := 82) rfl ?_); refine store_event (t := 4) (p := 82) (v := ?vo_w52) (w1 := (wr.setCell ⟨go50, ((ji47) : Int).toNat, none⟩ (.bool true))) ?hg ?ho ?hn ?hr ?_; (case ho => rfl); (case hg => rfl); (case hn => rfl); (case hr => first | (go_simp; done) | (go_simp; rfl)); intro w52 hw; have hg : wr.grownBy w52 (some go50) := (by rw [hw]; exact HP51.2); have hp_ : Kd.R Kd.bool 4 w52 w.heap.size (fun _ => True) (.slice (some ⟨go50, 0, none⟩) x7_4.length co50) y257 := (by rw [hw, Ny257.out]; exact HP51.1); clear HP51; have n0_ := Aside0.mk (Kd.R_over' (v := (.slice (some ⟨go50, 0, none⟩) x7_4.length co50)) (kR_ HO_6.out) (Kd.R_typed HO_7.out) (by decide) hg); have n1_ := Aside0.mk (hp_); have n2_ := Aside0.mk (blk_grown (g := gb237) (o := .cells #[.int .i64 a0_0, .int .i64 a0_1, .slice A0_2 l0_2.length c0_2, .slice (some ad246) l0_3.length c0_3, .slice A0_4 l0_4.length c0_4, .slice A0_5 l0_5.length c0_5, .slice A0_6 l0_6.length c0_6, .bool a0_7] 31 (0, 0)) (bk_ BK237.out) hg (Kd.R_ne HO_7.out BK237.out (by decide))); have n3_ := Aside0.mk ((by rw [hw]; exact below_set (HB.out) GB50.out : Below w.heap.size w w52)); clear HO_6 HO_7 BK237 HB; revert n0_ n1_ n2_ n3_; intro HO_6 HO_7 BK237 HB; clear hg hw hp_))
              (try simp only [← hl6_4])
              go_roundg k4
              case measure => have := HJ2.out; have := HK2.out; have := HJ24.out; have := HK4.out; omega
              case rel => exact ⟨(y257), (wrap64 (x75_4 + 1)), rf_, H', ⟨by have := HJ2.out; have := HK2.out; have := HJ24.out; have := HK4.out; omega⟩, ⟨by (try simp only [ns_, hl6_4]); (with_reducible repeat (first | apply Kd.R_alloc | apply Kd.R_drewN | apply Kd.R_drew)); exact HO_6.out⟩, ⟨by (try simp only [ns_, hl6_4]); (with_reducible repeat (first | apply Kd.R_alloc | apply Kd.R_drewN | apply Kd.R_drew)); exact HO_7.out⟩, ⟨by (try simp only [ns_, hl6_4]); (with_reducible repeat (first | refine blk_drewN ?_ _ | refine blk_drew ?_ | refine blk_alloc ?_ _)); exact BK237.out⟩, ⟨(hb1_ HB.out GE237.out)⟩⟩
             ·
              rw [if_neg c46] at H; have c46b0 : decide (x75_4 < ((rd_L8 l1 x31_2).length : Int)) = false := decide_eq_false c46; (try (have c46r0 := c46b0; simp only [hl6_4] at c46r0))
              clear c46; have H' := Aside0.mk H; clear H; go_wp2
              (try simp only [← hl6_4])
              go_roundg k4
              case measure => have := HJ2.out; have := HK2.out; have := HJ24.out; have := HK4.out; omega
              case rel => exact ⟨(y256), (x7_4), (wrap64 (x31_2 + 1)), rf_, H', ⟨by have := HJ2.out; have := HK2.out; have := HJ24.out; have := HK4.out; omega⟩, ⟨by (try simp only [ns_, hl6_4]); (with_reducible repeat (first | apply Kd.R_alloc | apply Kd.R_drewN | apply Kd.R_drew)); exact HO_6.out⟩, ⟨by (try simp only [ns_, hl6_4]); (with_reducible repeat (first | apply Kd.R_alloc | apply Kd.R_drewN | apply Kd.R_drew)); exact HO_7.out⟩, ⟨by (try simp only [ns_, hl6_4]); (with_reducible repeat (first | refine blk_drewN ?_ _ | refine blk_drew ?_ | refine blk_alloc ?_ _)); exact BK237.out⟩, ⟨(hb1_ HB.out GE237.out)⟩⟩
       ·
        rw [if_neg c21] at H; have c21b0 : decide (x31_2 < (l1.length : Int)) = false := decide_eq_false c21; clear c21; simp only [Option.some.injEq, Prod.mk.injEq] at H; obtain ⟨rfl, rfl⟩ := H; go_wp2
        go_ret2
        exact ⟨_, by first | rfl | (simp [errW_none, errW_some] <;> rfl) | (simp [*, errW_none, errW_some] <;> rfl), by (with_reducible repeat (first | apply Kd.R_alloc | apply Kd.R_drewN | apply Kd.R_drew)); exact HO_6.out, (hb1_ HB.out GE237.out)⟩
    ·
     rw [if_neg c13] at H; exact absurd H (by simp)

/-! ### CloneB: function 81 (by hand) -/
def CloneB.f (l0 : List Int) : Option (List Int) := if l0.length < 140737488355328 then some l0 else none
theorem CloneB.nilrun (A : Option Addr) (n c : Nat) (W : World) : (binOp .eql 27 (.slice A n c) (.slice none 0 0)).run Try.prog W = .ok (.bool A.isNone) W := Lib.run_eql_slice_nil W 27 5 A n c 0 0 Try.underlying27
set_option maxHeartbeats 8000000 in
set_option maxRecDepth 100000 in
theorem CloneB.calls (A0 : Option Addr) (c0 : Nat) (l0 : List Int) (r : List Int) (w : World) (hr0 : Kd.C (Kd.int .u8) w A0 l0.length l0) (hc0 : l0.length ≤ c0) (h : CloneB.f l0 = some r) :
    Calls Try.prog 81 #[.slice A0 l0.length c0] w fun e w' => ∃ v0_ : Value, e = .returned (v0_) ∧ Kd.R (Kd.int .u8) 5 w' w.heap.size (fun _ => True) v0_ r ∧ Below w.heap.size w w' := by
  have HR0 := Aside0.mk hr0; have HC0 := Aside0.mk hc0; clear hc0; have HB := Aside0.mk (Below.refl w.heap.size w); unfold CloneB.f at h; by_cases c2 : l0.length < 140737488355328
  · rw [if_pos c2] at h
    obtain rfl := Option.some.inj h; clear h; cases A0 with
    | none =>
      have h0 : l0 = [] := by
        rcases Nat.eq_zero_or_pos l0.length with h0 | h0
        · exact List.eq_nil_of_length_eq_zero h0
        · obtain ⟨ad, c, e, _⟩ := Kd.C_get hr0 (0 : Int) 0 (by omega) (by omega)
          cases e
      subst h0; clear hr0 c2; have hn := CloneB.nilrun none 0 c0; simp only [List.length_nil]; simp only [Option.isNone_none] at hn; go_enter Try.func81, Try.ntmps81
      go_wp2
      go_ret
      exact ⟨_, rfl, Kd.R_nil _ _ _ _ _, HB.out⟩
    | some ad =>
      clear hr0; have hn := CloneB.nilrun (some ad) l0.length c0; simp only [Option.isNone_some] at hn; have LMc2 := Aside0.mk c2; clear c2; obtain ⟨y109, hy109⟩ : ∃ y_ : List Int, y_ = (([] : List Int)) := ⟨_, rfl⟩; have Ny109 := Aside0.mk hy109; clear hy109; obtain ⟨y112, hy112⟩ : ∃ y_ : List Int, y_ = (y109 ++ l0) := ⟨_, rfl⟩; have Ny112 := Aside0.mk hy112; clear hy112; go_enter Try.func81, Try.ntmps81
      go_wp2_with (first | ((with_reducible refine gate_dst (N := 5) rfl ?_); refine Kd.R_lit (Kd.int .u8) _ 5 ?hg (N := 5) ?hd (xs := ([] : List Int)) (inner := []) (ok := fun _ => True) (okp := fun _ => True) ?hr ?hp (fun _ hk => hk) trivial (Below.refl _ _) (Nat.le_refl _) (by simp) ?_; (case hd => rfl); (case hg => rfl); (case hr => first | (go_simp; done) | (go_simp; rfl)); (case hp => exact (Reps.none _ _)); intro v110 w3 ho4 hb hg_ hnew_; clear hg_ hnew_; (first | rw [← Ny109.out] at ho4 | (simp only [Int.reduceToNat] at ho4; rw [← Ny109.out] at ho4)); have n0_ := Aside0.mk (Kd.R_lower ho4 (below_size (hb0_ HB.out))); have n1_ := Aside0.mk (below_step (hb0_ HB.out) hb); clear HB; revert n0_ n1_; intro HO111 HB; clear hb ho4) | ((with_reducible refine gate_builtin (b := .append) (xs := #[.tmp 5, .tmp 6]) rfl ?_); at_builtin; refine Kd.R_append_rows (Kd.int .u8) (w0 := w) w.heap.size rfl (.tmp 5) (.tmp 6) 27 5 (.int .u8 0) 1 rfl Try.underlying27 info5 rfl (by decide) (by omega) v110 y109 l0 _ _ _ (fun _ => True) (fun _ => False) rfl rfl ?aO ?aR (fun _ _ h => h) (fun _ h => h.elim) ?aF ?aB ?aS ?aL ?_; (case aR => repeat (first | exact (Kd.C_below HR0.out HB.out) | (with_reducible refine Kd.C_alloc ?_ _) | (with_reducible refine Kd.C_drewN ?_ _) | (with_reducible refine Kd.C_drew ?_))); (case aB => exact (hb0_ HB.out)); (case aF => exact (fun _ _ => trivial)); (case aO => exact (kR_ HO111.out)); (case aS => exact (below_size (hb0_ HB.out))); (case aL => have := LMc2.out; have h1_ := Ny109.out; (rw [h1_]); simp only [List.length_nil]; omega); intro v113 w5 ho hb hg hat; rw [← Ny112.out] at ho; have n0_ := Aside0.mk (hb); have n1_ := Aside0.mk (ho); clear HB HO111; revert n0_ n1_; intro HB HO114; clear ho hb hg hat))
      have hl0 : y112 = l0 := by rw [Ny112.out, Ny109.out]; rfl
      rw [hl0] at HO114; go_ret
      exact ⟨_, rfl, by (with_reducible repeat (first | apply Kd.R_alloc | apply Kd.R_drewN | apply Kd.R_drew)); exact HO114.out, (hb0_ HB.out)⟩
  · rw [if_neg c2] at h
    exact absurd h (by simp)

/-! ### product_Part: function 61 -/
def product_Part.f (a0_0 : Int) (a0_1 : Int) (l0_2 : List Int) (l0_3 : List Int) (l0_4 : List (S101)) (l0_5 : List (S79)) (l0_6 : List Int) (a0_7 : Bool) (l1 : List Int) (a2 : Int) (a3 : Int) : Option (List Int × Int) := if (l1.length : Int) = a0_0 then (if a2 < 0 then (some (([] : List Int), 20)) else (if a3 < 0 then (some (([] : List Int), 20)) else (if a2 > (l1.length : Int) then (some (([] : List Int), 20)) else (if a3 > (wrap64 ((l1.length : Int) - a2)) then (some (([] : List Int), 20)) else (if 0 ≤ a2 then (if a2 ≤ (wrap64 (a2 + a3)) then (if (wrap64 (a2 + a3)) ≤ (l1.length : Int) then ((CloneB.f ((l1.take ((wrap64 (a2 + a3)) : Int).toNat).drop (a2 : Int).toNat)).bind fun t260 => (some (t260, 0))) else (none)) else (none)) else (none)))))) else (some (([] : List Int), 19))
set_option maxHeartbeats 8000000 in
set_option maxRecDepth 100000 in
theorem product_Part.calls (a0_0 : Int) (a0_1 : Int) (A0_2 : Option Addr) (c0_2 : Nat) (l0_2 : List Int) (A0_3 : Option Addr) (c0_3 : Nat) (l0_3 : List Int) (A0_4 : Option Addr) (c0_4 : Nat) (l0_4 : List (S101)) (A0_5 : Option Addr) (c0_5 : Nat) (l0_5 : List (S79)) (A0_6 : Option Addr) (c0_6 : Nat) (l0_6 : List Int) (a0_7 : Bool) (A1 : Option Addr) (c1 : Nat) (l1 : List Int) (a2 : Int) (a3 : Int) (r1 : List Int) (r2 : Int) (w : World) (hr0_2 : Kd.C (Kd.int .u8) w A0_2 l0_2.length l0_2) (hc0_2 : l0_2.length ≤ c0_2) (hr0_3 : Kd.C (Kd.int .i64) w A0_3 l0_3.length l0_3) (hc0_3 : l0_3.length ≤ c0_3) (hr0_4 : Kd.C k101 w A0_4 l0_4.length l0_4) (hc0_4 : l0_4.length ≤ c0_4) (hr0_5 : Kd.C k79 w A0_5 l0_5.length l0_5) (hc0_5 : l0_5.length ≤ c0_5) (hr0_6 : Kd.C (Kd.int .i64) w A0_6 l0_6.length l0_6) (hc0_6 : l0_6.length ≤ c0_6) (hr1 : Kd.C (Kd.int .u8) w A1 l1.length l1) (hc1 : l1.length ≤ c1) (h : product_Part.f a0_0 a0_1 l0_2 l0_3 l0_4 l0_5 l0_6 a0_7 l1 a2 a3 = some (r1, r2)) :
  Calls Try.prog 61 #[.agg #[.int .i64 a0_0, .int .i64 a0_1, .slice A0_2 l0_2.length c0_2, .slice A0_3 l0_3.length c0_3, .slice A0_4 l0_4.length c0_4, .slice A0_5 l0_5.length c0_5, .slice A0_6 l0_6.length c0_6, .bool a0_7], .slice A1 l1.length c1, .int .i64 a2, .int .i64 a3] w fun e w' => ∃ v0_ : Value, e = .returned (.tuple #[v0_, .int .i64 r2]) ∧ Kd.R (Kd.int .u8) 5 w' w.heap.size (fun _ => True) v0_ r1 ∧ Below w.heap.size w w' := by
 have hu31 := Try.underlying31; have HR0_2 := Aside0.mk hr0_2; have HC0_2 := Aside0.mk hc0_2; clear hr0_2 hc0_2; have HR0_3 := Aside0.mk hr0_3; have HC0_3 := Aside0.mk hc0_3; clear hr0_3 hc0_3; have HR0_4 := Aside0.mk hr0_4; have HC0_4 := Aside0.mk hc0_4; clear hr0_4 hc0_4; have HR0_5 := Aside0.mk hr0_5; have HC0_5 := Aside0.mk hc0_5; clear hr0_5 hc0_5; have HR0_6 := Aside0.mk hr0_6; have HC0_6 := Aside0.mk hc0_6; clear hr0_6 hc0_6; have HR1 := Aside0.mk hr1; have HC1 := Aside0.mk hc1; clear hr1 hc1; have HB := Aside0.mk (Below.refl w.heap.size w); have H : (if (l1.length : Int) = a0_0 then (if a2 < 0 then (some (([] : List Int), 20)) else (if a3 < 0 then (some (([] : List Int), 20)) else (if a2 > (l1.length : Int) then (some (([] : List Int), 20)) else (if a3 > (wrap64 ((l1.length : Int) - a2)) then (some (([] : List Int), 20)) else (if 0 ≤ a2 then (if a2 ≤ (wrap64 (a2 + a3)) then (if (wrap64 (a2 + a3)) ≤ (l1.length : Int) then ((CloneB.f ((l1.take ((wrap64 (a2 + a3)) : Int).toNat).drop (a2 : Int).toNat)).bind fun t260 => (some (t260, 0))) else (none)) else (none)) else (none)))))) else (some (([] : List Int), 19))) = some (r1, r2) := h; clear h; by_cases c5 : (l1.length : Int) = a0_0
 ·
  rw [if_pos c5] at H; have c5b0 : ((l1.length : Int) == a0_0) = true := beq_iff_eq.mpr c5; have c5b1 : ((l1.length : Int) != a0_0) = false := bne_eq_false_iff_eq.mpr c5; clear c5; by_cases c6 : a2 < 0
  ·
   rw [if_pos c6] at H; have c6b0 : decide (a2 < 0) = true := decide_eq_true c6; clear c6; simp only [Option.some.injEq, Prod.mk.injEq] at H; obtain ⟨rfl, rfl⟩ := H; go_enter Try.func61, Try.ntmps61
   go_wp2_with (first | ((with_reducible refine gate_dst (N := 4) rfl ?_); (try (refine gate_guard (by rfl) ?_; dsimp only)); refine box_event ?hg (N := 4) ?hd (cs := #[.int .i64 a0_0, .int .i64 a0_1, .slice A0_2 l0_2.length c0_2, .slice A0_3 l0_3.length c0_3, .slice A0_4 l0_4.length c0_4, .slice A0_5 l0_5.length c0_5, .slice A0_6 l0_6.length c0_6, .bool a0_7]) (t := 31) ?hr ?_; (case hd => rfl); (case hg => rfl); (case hr => first | (go_simp; done) | (go_simp; rfl)); intro gb258 hg w7 hbox hb; have n0_ := Aside0.mk (below_step (hb0_ HB.out) hb); have n1_ := Aside0.mk (hbox); have n2_ := Aside0.mk ((by rw [hg]; exact (below_size (hb0_ HB.out)) : w.heap.size ≤ gb258)); have n3_ := Aside0.mk ((by rw [hg]; exact (below_size (hb0_ HB.out)) : w.heap.size ≤ gb258)); clear HB; revert n0_ n1_ n2_ n3_; intro HB BK258 GW258 GE258; clear hb hbox hg; obtain ⟨hcz8_0, hcz8_1, hcz8_2, hcz8_3, hcz8_4, hcz8_5, hcz8_6, hcz8_7, hfz8_0, hfz8_1, hfz8_2, hfz8_3, hfz8_4, hfz8_5, hfz8_6, hfz8_7⟩ := bx8_ BK258.out))
   go_ret2
   exact ⟨_, by first | rfl | (simp [errW_none, errW_some] <;> rfl) | (simp [*, errW_none, errW_some] <;> rfl), by first | exact Kd.R_nil _ _ _ _ _ | exact Kd.N_nil _ _ _ _ _ | exact Kd.V_nil _ _ _ _ _ | exact Kd.Q_nil _ _ _ _ _ | exact Kd.S_nil _ _ _ _ _, (hb1_ HB.out GE258.out)⟩
  ·
   rw [if_neg c6] at H; have c6b0 : decide (a2 < 0) = false := decide_eq_false c6; clear c6; by_cases c9 : a3 < 0
   ·
    rw [if_pos c9] at H; have c9b0 : decide (a3 < 0) = true := decide_eq_true c9; clear c9; simp only [Option.some.injEq, Prod.mk.injEq] at H; obtain ⟨rfl, rfl⟩ := H; go_enter Try.func61, Try.ntmps61
    go_wp2_with (first | ((with_reducible refine gate_dst (N := 4) rfl ?_); (try (refine gate_guard (by rfl) ?_; dsimp only)); refine box_event ?hg (N := 4) ?hd (cs := #[.int .i64 a0_0, .int .i64 a0_1, .slice A0_2 l0_2.length c0_2, .slice A0_3 l0_3.length c0_3, .slice A0_4 l0_4.length c0_4, .slice A0_5 l0_5.length c0_5, .slice A0_6 l0_6.length c0_6, .bool a0_7]) (t := 31) ?hr ?_; (case hd => rfl); (case hg => rfl); (case hr => first | (go_simp; done) | (go_simp; rfl)); intro gb258 hg w10 hbox hb; have n0_ := Aside0.mk (below_step (hb0_ HB.out) hb); have n1_ := Aside0.mk (hbox); have n2_ := Aside0.mk ((by rw [hg]; exact (below_size (hb0_ HB.out)) : w.heap.size ≤ gb258)); have n3_ := Aside0.mk ((by rw [hg]; exact (below_size (hb0_ HB.out)) : w.heap.size ≤ gb258)); clear HB; revert n0_ n1_ n2_ n3_; intro HB BK258 GW258 GE258; clear hb hbox hg; obtain ⟨hcz11_0, hcz11_1, hcz11_2, hcz11_3, hcz11_4, hcz11_5, hcz11_6, hcz11_7, hfz11_0, hfz11_1, hfz11_2, hfz11_3, hfz11_4, hfz11_5, hfz11_6, hfz11_7⟩ := bx8_ BK258.out))
    go_ret2
    exact ⟨_, by first | rfl | (simp [errW_none, errW_some] <;> rfl) | (simp [*, errW_none, errW_some] <;> rfl), by first | exact Kd.R_nil _ _ _ _ _ | exact Kd.N_nil _ _ _ _ _ | exact Kd.V_nil _ _ _ _ _ | exact Kd.Q_nil _ _ _ _ _ | exact Kd.S_nil _ _ _ _ _, (hb1_ HB.out GE258.out)⟩
   ·
    rw [if_neg c9] at H; have c9b0 : decide (a3 < 0) = false := decide_eq_false c9; clear c9; by_cases c12 : a2 > (l1.length : Int)
    ·
     rw [if_pos c12] at H; have c12b0 : decide ((l1.length : Int) < a2) = true := decide_eq_true c12; clear c12; simp only [Option.some.injEq, Prod.mk.injEq] at H; obtain ⟨rfl, rfl⟩ := H; go_enter Try.func61, Try.ntmps61
     go_wp2_with (first | ((with_reducible refine gate_dst (N := 4) rfl ?_); (try (refine gate_guard (by rfl) ?_; dsimp only)); refine box_event ?hg (N := 4) ?hd (cs := #[.int .i64 a0_0, .int .i64 a0_1, .slice A0_2 l0_2.length c0_2, .slice A0_3 l0_3.length c0_3, .slice A0_4 l0_4.length c0_4, .slice A0_5 l0_5.length c0_5, .slice A0_6 l0_6.length c0_6, .bool a0_7]) (t := 31) ?hr ?_; (case hd => rfl); (case hg => rfl); (case hr => first | (go_simp; done) | (go_simp; rfl)); intro gb258 hg w13 hbox hb; have n0_ := Aside0.mk (below_step (hb0_ HB.out) hb); have n1_ := Aside0.mk (hbox); have n2_ := Aside0.mk ((by rw [hg]; exact (below_size (hb0_ HB.out)) : w.heap.size ≤ gb258)); have n3_ := Aside0.mk ((by rw [hg]; exact (below_size (hb0_ HB.out)) : w.heap.size ≤ gb258)); clear HB; revert n0_ n1_ n2_ n3_; intro HB BK258 GW258 GE258; clear hb hbox hg; obtain ⟨hcz14_0, hcz14_1, hcz14_2, hcz14_3, hcz14_4, hcz14_5, hcz14_6, hcz14_7, hfz14_0, hfz14_1, hfz14_2, hfz14_3, hfz14_4, hfz14_5, hfz14_6, hfz14_7⟩ := bx8_ BK258.out))
     go_ret2
     exact ⟨_, by first | rfl | (simp [errW_none, errW_some] <;> rfl) | (simp [*, errW_none, errW_some] <;> rfl), by first | exact Kd.R_nil _ _ _ _ _ | exact Kd.N_nil _ _ _ _ _ | exact Kd.V_nil _ _ _ _ _ | exact Kd.Q_nil _ _ _ _ _ | exact Kd.S_nil _ _ _ _ _, (hb1_ HB.out GE258.out)⟩
    ·
     rw [if_neg c12] at H; have c12b0 : decide ((l1.length : Int) < a2) = false := decide_eq_false c12; clear c12; by_cases c15 : a3 > (wrap64 ((l1.length : Int) - a2))
     ·
      rw [if_pos c15] at H; have c15b0 : decide ((wrap64 ((l1.length : Int) - a2)) < a3) = true := decide_eq_true c15; clear c15; simp only [Option.some.injEq, Prod.mk.injEq] at H; obtain ⟨rfl, rfl⟩ := H; go_enter Try.func61, Try.ntmps61
      go_wp2_with (first | ((with_reducible refine gate_dst (N := 4) rfl ?_); (try (refine gate_guard (by rfl) ?_; dsimp only)); refine box_event ?hg (N := 4) ?hd (cs := #[.int .i64 a0_0, .int .i64 a0_1, .slice A0_2 l0_2.length c0_2, .slice A0_3 l0_3.length c0_3, .slice A0_4 l0_4.length c0_4, .slice A0_5 l0_5.length c0_5, .slice A0_6 l0_6.length c0_6, .bool a0_7]) (t := 31) ?hr ?_; (case hd => rfl); (case hg => rfl); (case hr => first | (go_simp; done) | (go_simp; rfl)); intro gb258 hg w16 hbox hb; have n0_ := Aside0.mk (below_step (hb0_ HB.out) hb); have n1_ := Aside0.mk (hbox); have n2_ := Aside0.mk ((by rw [hg]; exact (below_size (hb0_ HB.out)) : w.heap.size ≤ gb258)); have n3_ := Aside0.mk ((by rw [hg]; exact (below_size (hb0_ HB.out)) : w.heap.size ≤ gb258)); clear HB; revert n0_ n1_ n2_ n3_; intro HB BK258 GW258 GE258; clear hb hbox hg; obtain ⟨hcz17_0, hcz17_1, hcz17_2, hcz17_3, hcz17_4, hcz17_5, hcz17_6, hcz17_7, hfz17_0, hfz17_1, hfz17_2, hfz17_3, hfz17_4, hfz17_5, hfz17_6, hfz17_7⟩ := bx8_ BK258.out))
      go_ret2
      exact ⟨_, by first | rfl | (simp [errW_none, errW_some] <;> rfl) | (simp [*, errW_none, errW_some] <;> rfl), by first | exact Kd.R_nil _ _ _ _ _ | exact Kd.N_nil _ _ _ _ _ | exact Kd.V_nil _ _ _ _ _ | exact Kd.Q_nil _ _ _ _ _ | exact Kd.S_nil _ _ _ _ _, (hb1_ HB.out GE258.out)⟩
     ·
      rw [if_neg c15] at H; have c15b0 : decide ((wrap64 ((l1.length : Int) - a2)) < a3) = false := decide_eq_false c15; clear c15; by_cases c18 : 0 ≤ a2
      rotate_left
      ·
       rw [if_neg c18] at H; exact absurd H (by simp)
      rw [if_pos c18] at H; have c18b0 := eq_true c18; have c18b1 : decide (0 ≤ a2) = true := decide_eq_true c18; clear c18; by_cases c19 : a2 ≤ (wrap64 (a2 + a3))
      rotate_left
      ·
       rw [if_neg c19] at H; exact absurd H (by simp)
      rw [if_pos c19] at H; have c19b0 := eq_true c19; have c19b1 : decide (a2 ≤ (wrap64 (a2 + a3))) = true := decide_eq_true c19; by_cases c20 : (wrap64 (a2 + a3)) ≤ (l1.length : Int)
      rotate_left
      ·
       rw [if_neg c20] at H; exact absurd H (by simp)
      rw [if_pos c20] at H; have c20b0 := eq_true c20; have c20b1 : decide ((wrap64 (a2 + a3)) ≤ (l1.length : Int)) = true := decide_eq_true c20; replace H := Option.bind_eq_some_iff.mp H; obtain ⟨t260, A210, H⟩ := H; (try dsimp only at H); have A21 := Aside0.mk A210; clear A210; simp only [Option.some.injEq, Prod.mk.injEq] at H; obtain ⟨rfl, rfl⟩ := H; go_enter Try.func61, Try.ntmps61
      go_wp2_with (first | ((with_reducible refine gate_dst (N := 4) rfl ?_); (try (refine gate_guard (by rfl) ?_; dsimp only)); refine box_event ?hg (N := 4) ?hd (cs := #[.int .i64 a0_0, .int .i64 a0_1, .slice A0_2 l0_2.length c0_2, .slice A0_3 l0_3.length c0_3, .slice A0_4 l0_4.length c0_4, .slice A0_5 l0_5.length c0_5, .slice A0_6 l0_6.length c0_6, .bool a0_7]) (t := 31) ?hr ?_; (case hd => rfl); (case hg => rfl); (case hr => first | (go_simp; done) | (go_simp; rfl)); intro gb258 hg w22 hbox hb; have n0_ := Aside0.mk (below_step (hb0_ HB.out) hb); have n1_ := Aside0.mk (hbox); have n2_ := Aside0.mk ((by rw [hg]; exact (below_size (hb0_ HB.out)) : w.heap.size ≤ gb258)); have n3_ := Aside0.mk ((by rw [hg]; exact (below_size (hb0_ HB.out)) : w.heap.size ≤ gb258)); clear HB; revert n0_ n1_ n2_ n3_; intro HB BK258 GW258 GE258; clear hb hbox hg; obtain ⟨hcz23_0, hcz23_1, hcz23_2, hcz23_3, hcz23_4, hcz23_5, hcz23_6, hcz23_7, hfz23_0, hfz23_1, hfz23_2, hfz23_3, hfz23_4, hfz23_5, hfz23_6, hfz23_7⟩ := bx8_ BK258.out; obtain ⟨i024, hi024, _, hsz24, _⟩ := info_parts info5; obtain ⟨A24, hcut24, hA24, hC24⟩ := print_mid_of (P := Try.prog) (Value.int .u8) 0 27 5 .i64 .i64 Try.underlying27 hi024 hsz24 A1 c1 l1 a2 (wrap64 (a2 + a3)) od_ (by first | omega | exact od_) od_ HC1.out; have HR259 := Aside0.mk (Kd.C_of_reads (h1 := fun _ => rfl) (hA24 _ (Kd.reads_of_C HR1.out))); have HC259 := Aside0.mk hC24; clear hA24 hC24 hi024 hsz24) | ((with_reducible refine gate_callee (f := 81) rfl ?_); refine goesL_ (some 41) rfl rfl Try.func81 (by kernel_rfl) rfl #[.slice A24 ((l1.take ((wrap64 (a2 + a3)) : Int).toNat).drop (a2 : Int).toNat).length (c1 - a2.toNat)] rfl (by (try simp only [List.map_toArray, List.map_cons, List.map_nil]); first | done | (rw [show ((l1.take ((wrap64 (a2 + a3)) : Int).toNat).drop (a2 : Int).toNat).length = ((wrap64 (a2 + a3)).toNat - a2.toNat) from (by rw [List.length_drop, List.length_take]; have h_ : ((wrap64 (a2 + a3)) : Int) ≤ (l1.length : Int) := od_; omega)] <;> rfl) | rfl | (simp only [List.length_drop, List.length_take]; rfl)) ?_; (with_reducible refine (CloneB.calls _ _ ((l1.take ((wrap64 (a2 + a3)) : Int).toNat).drop (a2 : Int).toNat) t260 _ ?side1 ?side2 A21.out).mono ?_); (case side1 => exact kD_ (Kd.C_below HR259.out HB.out)); (case side2 => exact HC259.out); rintro e w25 ⟨v261, rfl, ho0, hb⟩; refine ⟨_, rfl, ?_⟩; have n0_ := Aside0.mk (Kd.R_lower ho0 (below_size (hb1_ HB.out GE258.out))); have n1_ := Aside0.mk (bb_ BK258.out hb); have n2_ := Aside0.mk (below_step (hb1_ HB.out GE258.out) hb); clear BK258 HB; revert n0_ n1_ n2_; intro HO262 BK258 HB; (try clear hb); (try clear hb2); (try clear hk); (try clear hi); (try clear ho0)))
      go_ret2
      exact ⟨_, by first | rfl | (simp [errW_none, errW_some] <;> rfl) | (simp [*, errW_none, errW_some] <;> rfl), by (with_reducible repeat (first | apply Kd.R_alloc | apply Kd.R_drewN | apply Kd.R_drew)); exact HO262.out, (hb1_ HB.out GE258.out)⟩
 ·
  rw [if_neg c5] at H; have c5b0 : ((l1.length : Int) == a0_0) = false := beq_eq_false_iff_ne.mpr c5; have c5b1 : ((l1.length : Int) != a0_0) = true := bne_iff_ne.mpr c5; simp only [Option.some.injEq, Prod.mk.injEq] at H; obtain ⟨rfl, rfl⟩ := H; go_enter Try.func61, Try.ntmps61
  go_wp2_with (first | ((with_reducible refine gate_dst (N := 4) rfl ?_); (try (refine gate_guard (by rfl) ?_; dsimp only)); refine box_event ?hg (N := 4) ?hd (cs := #[.int .i64 a0_0, .int .i64 a0_1, .slice A0_2 l0_2.length c0_2, .slice A0_3 l0_3.length c0_3, .slice A0_4 l0_4.length c0_4, .slice A0_5 l0_5.length c0_5, .slice A0_6 l0_6.length c0_6, .bool a0_7]) (t := 31) ?hr ?_; (case hd => rfl); (case hg => rfl); (case hr => first | (go_simp; done) | (go_simp; rfl)); intro gb258 hg w26 hbox hb; have n0_ := Aside0.mk (below_step (hb0_ HB.out) hb); have n1_ := Aside0.mk (hbox); have n2_ := Aside0.mk ((by rw [hg]; exact (below_size (hb0_ HB.out)) : w.heap.size ≤ gb258)); have n3_ := Aside0.mk ((by rw [hg]; exact (below_size (hb0_ HB.out)) : w.heap.size ≤ gb258)); clear HB; revert n0_ n1_ n2_ n3_; intro HB BK258 GW258 GE258; clear hb hbox hg; obtain ⟨hcz27_0, hcz27_1, hcz27_2, hcz27_3, hcz27_4, hcz27_5, hcz27_6, hcz27_7, hfz27_0, hfz27_1, hfz27_2, hfz27_3, hfz27_4, hfz27_5, hfz27_6, hfz27_7⟩ := bx8_ BK258.out))
  go_ret2
  exact ⟨_, by first | rfl | (simp [errW_none, errW_some] <;> rfl) | (simp [*, errW_none, errW_some] <;> rfl), by first | exact Kd.R_nil _ _ _ _ _ | exact Kd.N_nil _ _ _ _ _ | exact Kd.V_nil _ _ _ _ _ | exact Kd.Q_nil _ _ _ _ _ | exact Kd.S_nil _ _ _ _ _, (hb1_ HB.out GE258.out)⟩

/-! ### bits_Mul32: function 97 -/
def bits_Mul32.f (a0 : Int) (a1 : Int) : Option (Int × Int) := some (((IntKind.u64.wrap ((IntKind.u64.wrap (a0)) * (IntKind.u64.wrap (a1)))) / 4294967296) % 4294967296, (IntKind.u64.wrap ((IntKind.u64.wrap (a0)) * (IntKind.u64.wrap (a1)))) % 4294967296)
set_option maxHeartbeats 8000000 in
set_option maxRecDepth 100000 in
theorem bits_Mul32.calls (a0 : Int) (a1 : Int) (r1 : Int) (r2 : Int) (w : World) (h : bits_Mul32.f a0 a1 = some (r1, r2)) :
  Calls Try.prog 97 #[.int .u32 a0, .int .u32 a1] w fun e w' => e = .returned (.tuple #[.int .u32 r1, .int .u32 r2]) ∧ Drawn0 w w' := by
 have H : (some (((IntKind.u64.wrap ((IntKind.u64.wrap (a0)) * (IntKind.u64.wrap (a1)))) / 4294967296) % 4294967296, (IntKind.u64.wrap ((IntKind.u64.wrap (a0)) * (IntKind.u64.wrap (a1)))) % 4294967296)) = some (r1, r2) := h; clear h; simp only [Option.some.injEq, Prod.mk.injEq] at H; obtain ⟨rfl, rfl⟩ := H; go_enter Try.func97, Try.ntmps97
 go_wp2
 go_ret2
 exact ⟨rf_, by repeat (first | exact Drawn0.refl _ | apply Drawn0.step)⟩

/-! ### bits_Mul64: function 98 -/
def bits_Mul64.f (a0 : Int) (a1 : Int) : Option (Int × Int) := some (IntKind.u64.wrap ((IntKind.u64.wrap ((IntKind.u64.wrap ((a0 / 4294967296) * (a1 / 4294967296))) + ((IntKind.u64.wrap ((IntKind.u64.wrap ((a0 / 4294967296) * (Go.bits .and .u64 a1 4294967295))) + ((IntKind.u64.wrap ((Go.bits .and .u64 a0 4294967295) * (Go.bits .and .u64 a1 4294967295))) / 4294967296))) / 4294967296))) + ((IntKind.u64.wrap ((Go.bits .and .u64 (IntKind.u64.wrap ((IntKind.u64.wrap ((a0 / 4294967296) * (Go.bits .and .u64 a1 4294967295))) + ((IntKind.u64.wrap ((Go.bits .and .u64 a0 4294967295) * (Go.bits .and .u64 a1 4294967295))) / 4294967296))) 4294967295) + (IntKind.u64.wrap ((Go.bits .and .u64 a0 4294967295) * (a1 / 4294967296))))) / 4294967296)), IntKind.u64.wrap (a0 * a1))
set_option maxHeartbeats 8000000 in
set_option maxRecDepth 100000 in
theorem bits_Mul64.calls (a0 : Int) (a1 : Int) (r1 : Int) (r2 : Int) (w : World) (h : bits_Mul64.f a0 a1 = some (r1, r2)) :
  Calls Try.prog 98 #[.int .u64 a0, .int .u64 a1] w fun e w' => e = .returned (.tuple #[.int .u64 r1, .int .u64 r2]) ∧ Drawn0 w w' := by
 have H : (some (IntKind.u64.wrap ((IntKind.u64.wrap ((IntKind.u64.wrap ((a0 / 4294967296) * (a1 / 4294967296))) + ((IntKind.u64.wrap ((IntKind.u64.wrap ((a0 / 4294967296) * (Go.bits .and .u64 a1 4294967295))) + ((IntKind.u64.wrap ((Go.bits .and .u64 a0 4294967295) * (Go.bits .and .u64 a1 4294967295))) / 4294967296))) / 4294967296))) + ((IntKind.u64.wrap ((Go.bits .and .u64 (IntKind.u64.wrap ((IntKind.u64.wrap ((a0 / 4294967296) * (Go.bits .and .u64 a1 4294967295))) + ((IntKind.u64.wrap ((Go.bits .and .u64 a0 4294967295) * (Go.bits .and .u64 a1 4294967295))) / 4294967296))) 4294967295) + (IntKind.u64.wrap ((Go.bits .and .u64 a0 4294967295) * (a1 / 4294967296))))) / 4294967296)), IntKind.u64.wrap (a0 * a1))) = some (r1, r2) := h; clear h; simp only [Option.some.injEq, Prod.mk.injEq] at H; obtain ⟨rfl, rfl⟩ := H; go_enter Try.func98, Try.ntmps98
 go_wp2
 go_ret2
 exact ⟨rf_, by repeat (first | exact Drawn0.refl _ | apply Drawn0.step)⟩

/-! ### bits_Mul: function 94 -/
def bits_Mul.f (a0 : Int) (a1 : Int) : Option (Int × Int) := (bits_Mul64.f a0 a1).bind fun bt263 => (some (bt263.1, bt263.2))
set_option maxHeartbeats 8000000 in
set_option maxRecDepth 100000 in
theorem bits_Mul.calls (a0 : Int) (a1 : Int) (r1 : Int) (r2 : Int) (w : World) (h : bits_Mul.f a0 a1 = some (r1, r2)) :
  Calls Try.prog 94 #[.int .u64 a0, .int .u64 a1] w fun e w' => e = .returned (.tuple #[.int .u64 r1, .int .u64 r2]) ∧ Drawn0 w w' := by
 have H : ((bits_Mul64.f a0 a1).bind fun bt263 => (some (bt263.1, bt263.2))) = some (r1, r2) := h; clear h; replace H := Option.bind_eq_some_iff.mp H; obtain ⟨⟨t263, t264⟩, A30, H⟩ := H; (try dsimp only at H); have A3 := Aside0.mk A30; clear A30; simp only [Option.some.injEq, Prod.mk.injEq] at H; obtain ⟨rfl, rfl⟩ := H; go_enter Try.func94, Try.ntmps94
 go_wp2_with (first | ((with_reducible refine gate_callee (f := 98) rfl ?_); refine goesL_ (some 25) rfl rfl Try.func98 (by kernel_rfl) rfl #[.int .u64 a0, .int .u64 a1] rfl lm_ ?_; (with_reducible refine (bits_Mul64.calls a0 a1 t263 t264 _ A3.out).mono ?_); rintro e w' ⟨rfl, ⟨nd, rfl⟩⟩; refine ⟨_, rfl, ?_⟩))
 go_ret2
 exact ⟨rf_, by repeat (first | exact Drawn0.refl _ | apply Drawn0.step)⟩

/-! ### Extend: function 46 (by hand) -/
/-- A row of bytes of the call's own whose block may be longer than its capacity. -/
def ExtRow (w : World) (base : Nat) (v : Value) (xs : List Int) : Prop :=
  ∃ g cap cur, v = .slice (some ⟨g, 0, none⟩) xs.length cap ∧ base ≤ g ∧ w.heap[g]? = some (.cells cur 5 (0, 0)) ∧ xs.length ≤ cap ∧ cap ≤ cur.size ∧ xs.length ≤ 1024 ∧ cur.toList.take xs.length = nums .u8 xs
theorem bits_Mul_one : ∀ n : Fin 1025, bits_Mul.f 1 (n.val : Int) = some (0, (n.val : Int)) := by decide +kernel
theorem splice_take (L : List Value) (b m : Nat) (x : Value) (hL : ∀ j, j < b → L[j]? = some x) (hm : m ≤ b) (hb : b + m ≤ L.length) :
    ∀ j, j < b + m → (splice L b (L.take m))[j]? = some x := by
  intro j hj; unfold splice; rw [List.getElem?_append]; simp only [List.length_take]; split
  · rename_i h
    rw [List.getElem?_take, if_pos (by omega)]; exact hL j (by omega)
  · rename_i h
    rw [List.getElem?_append]; simp only [List.length_take]; rw [if_pos (by omega), List.getElem?_take, if_pos (by omega)]; exact hL _ (by omega)
theorem callNoZero (n : Nat) (hn : n ≤ 1024) (w : World) (nd : Nat) : ∃ cs : Array Value, (callFunc 95 #[.int .i64 (n : Int)]).run Try.prog (w.drewN nd) = .ok (.value (.slice (some ⟨w.heap.size, 0, none⟩) n cs.size)) ((w.alloc (.cells cs 5)).drewN (nd + 2)) ∧ n ≤ cs.size := by
  obtain ⟨cs, hrunM, hle, _⟩ := Lib.run_makeNoZero (P := Try.prog) (w.drewN nd) #[3] 27 5 Try.underlying27 n (by omega); refine ⟨cs, ?_, hle⟩; rw [run_callFunc_extern Try.func95 (by kernel_rfl) (by kernel_rfl) (by kernel_rfl) (e := Extern.BytealgMakeNoZero.makeNoZero #[3] #[27]) (by kernel_rfl), hrunM]; rfl
theorem one_src {W : World} {b o : Nat} {x : Value} (h : W.cell? ⟨b, o, none⟩ = some x) : ∀ j v, [x][j]? = some v → W.cell? ((⟨b, o, none⟩ : Addr).add j) = some v := by
  intro j v hj; rcases j with _ | j
  · simp only [List.getElem?_cons_zero, Option.some.injEq] at hj
    subst hj; simpa [Go.Addr.add] using h
  · simp at hj
theorem cells_one {L : List Value} {k m : Nat} (h : ∀ j, j < k → L[j]? = some (Value.int .u8 255)) (hm : m ≤ k) {v : Value} (hv : v ∈ L.take m) : v.oneCell' = true := by
  obtain ⟨j, hj⟩ := List.mem_iff_getElem?.1 hv; rw [List.getElem?_take] at hj; split at hj
  · rw [h j (by omega)] at hj
    obtain rfl := Option.some.inj hj; rfl
  · cases hj
theorem self_src {W : World} {g : Nat} {L : List Value} (h : W.heap[g]? = some (.cells L.toArray 5 (0, 0))) (m : Nat) : ∀ j v, (L.take m)[j]? = some v → W.cell? ((⟨g, 0, none⟩ : Addr).add j) = some v := by
  intro j v hj; rw [List.getElem?_take] at hj; split at hj
  · rw [add_plain, cell_of_row W g j L.toArray 5 (0, 0) h]
    simpa using hj
  · cases hj
theorem cut1 (g n k : Nat) (h : k < n) (W : World) : (Instr.slice 27 (.slice (some ⟨g, 0, none⟩) n n) (some (.int .i64 (k : Int))) none none).run Try.prog W = .ok (.slice (some ⟨g, k, none⟩) (n - k) (n - k)) W := by
  have hu := Try.underlying27; have h1 : ¬ (n < k) := by omega
  have h2 : ¬ (n = k) := by omega
  have h3 : (k : Int) ≤ (n : Int) := by omega
  have h0 : (0 : Int) ≤ (k : Int) := by omega
  go_simp
theorem cut2 (g n k : Nat) (h : k < n) (hn : n ≤ 1024) (W : World) : (Instr.slice 27 (.slice (some ⟨g, 0, none⟩) n n) none (some (.int .i64 (k : Int))) none).run Try.prog W = .ok (.slice (some ⟨g, 0, none⟩) k n) W := by
  have hu := Try.underlying27; have h3 : (k : Int) ≤ (n : Int) := by omega
  have h0 : (0 : Int) ≤ (k : Int) := by omega
  go_simp
theorem info5s : (Try.prog.info? 5).map (·.size) = some 1 := by kernel_rfl
set_option maxHeartbeats 4000000 in
set_option maxRecDepth 100000 in
theorem Repeat.pos (b o c n : Nat) (hn : n ≤ 1024) (h0 : 0 < n) (w : World) (hc : w.cell? ⟨b, o, none⟩ = some (.int .u8 255)) :
    Calls Try.prog 87 #[.slice (some ⟨b, o, none⟩) 1 c, .int .i64 (n : Int)] w fun e w' => ∃ v, e = .returned v ∧ ExtRow w' w.heap.size v (List.replicate n 255) ∧ Below w.heap.size w w' := by
  have HM := Aside0.mk (bits_Mul_one ⟨n, by omega⟩); have e0 : ((n : Int) == 0) = false := by simp; omega
  have i0 : (0 : Int) ≤ (n : Int) := by omega
  have i2 : (n : Int) ≤ 1024 := by omega
  have hlt0 : decide ((n : Int) < 0) = false := by simp
  go_enter Try.func87, Try.ntmps87
  go_wp2_with (first | (go_at_call 94; (with_reducible refine (bits_Mul.calls 1 (n : Int) 0 (n : Int) _ HM.out).mono ?_); rintro e w' ⟨rfl, ⟨nd, rfl⟩⟩; obtain ⟨cs, hcall, hle⟩ := callNoZero n hn w nd; have i1 : (n : Int) ≤ (cs.size : Int) := (by omega)) | ((with_reducible refine gate_builtin (b := .copy) (xs := #[.tmp 58, .tmp 59]) rfl ?_); refine wpList_copy_splice (by rfl) (.tmp 58) (.tmp 59) 27 27 (by rfl) 5 Try.underlying27 info5s (some ⟨w.heap.size, 0, none⟩) (some ⟨b, o, none⟩) n n 1 c (by rfl) (by rfl) w.heap.size 0 cs.toList 5 ?hg [.int .u8 255] ?hn ?hpos ?hfit ?h1 w.heap.size w ?hb ?hBg ?_; (case hg => exact heap_alloc_new w _); (case hn => show (1 : Nat) = min 1 n; omega); (case hpos => exact fun _ => ⟨rfl, ⟨b, o, none⟩, rfl, one_src ((World.cell?_alloc_lt w (.cells cs 5) ⟨b, o, none⟩ (World.block_lt_of_cell? w _ hc)).trans hc)⟩); (case hfit => simp; omega); (case h1 => simp [Value.oneCell']); (case hb => exact pw_below_drewN ((Below.refl _ _).alloc (Nat.le_refl _) _) _); (case hBg => exact Nat.le_refl _); intro w3 hg3 hb3; have HG3 := Aside0.mk hg3.out; have HB3 := Aside0.mk hb3; clear hg3 hb3))
  have H3 : ∀ j, j < 1 → (splice cs.toList 0 [Value.int .u8 255])[j]? = some (.int .u8 255) := by
    intro j hj; obtain rfl : j = 0 := by omega
    simp [splice]
  have L3 : (splice cs.toList 0 [Value.int .u8 255]).length = cs.size := by
    rw [length_splice _ _ _ (by simp; omega)]; simp
  obtain ⟨LL, hLL⟩ : ∃ LL, splice cs.toList 0 [Value.int .u8 255] = LL := ⟨_, rfl⟩; rw [hLL] at HG3 H3 L3; clear hLL; have HH3 := Aside0.mk H3; have HL3 := Aside0.mk L3; clear H3 L3; go_loopg [10] (n - 1) (fun kq v10 wr => ∃ (k : Nat) (L : List Value), v10 = .int .i64 k ∧ Aside0 (1 ≤ k ∧ k ≤ n ∧ kq = n - k) ∧ Aside0 (L.length = cs.size) ∧ Aside0 (∀ j, j < k → L[j]? = some (.int .u8 255)) ∧ Aside0 (wr.heap[w.heap.size]? = some (.cells L.toArray 5 (0, 0))) ∧ Aside0 (Below w.heap.size w wr))
  case atStart => exact ⟨1, LL, rfl, ⟨by omega, by omega, by omega⟩, HL3, HH3, HG3, HB3⟩
  case round =>
    clear HL3 HH3 HG3 HB3; obtain ⟨k, L, rfl, HK, HL, HH, HG, HB⟩ := hrel; by_cases hkn : k < n
    · have hk1 := HK.out.1
      go_wp2
      have s0 : (0 : Int) ≤ (k : Int) := by omega
      have s1 : (k : Int) ≤ (n : Int) := by omega
      have HC := Aside0.mk hle; obtain ⟨m, hm⟩ : ∃ m, m = min k (n - k) := ⟨_, rfl⟩; have HMM := Aside0.mk hm; have HM1 := Aside0.mk (show m ≤ k by omega); have HM2 := Aside0.mk (show k + m ≤ n by omega); have HM3 := Aside0.mk (show 1 ≤ m by omega); have m0 : (0 : Int) ≤ (m : Int) := by omega
      have m1 : (k : Int) + (m : Int) ≤ 1024 := by omega
      have HLM := Aside0.mk (show (L.take m).length = m by rw [List.length_take]; have := HL.out; omega); have HW := Aside0.mk (show wrap64 ((k : Int) + (m : Int)) = ((k + m : Nat) : Int) by unfold wrap64; omega); clear hm; have hcut1 : ∀ W, (Instr.slice 27 (.slice (some ⟨w.heap.size, 0, none⟩) n n) (some (.int .i64 (k : Int))) none none).run Try.prog W = .ok (.slice (some ⟨w.heap.size, k, none⟩) (n - k) (n - k)) W := cut1 w.heap.size n k hkn; have hcut2 : ∀ W, (Instr.slice 27 (.slice (some ⟨w.heap.size, 0, none⟩) n n) none (some (.int .i64 (k : Int))) none).run Try.prog W = .ok (.slice (some ⟨w.heap.size, 0, none⟩) k n) W := cut2 w.heap.size n k hkn hn; replace HG : Aside0 (wr.drew.heap[w.heap.size]? = some (.cells L.toArray 5 (0, 0))) := ⟨HG.out⟩; replace HB : Aside0 (Below w.heap.size w wr.drew) := ⟨below_drew HB.out⟩; refine start_ (n := 10) (S := fun w' => True) (ds := []) (mk_ 0 10) (by kernel_rfl) rfl rfl trivial (fun hHeld => ?_); generalize wr.drew = w4 at HG HB hHeld ⊢; refine pure_ (i := 0) (N := some 67) (v := ?_) (a' := ?_) (mk_ 1 10) rfl rfl (by kernel_rfl) (fun _ _ _ h => h) (Or.inl ⟨by rfl, ?_⟩) ?_ ?_; rotate_left
      · intro w'
        go_simp
        with_reducible rfl
      rotate_left
      · simp only [Act.put, List.setIfInBounds_toArray, List.set_cons_zero, List.set_cons_succ, i64_w, i32_w]
        rfl
      refine pure_ (i := 1) (N := some 68) (v := ?_) (a' := ?_) (mk_ 2 10) rfl rfl (by kernel_rfl) (fun _ _ _ h => h) (Or.inl ⟨by rfl, ?_⟩) ?_ ?_; rotate_left
      · intro w'
        go_simp
        with_reducible rfl
      rotate_left
      · simp only [Act.put, List.setIfInBounds_toArray, List.set_cons_zero, List.set_cons_succ, i64_w, i32_w]
        rfl
      refine pure_ (i := 2) (N := some 69) (v := ?_) (a' := ?_) (mk_ 3 10) rfl rfl (by kernel_rfl) (fun _ _ _ h => h) (Or.inl ⟨by rfl, ?_⟩) ?_ ?_; rotate_left
      · intro w'
        go_simp
        with_reducible rfl
      rotate_left
      · simp only [Act.put, List.setIfInBounds_toArray, List.set_cons_zero, List.set_cons_succ, i64_w, i32_w]
        rfl
      refine pure_ (i := 3) (N := some 70) (v := ?_) (a' := ?_) (mk_ 4 10) rfl rfl (by kernel_rfl) (fun _ _ _ h => h) (Or.inl ⟨by rfl, ?_⟩) ?_ ?_; rotate_left
      · intro w'
        go_simp
        with_reducible rfl
      rotate_left
      · simp only [Act.put, List.setIfInBounds_toArray, List.set_cons_zero, List.set_cons_succ, i64_w, i32_w]
        rfl
      refine pure_ (i := 4) (N := some 71) (v := ?_) (a' := ?_) (mk_ 5 10) rfl rfl (by kernel_rfl) (fun _ _ _ h => h) (Or.inl ⟨by rfl, ?_⟩) ?_ ?_; rotate_left
      · intro w'
        go_simp
        with_reducible rfl
      rotate_left
      · simp only [Act.put, List.setIfInBounds_toArray, List.set_cons_zero, List.set_cons_succ, i64_w, i32_w]
        rfl
      refine pure_ (i := 5) (N := some 72) (v := ?_) (a' := ?_) (mk_ 6 10) rfl rfl (by kernel_rfl) (fun _ _ _ h => h) (Or.inl ⟨by rfl, ?_⟩) ?_ ?_; rotate_left
      · intro w'
        go_simp
        with_reducible rfl
      rotate_left
      · simp only [Act.put, List.setIfInBounds_toArray, List.set_cons_zero, List.set_cons_succ, i64_w, i32_w]
        rfl
      refine pure_ (i := 6) (N := some 73) (v := ?_) (a' := ?_) (mk_ 7 10) rfl rfl (by kernel_rfl) (fun _ _ _ h => h) (Or.inl ⟨by rfl, ?_⟩) ?_ ?_; rotate_left
      · intro w'
        go_simp
        with_reducible rfl
      rotate_left
      · simp only [Act.put, List.setIfInBounds_toArray, List.set_cons_zero, List.set_cons_succ, i64_w, i32_w]
        rfl
      refine one_ (i := 7) (N := some 74) (mk_ 8 10) rfl rfl (by kernel_rfl) (by decide) (fun K hK => ?_); refine step_copy_splice (by rfl) (.tmp 70) (.tmp 73) 27 27 (by rfl) 5 Try.underlying27 info5s (some ⟨w.heap.size, k, none⟩) (some ⟨w.heap.size, 0, none⟩) (n - k) (n - k) k n (by rfl) (by rfl) w.heap.size k L 5 ?hg (L.take m) ?hn ?hpos ?hfit ?h1 w.heap.size w ?hb ?hBg ?_; (case hg => exact HG.out)
      (case hn => show _ = min k (n - k); rw [HLM.out]; exact HMM.out)
      (case hpos => exact fun _ => ⟨rfl, _, rfl, self_src HG.out _⟩)
      (case hfit => rw [HLM.out]; have := HL.out; have := HC.out; have := HM2.out; omega)
      (case h1 => exact fun v hv => cells_one HH.out HM1.out hv)
      (case hb => exact HB.out)
      (case hBg => exact Nat.le_refl _)
      intro w5 hg5 hb5; have HG5 := Aside0.mk hg5.out; have HB5 := Aside0.mk hb5; clear hg5 hb5; rw [HLM.out]; refine hK.out _ _ trivial (fun hHeld => ?_); clear hK K; refine norm_ (a' := ?_) ?_ ?_; rotate_left
      · show Act.put _ (some 74) _ = _
        simp only [Act.put, List.setIfInBounds_toArray, List.set_cons_zero, List.set_cons_succ, i64_w, i32_w]; rfl
      refine pure_ (i := 8) (N := some 75) (v := ?_) (a' := ?_) (mk_ 9 10) rfl rfl (by kernel_rfl) (fun _ _ _ h => h) (Or.inl ⟨by rfl, ?_⟩) ?_ ?_; rotate_left
      · intro w'
        go_simp
        with_reducible rfl
      rotate_left
      · simp only [Act.put, List.setIfInBounds_toArray, List.set_cons_zero, List.set_cons_succ, i64_w, i32_w]
        rfl
      refine pure_ (i := 9) (N := some 10) (v := ?_) (a' := ?_) (mk_ 10 10) rfl rfl (by kernel_rfl) (fun _ _ _ h => h) (Or.inl ⟨by rfl, ?_⟩) ?_ ?_; rotate_left
      · intro w'
        go_simp
        with_reducible rfl
      rotate_left
      · simp only [Act.put, List.setIfInBounds_toArray, List.set_cons_zero, List.set_cons_succ, i64_w, i32_w]
        rfl
      refine done_ (by kernel_rfl) ?_

      go_wp2
      go_roundg (n - (k + m))
      case measure => have := HK.out; have := HM3.out; have := HM2.out; omega
      case rel => exact ⟨k + m, splice L k (L.take m), by rw [HW.out], ⟨by omega, HM2.out, rfl⟩, ⟨by rw [length_splice _ _ _ (by rw [HLM.out]; have := HL.out; have := HC.out; have := HM2.out; omega)]; exact HL.out⟩, ⟨splice_take L k m _ HH.out HM1.out (by have := HL.out; have := HC.out; have := HM2.out; omega)⟩, HG5, HB5⟩
    · obtain rfl : k = n := by have := HK.out; omega
      clear hkn; have hl : decide (k < k) = false := by simp
      go_wp2
      go_ret
      refine ⟨_, rfl, ⟨w.heap.size, k, L.toArray, by simp, Nat.le_refl _, HG.out, by simp, by simp [HL.out]; omega, by simp; omega, ?_⟩, HB.out⟩; apply List.ext_getElem?
      intro j; have hL := HL.out; by_cases hj : j < k
      · rw [List.getElem?_take, if_pos (by simpa using hj)]
        rw [show L.toArray.toList[j]? = L[j]? from rfl, HH.out j hj]; simp [nums, hj]
      · rw [List.getElem?_eq_none (by simp; omega), List.getElem?_eq_none (by simp [nums]; omega)]
theorem ExtRow_nil (w : World) (g : Nat) (base : Nat) (hb : base ≤ g) (cur : Array Value) (h : w.heap[g]? = some (.cells cur 5 (0, 0))) : ExtRow w base (.slice (some ⟨g, 0, none⟩) 0 0) [] :=
  ⟨g, 0, cur, rfl, hb, h, Nat.le_refl _, Nat.zero_le _, by simp, by simp [nums]⟩
theorem Repeat.zero (b o c : Nat) (w : World) :
    Calls Try.prog 87 #[.slice (some ⟨b, o, none⟩) 1 c, .int .i64 (0 : Int)] w fun e w' => ∃ v, e = .returned v ∧ ExtRow w' w.heap.size v [] ∧ Below w.heap.size w w' := by
  go_enter Try.func87, Try.ntmps87
  go_wp2
  go_ret
  exact ⟨_, rfl, ExtRow_nil _ w.heap.size _ (Nat.le_refl _) _ (heap_alloc_new w _), (Below.refl _ _).alloc (Nat.le_refl _) _⟩
theorem Repeat.all (b o c n : Nat) (hn : n ≤ 1024) (w : World) (hc : w.cell? ⟨b, o, none⟩ = some (.int .u8 255)) :
    Calls Try.prog 87 #[.slice (some ⟨b, o, none⟩) 1 c, .int .i64 (n : Int)] w fun e w' => ∃ v, e = .returned v ∧ ExtRow w' w.heap.size v (List.replicate n 255) ∧ Below w.heap.size w w' := by
  rcases Nat.eq_zero_or_pos n with h | h
  · subst h
    exact Repeat.zero b o c w
  · exact Repeat.pos b o c n hn h w hc
theorem src_of_C {w : World} {A : Option Addr} {n : Nat} {xs : List Int} (h : Kd.C (Kd.int .u8) w A n xs) (hp : 0 < n) : ∃ ad, A = some ad ∧ ∀ j v, (nums .u8 xs)[j]? = some v → w.cell? (ad.add j) = some v := by
  have hl : xs.length = n := h.1; obtain ⟨ad, e, _⟩ := Kd.at_int h 0 (by omega) (by omega); refine ⟨ad, e, fun j v hj => ?_⟩; have hlt : j < xs.length := by
    rcases Nat.lt_or_ge j xs.length with h1 | h1
    · exact h1
    · rw [List.getElem?_eq_none (by simpa [nums] using h1)] at hj
      cases hj
  obtain ⟨ad2, e2, hc⟩ := Kd.at_int h (j : Int) (by omega) (by omega); rw [e] at e2; obtain rfl := Option.some.inj e2; rw [Int.toNat_natCast] at hc; rw [hc, ← hj]; simp [nums, rd, List.getElem?_eq_getElem hlt, List.getD_eq_getElem?_getD]
theorem take_splice0 (cur : List Value) (cs : List Value) (n : Nat) (h : cs.length ≤ n) : (splice cur 0 cs).take n = cs ++ (cur.take n).drop cs.length := by
  unfold splice; simp only [List.take_zero, List.nil_append, Nat.zero_add]; rw [List.take_append, List.take_of_length_le h, List.drop_take]
theorem nums_take_some {k : IntKind} {xs : List Int} {n j : Nat} {v : Value} (h : (nums k (xs.take n))[j]? = some v) : (nums k xs)[j]? = some v := by
  unfold nums at h ⊢; rw [List.map_take, List.getElem?_take] at h; split at h
  · exact h
  · cases h
theorem nums_one {k : IntKind} {xs : List Int} {v : Value} (h : v ∈ nums k xs) : v.oneCell' = true := by
  unfold nums at h; obtain ⟨x, _, rfl⟩ := List.mem_map.1 h; rfl
def ext (l0 : List Int) (a1 : Int) : List Int := l0.take (min (max a1 0) 1024).toNat ++ List.replicate ((min (max a1 0) 1024).toNat - l0.length) 255
theorem ext_n (l0 : List Int) (a1 : Int) (n : Nat) (h : (n : Int) = min (max a1 0) 1024) : ext l0 a1 = l0.take n ++ List.replicate (n - l0.length) 255 := by
  unfold ext; rw [← h]; rfl
theorem ext_row {w : World} {base g cap n : Nat} {cur : Array Value} (l0 : List Int) (hb : base ≤ g) (hn : n ≤ 1024) (hcap : n ≤ cap) (hcur : cap ≤ cur.size) (ht : cur.toList.take n = nums .u8 (List.replicate n 255))
    (h : w.heap[g]? = some (.cells (splice cur.toList 0 (nums .u8 (l0.take n))).toArray 5 (0, 0))) : ExtRow w base (.slice (some ⟨g, 0, none⟩) n cap) (l0.take n ++ List.replicate (n - l0.length) 255) := by
  have hl : (l0.take n ++ List.replicate (n - l0.length) 255).length = n := by simp; omega
  have hcl : (nums .u8 (l0.take n)).length = min n l0.length := by simp [nums]
  refine ⟨g, cap, _, by rw [hl], hb, h, by rw [hl]; exact hcap, ?_, by rw [hl]; exact hn, ?_⟩
  · rw [List.size_toArray, length_splice _ _ _ (by rw [hcl]; simp only [Array.length_toList]; omega), Array.length_toList]
    exact hcur
  · rw [hl]
    show (splice cur.toList 0 (nums .u8 (l0.take n))).take n = _
    rw [take_splice0 _ _ _ (by rw [hcl]; omega), ht, nums_append, hcl]; congr 1
    simp [nums]
    omega
set_option maxHeartbeats 2000000 in
set_option maxRecDepth 100000 in
theorem ExtendS.calls (A0 : Option Addr) (c0 : Nat) (l0 : List Int) (a1 : Int) (w : World) (hr0 : Kd.C (Kd.int .u8) w A0 l0.length l0) :
    Calls Try.prog 46 #[.slice A0 l0.length c0, .int .i64 a1] w fun e w' => ∃ v, e = .returned v ∧ ExtRow w' w.heap.size v (ext l0 a1) ∧ Below w.heap.size w w' := by
  obtain ⟨n, hn⟩ : ∃ n : Nat, (n : Int) = min (max a1 0) 1024 := ⟨(min (max a1 0) 1024).toNat, by omega⟩; rw [ext_n l0 a1 n hn]; have hn1 : n ≤ 1024 := by omega
  obtain ⟨j1, hj1⟩ : ∃ j : Int, (if 1024 < a1 then 1024 else a1) = j := ⟨_, rfl⟩; have hj2 : (if 0 < j1 then j1 else 0) = (n : Int) := by
    split at hj1 <;> split <;> omega
  have HR := Aside0.mk hr0; have HN := Aside0.mk hn1; clear hn hr0 hn1; go_enter Try.func46, Try.ntmps46
  go_wp2_with (first | (go_at_call 87; (with_reducible refine (Repeat.all w.heap.size 0 1 n HN.out _ (by simp)).mono ?_); rintro e w2 ⟨v2, rfl, hx, hb⟩; obtain ⟨g, cap, cur, hv, hg, hh, h1, h2, h3, h4⟩ := hx; rw [List.length_replicate] at hv h1 h3 h4; subst hv; have HB := Aside0.mk hb; have HG := Aside0.mk hg; have HH := Aside0.mk hh; have H1 := Aside0.mk h1; have H2 := Aside0.mk h2; have H4 := Aside0.mk h4; clear hb hg hh h1 h2 h3 h4) | ((with_reducible refine gate_builtin (b := .copy) (xs := #[.tmp 12, .tmp 13]) rfl ?_); refine wpList_copy_splice (by rfl) (.tmp 12) (.tmp 13) 27 27 (by rfl) 5 Try.underlying27 info5s (some ⟨g, 0, none⟩) A0 n cap l0.length c0 (by rfl) (by rfl) g 0 cur.toList 5 ?hg (nums .u8 (l0.take n)) ?hn ?hpos ?hfit ?h1 w.heap.size w ?hb ?hBg ?_; (case hg => exact HH.out); (case hn => show _ = min l0.length n; simp [nums]; omega); (case hpos => intro hp_; have hlp_ : 0 < l0.length := (by rw [nums_length, List.length_take] at hp_; omega); obtain ⟨ad_, ea_, hs_⟩ := src_of_C (Kd.C_below (Kd.C_below HR.out (below_alloc (Below.refl _ _) _)) HB.out) hlp_; exact ⟨rfl, ad_, ea_, fun j v hj => hs_ j v (nums_take_some hj)⟩); (case hfit => rw [nums_length, List.length_take]; have := H1.out; have := H2.out; simp only [Array.length_toList]; omega); (case h1 => exact fun v hv => nums_one hv); (case hb => exact below_step (below_alloc (Below.refl _ _) _) HB.out); (case hBg => have h_ := HG.out; simp only [World.size_alloc] at h_; omega); intro w3 hg3 hb3; have HG3 := Aside0.mk hg3.out; have HB3 := Aside0.mk hb3; clear hg3 hb3))
  go_ret
  exact ⟨_, rfl, ext_row l0 (by have h_ := HG.out; simp only [World.size_alloc] at h_; omega) HN.out H1.out H2.out H4.out HG3.out, HB3.out⟩
theorem ExtRow.toV {w : World} {base : Nat} {v : Value} {xs : List Int} (h : ExtRow w base v xs) : Kd.V (Kd.int .u8) 5 w base (fun k_ => base ≤ k_) v xs := by
  obtain ⟨g, cap, cur, rfl, hb, hh, h1, h2, h3, h4⟩ := h; refine Kd.V_mk h1 ?_; intro W' hW; have hlt : g < w.heap.size := (Array.getElem?_eq_some_iff.1 hh).1; have hg : W'.heap[g]? = some (.cells cur 5 (0, 0)) := (hW g hb hlt).trans hh; refine Kd.C_of_reads (d := (0 : Int)) (h1 := fun _ => rfl) ⟨rfl, by omega, fun hp => ⟨⟨g, 0, none⟩, rfl, fun j hj => ?_⟩⟩; rw [add_plain, cell_of_row W' g j cur 5 (0, 0) hg]; have e : cur.toList[j]? = (nums .u8 xs)[j]? := by
    rw [← h4, List.getElem?_take, if_pos hj]
  rw [← Array.getElem?_toList, e]; simp [nums, List.getElem?_eq_getElem hj, List.getD_eq_getElem?_getD]
def Extend.f (l0 : List Int) (a1 : Int) : Option (List Int) := some (ext l0 a1)
theorem Extend.calls (A0 : Option Addr) (c0 : Nat) (l0 : List Int) (a1 : Int) (r : List Int) (w : World) (hr0 : Kd.C (Kd.int .u8) w A0 l0.length l0) (hc0 : l0.length ≤ c0) (h : Extend.f l0 a1 = some r) :
    Calls Try.prog 46 #[.slice A0 l0.length c0, .int .i64 a1] w fun e w' => ∃ v0_ : Value, e = .returned (v0_) ∧ Kd.V (Kd.int .u8) 5 w' w.heap.size (fun k_ => (w.heap.size ≤ k_)) v0_ r ∧ Below w.heap.size w w' := by
  unfold Extend.f at h; obtain rfl := Option.some.inj h; refine (ExtendS.calls A0 c0 l0 a1 w hr0).mono ?_; rintro e w' ⟨v, rfl, hx, hb⟩; exact ⟨v, rfl, hx.toV, hb⟩

end Go.Proofs.Ytpcephbhnbfcmaa.R
