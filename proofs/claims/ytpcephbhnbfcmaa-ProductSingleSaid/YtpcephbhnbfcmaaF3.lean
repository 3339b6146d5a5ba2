-- Written by this session's program fork.py: a Lean function for each Go function and its walk. Not trusted: Lean checks it.
import Derived.Test.YtpcephbhnbfcmaaF0
import Derived.Test.YtpcephbhnbfcmaaF2
namespace Go.Proofs.Ytpcephbhnbfcmaa.F
open Go.RowKit Go.Proofs.YtpcephbhnbfcmaaW.PrintWords Go.Proofs.YtpcephbhnbfcmaaW.PrintLast Go.Proofs.YtpcephbhnbfcmaaW.PrintMore
attribute [local go_sem] max2_int min2_int max_two min_two max_three min_three max_four min_four   -- for this text's walks alone
set_option linter.unusedVariables false
set_option linter.unusedSimpArgs false

/-! ### Awake16: function 19 (by hand) -/
open List (setIfInBounds_toArray set_cons_zero set_cons_succ)
def Awake16.f : Option Bool := some true
def Awake16.told_ : Bool :=
 match product_Lay.f 60 ([(⟨1, 1, [254], ([] : List Int), ([] : List (S101)), ([] : List (S79)), ([] : List Int), false⟩ : S31), (⟨8, 8, List.replicate 8 0, ([] : List Int), ([] : List (S101)), ([] : List (S79)), ([] : List Int), false⟩ : S31), (⟨1, 1, [254], ([] : List Int), ([] : List (S101)), ([] : List (S79)), ([] : List Int), false⟩ : S31)] : List S31) with
 | some (t134, t135, t136, t139, t142, t145, t148, t151, t152) => t152 == 0 && t134 == 17 && t139.length == 3 && rd t139 1 == 8 && rd t139 2 == 16 && product_Stride.f t134 t135 t136 t139 t142 t145 t148 t151 == some 24
 | none => false
theorem Awake16.told : ∃ t134 t135 t136 t139 t142 t145 t148 t151 t152, product_Lay.f 60 ([(⟨1, 1, [254], ([] : List Int), ([] : List (S101)), ([] : List (S79)), ([] : List Int), false⟩ : S31), (⟨8, 8, List.replicate 8 0, ([] : List Int), ([] : List (S101)), ([] : List (S79)), ([] : List Int), false⟩ : S31), (⟨1, 1, [254], ([] : List Int), ([] : List (S101)), ([] : List (S79)), ([] : List Int), false⟩ : S31)] : List S31) = some (t134, t135, t136, t139, t142, t145, t148, t151, t152) ∧ t152 = 0 ∧ t134 = 17 ∧ (t139.length : Int) = 3 ∧ rd t139 1 = 8 ∧ rd t139 2 = 16 ∧ product_Stride.f t134 t135 t136 t139 t142 t145 t148 t151 = some 24 := by
 have h : Awake16.told_ = true := by decide +kernel
 unfold Awake16.told_ at h
 split at h
 ·
  rename_i t134 t135 t136 t139 t142 t145 t148 t151 t152 e
  simp only [Bool.and_eq_true, beq_iff_eq] at h
  obtain ⟨⟨⟨⟨⟨h1, h2⟩, h3⟩, h4⟩, h5⟩, h6⟩ := h
  exact ⟨t134, t135, t136, t139, t142, t145, t148, t151, t152, e, h1, h2, by omega, h4, h5, h6⟩
 ·
  cases h
def Awake16.T1 : Bool × List (List Nat × List Nat) := (true, [([], []), ([0], [0]), ([], []), ([2], [2]), ([], []), ([], []), ([4, 1, 0, 1, 4, 5], [1, 4]), ([5, 3, 6, 0, 1, 2, 3, 4, 5, 6], [3, 5])])
def Awake16.B1 : List Nat := [0, 1, 0, 4, 0, 0, 51, 127]
theorem Awake16.tab1 : rtab .any (opsOf Try.f19 1) = Awake16.T1 := by kernel_rfl
theorem Awake16.bits1 : waitsOk Awake16.T1.2 Awake16.B1 = true := by kernel_rfl
set_option maxHeartbeats 8000000 in
set_option maxRecDepth 100000 in
theorem Awake16.calls (r : Bool) (w : World) (h : Awake16.f = some r) :
  Calls Try.prog 19 #[] w fun e w' => e = .returned (.bool r) ∧ Below w.heap.size w w' := by
 have hu31 := Try.underlying31
 have HB := Aside0.mk (Below.refl w.heap.size w)
 obtain ⟨y123, hy123⟩ : ∃ y_ : List Int, y_ = (([254] : List Int)) := ⟨_, rfl⟩
 have Ny123 := Aside0.mk hy123
 clear hy123
 obtain ⟨y126, hy126⟩ : ∃ y_ : List Int, y_ = (List.replicate 8 0) := ⟨_, rfl⟩
 have Ny126 := Aside0.mk hy126
 clear hy126
 obtain ⟨y131, hy131⟩ : ∃ y_ : List (S31), y_ = (([(⟨1, 1, y123, ([] : List Int), ([] : List (S101)), ([] : List (S79)), ([] : List Int), false⟩ : S31), (⟨8, 8, y126, ([] : List Int), ([] : List (S101)), ([] : List (S79)), ([] : List Int), false⟩ : S31), (⟨1, 1, y123, ([] : List Int), ([] : List (S101)), ([] : List (S79)), ([] : List Int), false⟩ : S31)] : List (S31))) := ⟨_, rfl⟩
 have Ny131 := Aside0.mk hy131
 clear hy131
 obtain ⟨t134, t135, t136, t139, t142, t145, t148, t151, t152, A10, c2, c3, c4, c6, c8, A90⟩ := Awake16.told
 have A1 : Aside0 (product_Lay.f 60 y131 = some (t134, t135, t136, t139, t142, t145, t148, t151, t152)) := ⟨by rw [Ny131.out, Ny123.out, Ny126.out]; exact A10⟩
 clear A10
 obtain ⟨t156, ht156⟩ : ∃ t : Int, t = 24 := ⟨_, rfl⟩
 have A9 : Aside0 (product_Stride.f t134 t135 t136 t139 t142 t145 t148 t151 = some t156) := ⟨by rw [ht156]; exact A90⟩
 clear A90
 obtain rfl : (t156 == 24) = r := by rw [ht156]; exact Option.some.inj h
 clear h
 have c2b0 : (t152 == 0) = true := beq_iff_eq.mpr c2
 have c2b1 : (t152 != 0) = false := bne_eq_false_iff_eq.mpr c2
 clear c2
 have c3b0 : (t134 == 17) = true := beq_iff_eq.mpr c3
 have c3b1 : (t134 != 17) = false := bne_eq_false_iff_eq.mpr c3
 clear c3
 have c4b0 : ((t139.length : Int) == 3) = true := beq_iff_eq.mpr c4
 have c4b1 : ((t139.length : Int) != 3) = false := bne_eq_false_iff_eq.mpr c4
 have c5 : 1 < (t139.length : Int) := by omega
 have c5b0 : decide (1 < (t139.length : Int)) = true := decide_eq_true c5
 have c5b1 : decide (1 < t139.length) = true := decide_eq_true (by omega)
 clear c5
 have c6b0 : ((rd t139 1) == 8) = true := beq_iff_eq.mpr c6
 have c6b1 : ((rd t139 1) != 8) = false := bne_eq_false_iff_eq.mpr c6
 clear c6
 have c7 : 2 < (t139.length : Int) := by omega
 have c7b0 : decide (2 < (t139.length : Int)) = true := decide_eq_true c7
 have c7b1 : decide (2 < t139.length) = true := decide_eq_true (by omega)
 clear c7
 have c8b0 : ((rd t139 2) == 16) = true := beq_iff_eq.mpr c8
 have c8b1 : ((rd t139 2) != 16) = false := bne_eq_false_iff_eq.mpr c8
 clear c8
 go_enter Try.func19, Try.ntmps19
 try go_wp2
 have n0_ := Aside0.mk (below_drew1 HB.out)
 clear HB
 have HB := n0_
 clear n0_
 refine start_ (n := 8) (S := fun w' => True) (ds := []) #[false,false,false,false,false,false,false,false] (by kernel_rfl) rfl rfl trivial (fun hHeld => ?_); refine with_tabW Awake16.tab1 Awake16.bits1 (fun HT_ HW_ => ?_)
 generalize w.drew = w10 at HB hHeld ⊢
 refine join_ (σ := Value × Value × Nat × Nat) 1 #[true,true,true,true,true,true,true,false] (fun s_ => [(5, s_.1), (7, s_.2.1), (1, .pointer (some ⟨s_.2.2.1, 0, none⟩)), (2, .pointer (some ⟨s_.2.2.2, 0, none⟩)), (6, .agg #[.int .i64 1, .int .i64 1, s_.1, .slice none 0 0, .slice none 0 0, .slice none 0 0, .slice none 0 0, .bool false]), (8, .agg #[.int .i64 8, .int .i64 8, s_.2.1, .slice none 0 0, .slice none 0 0, .slice none 0 0, .slice none 0 0, .bool false])]) (fun s_ w' => (Kd.R (Kd.int .u8) 5 w' w.heap.size (fun k_ => some k_ ≠ (s_.2.1 : Value).ownBlock) s_.1 y123) ∧ (Kd.R (Kd.int .u8) 5 w' w.heap.size (fun k_ => some k_ ≠ (s_.1 : Value).ownBlock) s_.2.1 y126) ∧ (w'.heap[s_.2.2.1]? = some (.cells #[.int .i64 1, .int .i64 1, s_.1, .slice none 0 0, .slice none 0 0, .slice none 0 0, .slice none 0 0, .bool false] 31 (0, 0))) ∧ (w'.heap[s_.2.2.2]? = some (.cells #[.int .i64 0, .int .i64 0, .slice none 0 0, .slice none 0 0, .slice none 0 0, .slice none 0 0, .slice none 0 0, .bool false] 31 (0, 0))) ∧ (w.heap.size ≤ s_.2.2.1) ∧ (w.heap.size ≤ s_.2.2.1) ∧ (s_.2.2.2 ≠ s_.2.2.1) ∧ (s_.2.2.1 ≠ s_.2.2.2) ∧ (w.heap.size ≤ s_.2.2.2) ∧ (w.heap.size ≤ s_.2.2.2) ∧ (Below w.heap.size w w')) ?_ ?_
 rotate_left
 ·
  intro hJ0_2_4_5_6
  refine join_ (σ := Value × Value × Nat × Nat) 2 #[true,true,true,true,true,true,false,false] (fun s_ => [(5, s_.1), (7, s_.2.1), (1, .pointer (some ⟨s_.2.2.1, 0, none⟩)), (2, .pointer (some ⟨s_.2.2.2, 0, none⟩)), (6, .agg #[.int .i64 1, .int .i64 1, s_.1, .slice none 0 0, .slice none 0 0, .slice none 0 0, .slice none 0 0, .bool false]), (8, .agg #[.int .i64 8, .int .i64 8, s_.2.1, .slice none 0 0, .slice none 0 0, .slice none 0 0, .slice none 0 0, .bool false])]) (fun s_ w' => (Kd.R (Kd.int .u8) 5 w' w.heap.size (fun k_ => some k_ ≠ (s_.2.1 : Value).ownBlock) s_.1 y123) ∧ (Kd.R (Kd.int .u8) 5 w' w.heap.size (fun k_ => some k_ ≠ (s_.1 : Value).ownBlock) s_.2.1 y126) ∧ (w'.heap[s_.2.2.1]? = some (.cells #[.int .i64 0, .int .i64 0, .slice none 0 0, .slice none 0 0, .slice none 0 0, .slice none 0 0, .slice none 0 0, .bool false] 31 (0, 0))) ∧ (w'.heap[s_.2.2.2]? = some (.cells #[.int .i64 0, .int .i64 0, .slice none 0 0, .slice none 0 0, .slice none 0 0, .slice none 0 0, .slice none 0 0, .bool false] 31 (0, 0))) ∧ (w.heap.size ≤ s_.2.2.1) ∧ (w.heap.size ≤ s_.2.2.1) ∧ (s_.2.2.2 ≠ s_.2.2.1) ∧ (s_.2.2.1 ≠ s_.2.2.2) ∧ (w.heap.size ≤ s_.2.2.2) ∧ (w.heap.size ≤ s_.2.2.2) ∧ (Below w.heap.size w w')) ?_ ?_
  rotate_left
  ·
   intro hJ0_2_4_5
   refine join_ (σ := Value × Nat × Nat) 3 #[true,true,false,false,true,true,true,false] (fun s_ => [(5, s_.1), (1, .pointer (some ⟨s_.2.1, 0, none⟩)), (2, .pointer (some ⟨s_.2.2, 0, none⟩)), (6, .agg #[.int .i64 1, .int .i64 1, s_.1, .slice none 0 0, .slice none 0 0, .slice none 0 0, .slice none 0 0, .bool false])]) (fun s_ w' => (Kd.R (Kd.int .u8) 5 w' w.heap.size (fun _ => True) s_.1 y123) ∧ (w'.heap[s_.2.1]? = some (.cells #[.int .i64 1, .int .i64 1, s_.1, .slice none 0 0, .slice none 0 0, .slice none 0 0, .slice none 0 0, .bool false] 31 (0, 0))) ∧ (w'.heap[s_.2.2]? = some (.cells #[.int .i64 0, .int .i64 0, .slice none 0 0, .slice none 0 0, .slice none 0 0, .slice none 0 0, .slice none 0 0, .bool false] 31 (0, 0))) ∧ (w.heap.size ≤ s_.2.1) ∧ (w.heap.size ≤ s_.2.1) ∧ (s_.2.2 ≠ s_.2.1) ∧ (s_.2.1 ≠ s_.2.2) ∧ (w.heap.size ≤ s_.2.2) ∧ (w.heap.size ≤ s_.2.2) ∧ (Below w.heap.size w w')) ?_ ?_
   rotate_left
   ·
    intro hJ0_4_5_6
    refine join_ (σ := Value × Value × Nat) 3 #[true,true,true,true,true,false,false,false] (fun s_ => [(5, s_.1), (7, s_.2.1), (1, .pointer (some ⟨s_.2.2, 0, none⟩)), (6, .agg #[.int .i64 1, .int .i64 1, s_.1, .slice none 0 0, .slice none 0 0, .slice none 0 0, .slice none 0 0, .bool false]), (8, .agg #[.int .i64 8, .int .i64 8, s_.2.1, .slice none 0 0, .slice none 0 0, .slice none 0 0, .slice none 0 0, .bool false])]) (fun s_ w' => (Kd.R (Kd.int .u8) 5 w' w.heap.size (fun k_ => some k_ ≠ (s_.2.1 : Value).ownBlock) s_.1 y123) ∧ (Kd.R (Kd.int .u8) 5 w' w.heap.size (fun k_ => some k_ ≠ (s_.1 : Value).ownBlock) s_.2.1 y126) ∧ (w'.heap[s_.2.2]? = some (.cells #[.int .i64 0, .int .i64 0, .slice none 0 0, .slice none 0 0, .slice none 0 0, .slice none 0 0, .slice none 0 0, .bool false] 31 (0, 0))) ∧ (w.heap.size ≤ s_.2.2) ∧ (w.heap.size ≤ s_.2.2) ∧ (Below w.heap.size w w')) ?_ ?_
    rotate_left
    ·
     intro hJ0_2_4
     refine join_ (σ := Value × Value × Nat) 3 #[true,true,true,true,false,true,false,false] (fun s_ => [(5, s_.1), (7, s_.2.1), (2, .pointer (some ⟨s_.2.2, 0, none⟩)), (6, .agg #[.int .i64 1, .int .i64 1, s_.1, .slice none 0 0, .slice none 0 0, .slice none 0 0, .slice none 0 0, .bool false]), (8, .agg #[.int .i64 8, .int .i64 8, s_.2.1, .slice none 0 0, .slice none 0 0, .slice none 0 0, .slice none 0 0, .bool false])]) (fun s_ w' => (Kd.R (Kd.int .u8) 5 w' w.heap.size (fun k_ => some k_ ≠ (s_.2.1 : Value).ownBlock) s_.1 y123) ∧ (Kd.R (Kd.int .u8) 5 w' w.heap.size (fun k_ => some k_ ≠ (s_.1 : Value).ownBlock) s_.2.1 y126) ∧ (w'.heap[s_.2.2]? = some (.cells #[.int .i64 0, .int .i64 0, .slice none 0 0, .slice none 0 0, .slice none 0 0, .slice none 0 0, .slice none 0 0, .bool false] 31 (0, 0))) ∧ (w.heap.size ≤ s_.2.2) ∧ (w.heap.size ≤ s_.2.2) ∧ (Below w.heap.size w w')) ?_ ?_
     rotate_left
     ·
      intro hJ0_2_5
      refine join_ (σ := Value × Nat × Nat) 4 #[true,true,false,false,true,true,false,false] (fun s_ => [(5, s_.1), (1, .pointer (some ⟨s_.2.1, 0, none⟩)), (2, .pointer (some ⟨s_.2.2, 0, none⟩)), (6, .agg #[.int .i64 1, .int .i64 1, s_.1, .slice none 0 0, .slice none 0 0, .slice none 0 0, .slice none 0 0, .bool false])]) (fun s_ w' => (Kd.R (Kd.int .u8) 5 w' w.heap.size (fun _ => True) s_.1 y123) ∧ (w'.heap[s_.2.1]? = some (.cells #[.int .i64 0, .int .i64 0, .slice none 0 0, .slice none 0 0, .slice none 0 0, .slice none 0 0, .slice none 0 0, .bool false] 31 (0, 0))) ∧ (w'.heap[s_.2.2]? = some (.cells #[.int .i64 0, .int .i64 0, .slice none 0 0, .slice none 0 0, .slice none 0 0, .slice none 0 0, .slice none 0 0, .bool false] 31 (0, 0))) ∧ (w.heap.size ≤ s_.2.1) ∧ (w.heap.size ≤ s_.2.1) ∧ (s_.2.2 ≠ s_.2.1) ∧ (s_.2.1 ≠ s_.2.2) ∧ (w.heap.size ≤ s_.2.2) ∧ (w.heap.size ≤ s_.2.2) ∧ (Below w.heap.size w w')) ?_ ?_
      rotate_left
      ·
       intro hJ0_4_5
       refine join_ (σ := Value × Nat × Nat) 4 #[false,false,true,true,true,true,false,false] (fun s_ => [(7, s_.1), (1, .pointer (some ⟨s_.2.1, 0, none⟩)), (2, .pointer (some ⟨s_.2.2, 0, none⟩)), (8, .agg #[.int .i64 8, .int .i64 8, s_.1, .slice none 0 0, .slice none 0 0, .slice none 0 0, .slice none 0 0, .bool false])]) (fun s_ w' => (Kd.R (Kd.int .u8) 5 w' w.heap.size (fun _ => True) s_.1 y126) ∧ (w'.heap[s_.2.1]? = some (.cells #[.int .i64 0, .int .i64 0, .slice none 0 0, .slice none 0 0, .slice none 0 0, .slice none 0 0, .slice none 0 0, .bool false] 31 (0, 0))) ∧ (w'.heap[s_.2.2]? = some (.cells #[.int .i64 0, .int .i64 0, .slice none 0 0, .slice none 0 0, .slice none 0 0, .slice none 0 0, .slice none 0 0, .bool false] 31 (0, 0))) ∧ (w.heap.size ≤ s_.2.1) ∧ (w.heap.size ≤ s_.2.1) ∧ (s_.2.2 ≠ s_.2.1) ∧ (s_.2.1 ≠ s_.2.2) ∧ (w.heap.size ≤ s_.2.2) ∧ (w.heap.size ≤ s_.2.2) ∧ (Below w.heap.size w w')) ?_ ?_
       rotate_left
       ·
        intro hJ2_4_5
        refine join_ (σ := Value × Value) 4 #[true,true,true,true,false,false,false,false] (fun s_ => [(5, s_.1), (7, s_.2), (6, .agg #[.int .i64 1, .int .i64 1, s_.1, .slice none 0 0, .slice none 0 0, .slice none 0 0, .slice none 0 0, .bool false]), (8, .agg #[.int .i64 8, .int .i64 8, s_.2, .slice none 0 0, .slice none 0 0, .slice none 0 0, .slice none 0 0, .bool false])]) (fun s_ w' => (Kd.R (Kd.int .u8) 5 w' w.heap.size (fun k_ => some k_ ≠ (s_.2 : Value).ownBlock) s_.1 y123) ∧ (Kd.R (Kd.int .u8) 5 w' w.heap.size (fun k_ => some k_ ≠ (s_.1 : Value).ownBlock) s_.2 y126) ∧ (Below w.heap.size w w')) ?_ ?_
        rotate_left
        ·
         intro hJ0_2
         refine join_ (σ := Value × Nat) 5 #[true,true,false,false,true,false,false,false] (fun s_ => [(5, s_.1), (1, .pointer (some ⟨s_.2, 0, none⟩)), (6, .agg #[.int .i64 1, .int .i64 1, s_.1, .slice none 0 0, .slice none 0 0, .slice none 0 0, .slice none 0 0, .bool false])]) (fun s_ w' => (Kd.R (Kd.int .u8) 5 w' w.heap.size (fun _ => True) s_.1 y123) ∧ (w'.heap[s_.2]? = some (.cells #[.int .i64 0, .int .i64 0, .slice none 0 0, .slice none 0 0, .slice none 0 0, .slice none 0 0, .slice none 0 0, .bool false] 31 (0, 0))) ∧ (w.heap.size ≤ s_.2) ∧ (w.heap.size ≤ s_.2) ∧ (Below w.heap.size w w')) ?_ ?_
         rotate_left
         ·
          intro hJ0_4
          refine join_ (σ := Value × Nat) 5 #[true,true,false,false,false,true,false,false] (fun s_ => [(5, s_.1), (2, .pointer (some ⟨s_.2, 0, none⟩)), (6, .agg #[.int .i64 1, .int .i64 1, s_.1, .slice none 0 0, .slice none 0 0, .slice none 0 0, .slice none 0 0, .bool false])]) (fun s_ w' => (Kd.R (Kd.int .u8) 5 w' w.heap.size (fun _ => True) s_.1 y123) ∧ (w'.heap[s_.2]? = some (.cells #[.int .i64 0, .int .i64 0, .slice none 0 0, .slice none 0 0, .slice none 0 0, .slice none 0 0, .slice none 0 0, .bool false] 31 (0, 0))) ∧ (w.heap.size ≤ s_.2) ∧ (w.heap.size ≤ s_.2) ∧ (Below w.heap.size w w')) ?_ ?_
          rotate_left
          ·
           intro hJ0_5
           refine join_ (σ := Value × Nat) 5 #[false,false,true,true,true,false,false,false] (fun s_ => [(7, s_.1), (1, .pointer (some ⟨s_.2, 0, none⟩)), (8, .agg #[.int .i64 8, .int .i64 8, s_.1, .slice none 0 0, .slice none 0 0, .slice none 0 0, .slice none 0 0, .bool false])]) (fun s_ w' => (Kd.R (Kd.int .u8) 5 w' w.heap.size (fun _ => True) s_.1 y126) ∧ (w'.heap[s_.2]? = some (.cells #[.int .i64 0, .int .i64 0, .slice none 0 0, .slice none 0 0, .slice none 0 0, .slice none 0 0, .slice none 0 0, .bool false] 31 (0, 0))) ∧ (w.heap.size ≤ s_.2) ∧ (w.heap.size ≤ s_.2) ∧ (Below w.heap.size w w')) ?_ ?_
           rotate_left
           ·
            intro hJ2_4
            refine join_ (σ := Value × Nat) 5 #[false,false,true,true,false,true,false,false] (fun s_ => [(7, s_.1), (2, .pointer (some ⟨s_.2, 0, none⟩)), (8, .agg #[.int .i64 8, .int .i64 8, s_.1, .slice none 0 0, .slice none 0 0, .slice none 0 0, .slice none 0 0, .bool false])]) (fun s_ w' => (Kd.R (Kd.int .u8) 5 w' w.heap.size (fun _ => True) s_.1 y126) ∧ (w'.heap[s_.2]? = some (.cells #[.int .i64 0, .int .i64 0, .slice none 0 0, .slice none 0 0, .slice none 0 0, .slice none 0 0, .slice none 0 0, .bool false] 31 (0, 0))) ∧ (w.heap.size ≤ s_.2) ∧ (w.heap.size ≤ s_.2) ∧ (Below w.heap.size w w')) ?_ ?_
            rotate_left
            ·
             intro hJ2_5
             refine join_ (σ := Nat × Nat) 6 #[false,false,false,false,true,true,false,false] (fun s_ => [(1, .pointer (some ⟨s_.1, 0, none⟩)), (2, .pointer (some ⟨s_.2, 0, none⟩))]) (fun s_ w' => (w'.heap[s_.1]? = some (.cells #[.int .i64 0, .int .i64 0, .slice none 0 0, .slice none 0 0, .slice none 0 0, .slice none 0 0, .slice none 0 0, .bool false] 31 (0, 0))) ∧ (w'.heap[s_.2]? = some (.cells #[.int .i64 0, .int .i64 0, .slice none 0 0, .slice none 0 0, .slice none 0 0, .slice none 0 0, .slice none 0 0, .bool false] 31 (0, 0))) ∧ (w.heap.size ≤ s_.1) ∧ (w.heap.size ≤ s_.1) ∧ (s_.2 ≠ s_.1) ∧ (s_.1 ≠ s_.2) ∧ (w.heap.size ≤ s_.2) ∧ (w.heap.size ≤ s_.2) ∧ (Below w.heap.size w w')) ?_ ?_
             rotate_left
             ·
              intro hJ4_5
              refine join_ (σ := Value) 6 #[true,true,false,false,false,false,false,false] (fun s_ => [(5, s_), (6, .agg #[.int .i64 1, .int .i64 1, s_, .slice none 0 0, .slice none 0 0, .slice none 0 0, .slice none 0 0, .bool false])]) (fun s_ w' => (Kd.R (Kd.int .u8) 5 w' w.heap.size (fun _ => True) s_ y123) ∧ (Below w.heap.size w w')) ?_ ?_
              rotate_left
              ·
               intro hJ0
               refine join_ (σ := Value) 6 #[false,false,true,true,false,false,false,false] (fun s_ => [(7, s_), (8, .agg #[.int .i64 8, .int .i64 8, s_, .slice none 0 0, .slice none 0 0, .slice none 0 0, .slice none 0 0, .bool false])]) (fun s_ w' => (Kd.R (Kd.int .u8) 5 w' w.heap.size (fun _ => True) s_ y126) ∧ (Below w.heap.size w w')) ?_ ?_
               rotate_left
               ·
                intro hJ2
                refine join_ (σ := Nat) 7 #[false,false,false,false,true,false,false,false] (fun s_ => [(1, .pointer (some ⟨s_, 0, none⟩))]) (fun s_ w' => (w'.heap[s_]? = some (.cells #[.int .i64 0, .int .i64 0, .slice none 0 0, .slice none 0 0, .slice none 0 0, .slice none 0 0, .slice none 0 0, .bool false] 31 (0, 0))) ∧ (w.heap.size ≤ s_) ∧ (w.heap.size ≤ s_) ∧ (Below w.heap.size w w')) ?_ ?_
                rotate_left
                ·
                 intro hJ4
                 refine join_ (σ := Nat) 7 #[false,false,false,false,false,true,false,false] (fun s_ => [(2, .pointer (some ⟨s_, 0, none⟩))]) (fun s_ w' => (w'.heap[s_]? = some (.cells #[.int .i64 0, .int .i64 0, .slice none 0 0, .slice none 0 0, .slice none 0 0, .slice none 0 0, .slice none 0 0, .bool false] 31 (0, 0))) ∧ (w.heap.size ≤ s_) ∧ (w.heap.size ≤ s_) ∧ (Below w.heap.size w w')) ?_ ?_
                 rotate_left
                 ·
                  intro hJ5
                  refine four_ (i := 0) (j := 2) (k := 4) (m := 5) (Ni := some 5) (Nj := some 7) (Nk := some 1) (Nm := some 2) #[true,false,false,false,false,false,false,false] #[false,false,true,false,false,false,false,false] #[false,false,false,false,true,false,false,false] #[false,false,false,false,false,true,false,false] rfl rfl rfl rfl rfl rfl rfl rfl (four_of HT_.out (by kernel_rfl)) (by decide) (by decide) (by decide) (by decide) (fun K hK => ?_) (fun K hK => ?_) (fun K hK => ?_) (fun K hK => ?_)
                  ·
                   skip
                   refine Kd.R_lit_step (Kd.int .u8) _ 5 ?hg (N := 5) ?hd (xs := ([254] : List Int)) (inner := [.int .u8 254]) (ok := fun _ => True) (okp := fun _ => True) ?hr ?hp (fun _ hk => hk) trivial (Below.refl _ _) (Nat.le_refl _) (by simp) ?_; (case hd => rfl); (case hg => rfl); (case hr => first | (go_simp; done) | (go_simp; rfl)); (case hp => exact (Reps.one (show Kd.M (Kd.int .u8) _ _ _ 254 [.int .u8 254] from rfl) (Reps.none _ _)))
                   intro v124 w11 ho12 hb hg_ hnew_
                   clear hg_ hnew_
                   (first | rw [← Ny123.out] at ho12 | (simp only [Int.reduceToNat] at ho12; rw [← Ny123.out] at ho12))
                   have n0_ := Aside0.mk (Kd.R_lower ho12 (below_size (hb0_ HB.out)))
                   have n1_ := Aside0.mk (below_step (hb0_ HB.out) hb)
                   clear HB
                   have HO125 := n0_
                   have HB := n1_
                   clear n0_ n1_
                   clear hb ho12
                   obtain ⟨Ao13, co13, eo13⟩ := Kd.R_slice HO125.out
                   (first | subst eo13 | (injection eo13 with f1_ f2_ f3_; have f4_ := f1_.symm; have f5_ := f3_.symm; clear f1_ f2_ f3_; subst f4_; subst f5_))
                   refine hK.out _ _ trivial (fun hHeld => ?_)
                   clear hK K
                   refine norm_ (a' := ?_) ?_ ?_
                   rotate_left
                   ·
                    show Act.put _ (some 5) _ = _
                    simp only [Act.put, setIfInBounds_toArray, set_cons_zero, set_cons_succ, i64_w, i32_w]
                    rfl
                   refine pure_ (i := 1) (N := some 6) (v := ?_) (a' := ?_) #[true,true,false,false,false,false,false,false] rfl rfl (any_of HT_.out (by kernel_rfl)) (fun _ _ _ h => h) (Or.inl ⟨by rfl, ?_⟩) ?_ ?_
                   rotate_left
                   ·
                    intro w'
                    go_simp
                    with_reducible rfl
                   rotate_left
                   ·
                    simp only [Act.put, setIfInBounds_toArray, set_cons_zero, set_cons_succ, i64_w, i32_w]
                    rfl
                   exact norm_ (by first | (simp only [putAll, Act.put, setIfInBounds_toArray, set_cons_zero, set_cons_succ]; done) | (simp only [putAll, Act.put, setIfInBounds_toArray, set_cons_zero, set_cons_succ]; rfl)) (hJ0 (.slice Ao13 y123.length co13) _ ⟨(kR_ HO125.out), (hb0_ HB.out)⟩)
                  ·
                   skip
                   refine Kd.R_make_step (Kd.int .u8) _ 5 (by rfl) (N := 7) rfl 27 _ _ rfl 8 rfl rfl Try.underlying27 (.int .u8 0) 1 info5 rfl (by decide) (by omega) 0 (ok := fun _ => True) (okp := fun _ => True) rfl (fun _ hk => hk) trivial (by omega) (by omega) (Below.refl _ _) (Nat.le_refl _) ?_
                   intro v127 w11 ho12 hb hg_ hnew_
                   clear hg_ hnew_
                   (first | rw [← Ny126.out] at ho12 | (simp only [Int.reduceToNat] at ho12; rw [← Ny126.out] at ho12))
                   have n0_ := Aside0.mk (Kd.R_lower ho12 (below_size (hb0_ HB.out)))
                   have n1_ := Aside0.mk (below_step (hb0_ HB.out) hb)
                   clear HB
                   have HO128 := n0_
                   have HB := n1_
                   clear n0_ n1_
                   clear hb ho12
                   obtain ⟨Ao13, co13, eo13⟩ := Kd.R_slice HO128.out
                   (first | subst eo13 | (injection eo13 with f1_ f2_ f3_; have f4_ := f1_.symm; have f5_ := f3_.symm; clear f1_ f2_ f3_; subst f4_; subst f5_))
                   refine hK.out _ _ trivial (fun hHeld => ?_)
                   clear hK K
                   refine norm_ (a' := ?_) ?_ ?_
                   rotate_left
                   ·
                    show Act.put _ (some 7) _ = _
                    simp only [Act.put, setIfInBounds_toArray, set_cons_zero, set_cons_succ, i64_w, i32_w]
                    rfl
                   refine pure_ (i := 3) (N := some 8) (v := ?_) (a' := ?_) #[false,false,true,true,false,false,false,false] rfl rfl (any_of HT_.out (by kernel_rfl)) (fun _ _ _ h => h) (Or.inl ⟨by rfl, ?_⟩) ?_ ?_
                   rotate_left
                   ·
                    intro w'
                    go_simp
                    with_reducible rfl
                   rotate_left
                   ·
                    simp only [Act.put, setIfInBounds_toArray, set_cons_zero, set_cons_succ, i64_w, i32_w]
                    rfl
                   exact norm_ (by first | (simp only [putAll, Act.put, setIfInBounds_toArray, set_cons_zero, set_cons_succ]; done) | (simp only [putAll, Act.put, setIfInBounds_toArray, set_cons_zero, set_cons_succ]; rfl)) (hJ2 (.slice Ao13 y126.length co13) _ ⟨(kR_ HO128.out), (hb0_ HB.out)⟩)
                  ·
                   skip
                   refine box_step ?hg (N := 1) ?hd (cs := #[.int .i64 0, .int .i64 0, .slice none 0 0, .slice none 0 0, .slice none 0 0, .slice none 0 0, .slice none 0 0, .bool false]) (t := 31) ?hr ?_; (case hd => rfl); (case hg => rfl); (case hr => first | (go_simp; done) | (go_simp; rfl))
                   intro gb129 hg w11 hbox hb
                   have n0_ := Aside0.mk (below_step (hb0_ HB.out) hb)
                   have n1_ := Aside0.mk (hbox)
                   have n2_ := Aside0.mk ((by rw [hg]; exact (below_size (hb0_ HB.out)) : w.heap.size ≤ gb129))
                   have n3_ := Aside0.mk ((by rw [hg]; exact (below_size (hb0_ HB.out)) : w.heap.size ≤ gb129))
                   clear HB
                   have HB := n0_
                   have BK129 := n1_
                   have GW129 := n2_
                   have GE129 := n3_
                   clear n0_ n1_ n2_ n3_
                   clear hb hbox hg
                   refine hK.out _ _ trivial (fun hHeld => ?_)
                   clear hK K
                   refine norm_ (a' := ?_) ?_ ?_
                   rotate_left
                   ·
                    show Act.put _ (some 1) _ = _
                    simp only [Act.put, setIfInBounds_toArray, set_cons_zero, set_cons_succ, i64_w, i32_w]
                    rfl
                   exact norm_ (by first | (simp only [putAll, Act.put, setIfInBounds_toArray, set_cons_zero, set_cons_succ]; done) | (simp only [putAll, Act.put, setIfInBounds_toArray, set_cons_zero, set_cons_succ]; rfl)) (hJ4 (gb129) _ ⟨(bk_ BK129.out), GW129.out, GE129.out, (hb1_ HB.out GE129.out)⟩)
                  ·
                   skip
                   refine box_step ?hg (N := 2) ?hd (cs := #[.int .i64 0, .int .i64 0, .slice none 0 0, .slice none 0 0, .slice none 0 0, .slice none 0 0, .slice none 0 0, .bool false]) (t := 31) ?hr ?_; (case hd => rfl); (case hg => rfl); (case hr => first | (go_simp; done) | (go_simp; rfl))
                   intro gb130 hg w11 hbox hb
                   have n0_ := Aside0.mk (below_step (hb0_ HB.out) hb)
                   have n1_ := Aside0.mk (hbox)
                   have n2_ := Aside0.mk ((by rw [hg]; exact (below_size (hb0_ HB.out)) : w.heap.size ≤ gb130))
                   have n3_ := Aside0.mk ((by rw [hg]; exact (below_size (hb0_ HB.out)) : w.heap.size ≤ gb130))
                   clear HB
                   have HB := n0_
                   have BK130 := n1_
                   have GW130 := n2_
                   have GE130 := n3_
                   clear n0_ n1_ n2_ n3_
                   clear hb hbox hg
                   refine hK.out _ _ trivial (fun hHeld => ?_)
                   clear hK K
                   refine norm_ (a' := ?_) ?_ ?_
                   rotate_left
                   ·
                    show Act.put _ (some 2) _ = _
                    simp only [Act.put, setIfInBounds_toArray, set_cons_zero, set_cons_succ, i64_w, i32_w]
                    rfl
                   exact norm_ (by first | (simp only [putAll, Act.put, setIfInBounds_toArray, set_cons_zero, set_cons_succ]; done) | (simp only [putAll, Act.put, setIfInBounds_toArray, set_cons_zero, set_cons_succ]; rfl)) (hJ5 (gb130) _ ⟨(bk_ BK130.out), GW130.out, GE130.out, (hb1_ HB.out GE130.out)⟩)
                 ·
                  skip
                  rintro gb130 w12 ⟨h0_, h1_, h2_, h3_⟩
                  have n0_ : Aside0 (w12.heap[gb130]? = some (.cells #[.int .i64 0, .int .i64 0, .slice none 0 0, .slice none 0 0, .slice none 0 0, .slice none 0 0, .slice none 0 0, .bool false] 31 (0, 0))) := ⟨h0_⟩
                  have n1_ : Aside0 (w.heap.size ≤ gb130) := ⟨h1_⟩
                  have n2_ : Aside0 (w.heap.size ≤ gb130) := ⟨h2_⟩
                  have n3_ : Aside0 (Below w.heap.size w w12) := ⟨h3_⟩
                  clear HB
                  clear h0_ h1_ h2_ h3_
                  have BK130 := n0_
                  have GW130 := n1_
                  have GE130 := n2_
                  have HB := n3_
                  clear n0_ n1_ n2_ n3_
                  have hHeld := trivial
                  refine norm_ (a' := ?_) ?_ ?_
                  rotate_left
                  ·
                   simp only [putAll, Act.put, setIfInBounds_toArray, set_cons_zero, set_cons_succ]
                   rfl
                  refine three_ (i := 0) (j := 2) (k := 4) (Ni := some 5) (Nj := some 7) (Nk := some 1) #[true,false,false,false,false,true,false,false] #[false,false,true,false,false,true,false,false] #[false,false,false,false,true,true,false,false] rfl rfl rfl rfl rfl rfl (three_of HT_.out (by kernel_rfl)) (by decide) (by decide) (by decide) (fun K hK => ?_) (fun K hK => ?_) (fun K hK => ?_)
                  ·
                   skip
                   refine Kd.R_lit_step (Kd.int .u8) _ 5 ?hg (N := 5) ?hd (xs := ([254] : List Int)) (inner := [.int .u8 254]) (ok := fun _ => True) (okp := fun _ => True) ?hr ?hp (fun _ hk => hk) trivial (Below.refl _ _) (Nat.le_refl _) (by simp) ?_; (case hd => rfl); (case hg => rfl); (case hr => first | (go_simp; done) | (go_simp; rfl)); (case hp => exact (Reps.one (show Kd.M (Kd.int .u8) _ _ _ 254 [.int .u8 254] from rfl) (Reps.none _ _)))
                   intro v124 w13 ho14 hb hg_ hnew_
                   clear hg_ hnew_
                   (first | rw [← Ny123.out] at ho14 | (simp only [Int.reduceToNat] at ho14; rw [← Ny123.out] at ho14))
                   have n0_ := Aside0.mk (Kd.R_lower ho14 (below_size (hb1_ HB.out GE130.out)))
                   have n1_ := Aside0.mk (blk_below (g := gb130) (o := .cells #[.int .i64 0, .int .i64 0, .slice none 0 0, .slice none 0 0, .slice none 0 0, .slice none 0 0, .slice none 0 0, .bool false] 31 (0, 0)) (bk_ BK130.out) hb)
                   have n2_ := Aside0.mk (below_step (hb1_ HB.out GE130.out) hb)
                   clear BK130
                   clear HB
                   have HO125 := n0_
                   have BK130 := n1_
                   have HB := n2_
                   clear n0_ n1_ n2_
                   clear hb ho14
                   obtain ⟨Ao15, co15, eo15⟩ := Kd.R_slice HO125.out
                   (first | subst eo15 | (injection eo15 with f1_ f2_ f3_; have f4_ := f1_.symm; have f5_ := f3_.symm; clear f1_ f2_ f3_; subst f4_; subst f5_))
                   refine hK.out _ _ trivial (fun hHeld => ?_)
                   clear hK K
                   refine norm_ (a' := ?_) ?_ ?_
                   rotate_left
                   ·
                    show Act.put _ (some 5) _ = _
                    simp only [Act.put, setIfInBounds_toArray, set_cons_zero, set_cons_succ, i64_w, i32_w]
                    rfl
                   refine pure_ (i := 1) (N := some 6) (v := ?_) (a' := ?_) #[true,true,false,false,false,true,false,false] rfl rfl (any_of HT_.out (by kernel_rfl)) (fun _ _ _ h => h) (Or.inl ⟨by rfl, ?_⟩) ?_ ?_
                   rotate_left
                   ·
                    intro w'
                    go_simp
                    with_reducible rfl
                   rotate_left
                   ·
                    simp only [Act.put, setIfInBounds_toArray, set_cons_zero, set_cons_succ, i64_w, i32_w]
                    rfl
                   exact norm_ (by first | (simp only [putAll, Act.put, setIfInBounds_toArray, set_cons_zero, set_cons_succ]; done) | (simp only [putAll, Act.put, setIfInBounds_toArray, set_cons_zero, set_cons_succ]; rfl)) (hJ0_5 (.slice Ao15 y123.length co15, gb130) _ ⟨(kR_ HO125.out), (bk_ BK130.out), GW130.out, GE130.out, (hb1_ HB.out GE130.out)⟩)
                  ·
                   skip
                   refine Kd.R_make_step (Kd.int .u8) _ 5 (by rfl) (N := 7) rfl 27 _ _ rfl 8 rfl rfl Try.underlying27 (.int .u8 0) 1 info5 rfl (by decide) (by omega) 0 (ok := fun _ => True) (okp := fun _ => True) rfl (fun _ hk => hk) trivial (by omega) (by omega) (Below.refl _ _) (Nat.le_refl _) ?_
                   intro v127 w13 ho14 hb hg_ hnew_
                   clear hg_ hnew_
                   (first | rw [← Ny126.out] at ho14 | (simp only [Int.reduceToNat] at ho14; rw [← Ny126.out] at ho14))
                   have n0_ := Aside0.mk (Kd.R_lower ho14 (below_size (hb1_ HB.out GE130.out)))
                   have n1_ := Aside0.mk (blk_below (g := gb130) (o := .cells #[.int .i64 0, .int .i64 0, .slice none 0 0, .slice none 0 0, .slice none 0 0, .slice none 0 0, .slice none 0 0, .bool false] 31 (0, 0)) (bk_ BK130.out) hb)
                   have n2_ := Aside0.mk (below_step (hb1_ HB.out GE130.out) hb)
                   clear BK130
                   clear HB
                   have HO128 := n0_
                   have BK130 := n1_
                   have HB := n2_
                   clear n0_ n1_ n2_
                   clear hb ho14
                   obtain ⟨Ao15, co15, eo15⟩ := Kd.R_slice HO128.out
                   (first | subst eo15 | (injection eo15 with f1_ f2_ f3_; have f4_ := f1_.symm; have f5_ := f3_.symm; clear f1_ f2_ f3_; subst f4_; subst f5_))
                   refine hK.out _ _ trivial (fun hHeld => ?_)
                   clear hK K
                   refine norm_ (a' := ?_) ?_ ?_
                   rotate_left
                   ·
                    show Act.put _ (some 7) _ = _
                    simp only [Act.put, setIfInBounds_toArray, set_cons_zero, set_cons_succ, i64_w, i32_w]
                    rfl
                   refine pure_ (i := 3) (N := some 8) (v := ?_) (a' := ?_) #[false,false,true,true,false,true,false,false] rfl rfl (any_of HT_.out (by kernel_rfl)) (fun _ _ _ h => h) (Or.inl ⟨by rfl, ?_⟩) ?_ ?_
                   rotate_left
                   ·
                    intro w'
                    go_simp
                    with_reducible rfl
                   rotate_left
                   ·
                    simp only [Act.put, setIfInBounds_toArray, set_cons_zero, set_cons_succ, i64_w, i32_w]
                    rfl
                   exact norm_ (by first | (simp only [putAll, Act.put, setIfInBounds_toArray, set_cons_zero, set_cons_succ]; done) | (simp only [putAll, Act.put, setIfInBounds_toArray, set_cons_zero, set_cons_succ]; rfl)) (hJ2_5 (.slice Ao15 y126.length co15, gb130) _ ⟨(kR_ HO128.out), (bk_ BK130.out), GW130.out, GE130.out, (hb1_ HB.out GE130.out)⟩)
                  ·
                   skip
                   refine box_step ?hg (N := 1) ?hd (cs := #[.int .i64 0, .int .i64 0, .slice none 0 0, .slice none 0 0, .slice none 0 0, .slice none 0 0, .slice none 0 0, .bool false]) (t := 31) ?hr ?_; (case hd => rfl); (case hg => rfl); (case hr => first | (go_simp; done) | (go_simp; rfl))
                   intro gb129 hg w13 hbox hb
                   have n0_ := Aside0.mk (blk_below (g := gb130) (o := .cells #[.int .i64 0, .int .i64 0, .slice none 0 0, .slice none 0 0, .slice none 0 0, .slice none 0 0, .slice none 0 0, .bool false] 31 (0, 0)) (bk_ BK130.out) hb)
                   have n1_ := Aside0.mk (below_step (hb1_ HB.out GE130.out) hb)
                   have n2_ := Aside0.mk (hbox)
                   have n3_ := Aside0.mk ((by rw [hg]; exact (below_size (hb1_ HB.out GE130.out)) : w.heap.size ≤ gb129))
                   have n4_ := Aside0.mk ((by rw [hg]; exact (below_size (hb1_ HB.out GE130.out)) : w.heap.size ≤ gb129))
                   have n5_ := Aside0.mk ((by rw [hg]; exact Nat.ne_of_lt (blk_lt (g := gb130) (o := .cells #[.int .i64 0, .int .i64 0, .slice none 0 0, .slice none 0 0, .slice none 0 0, .slice none 0 0, .slice none 0 0, .bool false] 31 (0, 0)) (bk_ BK130.out)) : gb130 ≠ gb129))
                   have n6_ := Aside0.mk ((by rw [hg]; exact Nat.ne_of_gt (blk_lt (g := gb130) (o := .cells #[.int .i64 0, .int .i64 0, .slice none 0 0, .slice none 0 0, .slice none 0 0, .slice none 0 0, .slice none 0 0, .bool false] 31 (0, 0)) (bk_ BK130.out)) : gb129 ≠ gb130))
                   clear BK130
                   clear HB
                   have BK130 := n0_
                   have HB := n1_
                   have BK129 := n2_
                   have GW129 := n3_
                   have GE129 := n4_
                   have NB130_129 := n5_
                   have NB129_130 := n6_
                   clear n0_ n1_ n2_ n3_ n4_ n5_ n6_
                   clear hb hbox hg
                   refine hK.out _ _ trivial (fun hHeld => ?_)
                   clear hK K
                   refine norm_ (a' := ?_) ?_ ?_
                   rotate_left
                   ·
                    show Act.put _ (some 1) _ = _
                    simp only [Act.put, setIfInBounds_toArray, set_cons_zero, set_cons_succ, i64_w, i32_w]
                    rfl
                   exact norm_ (by first | (simp only [putAll, Act.put, setIfInBounds_toArray, set_cons_zero, set_cons_succ]; done) | (simp only [putAll, Act.put, setIfInBounds_toArray, set_cons_zero, set_cons_succ]; rfl)) (hJ4_5 (gb129, gb130) _ ⟨(bk_ BK129.out), (bk_ BK130.out), GW129.out, GE129.out, NB130_129.out, NB129_130.out, GW130.out, GE130.out, (hb2_ HB.out GE130.out GE129.out)⟩)
                ·
                 skip
                 rintro gb129 w12 ⟨h0_, h1_, h2_, h3_⟩
                 have n0_ : Aside0 (w12.heap[gb129]? = some (.cells #[.int .i64 0, .int .i64 0, .slice none 0 0, .slice none 0 0, .slice none 0 0, .slice none 0 0, .slice none 0 0, .bool false] 31 (0, 0))) := ⟨h0_⟩
                 have n1_ : Aside0 (w.heap.size ≤ gb129) := ⟨h1_⟩
                 have n2_ : Aside0 (w.heap.size ≤ gb129) := ⟨h2_⟩
                 have n3_ : Aside0 (Below w.heap.size w w12) := ⟨h3_⟩
                 clear HB
                 clear h0_ h1_ h2_ h3_
                 have BK129 := n0_
                 have GW129 := n1_
                 have GE129 := n2_
                 have HB := n3_
                 clear n0_ n1_ n2_ n3_
                 have hHeld := trivial
                 refine norm_ (a' := ?_) ?_ ?_
                 rotate_left
                 ·
                  simp only [putAll, Act.put, setIfInBounds_toArray, set_cons_zero, set_cons_succ]
                  rfl
                 refine three_ (i := 0) (j := 2) (k := 5) (Ni := some 5) (Nj := some 7) (Nk := some 2) #[true,false,false,false,true,false,false,false] #[false,false,true,false,true,false,false,false] #[false,false,false,false,true,true,false,false] rfl rfl rfl rfl rfl rfl (three_of HT_.out (by kernel_rfl)) (by decide) (by decide) (by decide) (fun K hK => ?_) (fun K hK => ?_) (fun K hK => ?_)
                 ·
                  skip
                  refine Kd.R_lit_step (Kd.int .u8) _ 5 ?hg (N := 5) ?hd (xs := ([254] : List Int)) (inner := [.int .u8 254]) (ok := fun _ => True) (okp := fun _ => True) ?hr ?hp (fun _ hk => hk) trivial (Below.refl _ _) (Nat.le_refl _) (by simp) ?_; (case hd => rfl); (case hg => rfl); (case hr => first | (go_simp; done) | (go_simp; rfl)); (case hp => exact (Reps.one (show Kd.M (Kd.int .u8) _ _ _ 254 [.int .u8 254] from rfl) (Reps.none _ _)))
                  intro v124 w13 ho14 hb hg_ hnew_
                  clear hg_ hnew_
                  (first | rw [← Ny123.out] at ho14 | (simp only [Int.reduceToNat] at ho14; rw [← Ny123.out] at ho14))
                  have n0_ := Aside0.mk (Kd.R_lower ho14 (below_size (hb1_ HB.out GE129.out)))
                  have n1_ := Aside0.mk (blk_below (g := gb129) (o := .cells #[.int .i64 0, .int .i64 0, .slice none 0 0, .slice none 0 0, .slice none 0 0, .slice none 0 0, .slice none 0 0, .bool false] 31 (0, 0)) (bk_ BK129.out) hb)
                  have n2_ := Aside0.mk (below_step (hb1_ HB.out GE129.out) hb)
                  clear BK129
                  clear HB
                  have HO125 := n0_
                  have BK129 := n1_
                  have HB := n2_
                  clear n0_ n1_ n2_
                  clear hb ho14
                  obtain ⟨Ao15, co15, eo15⟩ := Kd.R_slice HO125.out
                  (first | subst eo15 | (injection eo15 with f1_ f2_ f3_; have f4_ := f1_.symm; have f5_ := f3_.symm; clear f1_ f2_ f3_; subst f4_; subst f5_))
                  refine hK.out _ _ trivial (fun hHeld => ?_)
                  clear hK K
                  refine norm_ (a' := ?_) ?_ ?_
                  rotate_left
                  ·
                   show Act.put _ (some 5) _ = _
                   simp only [Act.put, setIfInBounds_toArray, set_cons_zero, set_cons_succ, i64_w, i32_w]
                   rfl
                  refine pure_ (i := 1) (N := some 6) (v := ?_) (a' := ?_) #[true,true,false,false,true,false,false,false] rfl rfl (any_of HT_.out (by kernel_rfl)) (fun _ _ _ h => h) (Or.inl ⟨by rfl, ?_⟩) ?_ ?_
                  rotate_left
                  ·
                   intro w'
                   go_simp
                   with_reducible rfl
                  rotate_left
                  ·
                   simp only [Act.put, setIfInBounds_toArray, set_cons_zero, set_cons_succ, i64_w, i32_w]
                   rfl
                  exact norm_ (by first | (simp only [putAll, Act.put, setIfInBounds_toArray, set_cons_zero, set_cons_succ]; done) | (simp only [putAll, Act.put, setIfInBounds_toArray, set_cons_zero, set_cons_succ]; rfl)) (hJ0_4 (.slice Ao15 y123.length co15, gb129) _ ⟨(kR_ HO125.out), (bk_ BK129.out), GW129.out, GE129.out, (hb1_ HB.out GE129.out)⟩)
                 ·
                  skip
                  refine Kd.R_make_step (Kd.int .u8) _ 5 (by rfl) (N := 7) rfl 27 _ _ rfl 8 rfl rfl Try.underlying27 (.int .u8 0) 1 info5 rfl (by decide) (by omega) 0 (ok := fun _ => True) (okp := fun _ => True) rfl (fun _ hk => hk) trivial (by omega) (by omega) (Below.refl _ _) (Nat.le_refl _) ?_
                  intro v127 w13 ho14 hb hg_ hnew_
                  clear hg_ hnew_
                  (first | rw [← Ny126.out] at ho14 | (simp only [Int.reduceToNat] at ho14; rw [← Ny126.out] at ho14))
                  have n0_ := Aside0.mk (Kd.R_lower ho14 (below_size (hb1_ HB.out GE129.out)))
                  have n1_ := Aside0.mk (blk_below (g := gb129) (o := .cells #[.int .i64 0, .int .i64 0, .slice none 0 0, .slice none 0 0, .slice none 0 0, .slice none 0 0, .slice none 0 0, .bool false] 31 (0, 0)) (bk_ BK129.out) hb)
                  have n2_ := Aside0.mk (below_step (hb1_ HB.out GE129.out) hb)
                  clear BK129
                  clear HB
                  have HO128 := n0_
                  have BK129 := n1_
                  have HB := n2_
                  clear n0_ n1_ n2_
                  clear hb ho14
                  obtain ⟨Ao15, co15, eo15⟩ := Kd.R_slice HO128.out
                  (first | subst eo15 | (injection eo15 with f1_ f2_ f3_; have f4_ := f1_.symm; have f5_ := f3_.symm; clear f1_ f2_ f3_; subst f4_; subst f5_))
                  refine hK.out _ _ trivial (fun hHeld => ?_)
                  clear hK K
                  refine norm_ (a' := ?_) ?_ ?_
                  rotate_left
                  ·
                   show Act.put _ (some 7) _ = _
                   simp only [Act.put, setIfInBounds_toArray, set_cons_zero, set_cons_succ, i64_w, i32_w]
                   rfl
                  refine pure_ (i := 3) (N := some 8) (v := ?_) (a' := ?_) #[false,false,true,true,true,false,false,false] rfl rfl (any_of HT_.out (by kernel_rfl)) (fun _ _ _ h => h) (Or.inl ⟨by rfl, ?_⟩) ?_ ?_
                  rotate_left
                  ·
                   intro w'
                   go_simp
                   with_reducible rfl
                  rotate_left
                  ·
                   simp only [Act.put, setIfInBounds_toArray, set_cons_zero, set_cons_succ, i64_w, i32_w]
                   rfl
                  exact norm_ (by first | (simp only [putAll, Act.put, setIfInBounds_toArray, set_cons_zero, set_cons_succ]; done) | (simp only [putAll, Act.put, setIfInBounds_toArray, set_cons_zero, set_cons_succ]; rfl)) (hJ2_4 (.slice Ao15 y126.length co15, gb129) _ ⟨(kR_ HO128.out), (bk_ BK129.out), GW129.out, GE129.out, (hb1_ HB.out GE129.out)⟩)
                 ·
                  skip
                  refine box_step ?hg (N := 2) ?hd (cs := #[.int .i64 0, .int .i64 0, .slice none 0 0, .slice none 0 0, .slice none 0 0, .slice none 0 0, .slice none 0 0, .bool false]) (t := 31) ?hr ?_; (case hd => rfl); (case hg => rfl); (case hr => first | (go_simp; done) | (go_simp; rfl))
                  intro gb130 hg w13 hbox hb
                  have n0_ := Aside0.mk (blk_below (g := gb129) (o := .cells #[.int .i64 0, .int .i64 0, .slice none 0 0, .slice none 0 0, .slice none 0 0, .slice none 0 0, .slice none 0 0, .bool false] 31 (0, 0)) (bk_ BK129.out) hb)
                  have n1_ := Aside0.mk (below_step (hb1_ HB.out GE129.out) hb)
                  have n2_ := Aside0.mk (hbox)
                  have n3_ := Aside0.mk ((by rw [hg]; exact (below_size (hb1_ HB.out GE129.out)) : w.heap.size ≤ gb130))
                  have n4_ := Aside0.mk ((by rw [hg]; exact (below_size (hb1_ HB.out GE129.out)) : w.heap.size ≤ gb130))
                  have n5_ := Aside0.mk ((by rw [hg]; exact Nat.ne_of_lt (blk_lt (g := gb129) (o := .cells #[.int .i64 0, .int .i64 0, .slice none 0 0, .slice none 0 0, .slice none 0 0, .slice none 0 0, .slice none 0 0, .bool false] 31 (0, 0)) (bk_ BK129.out)) : gb129 ≠ gb130))
                  have n6_ := Aside0.mk ((by rw [hg]; exact Nat.ne_of_gt (blk_lt (g := gb129) (o := .cells #[.int .i64 0, .int .i64 0, .slice none 0 0, .slice none 0 0, .slice none 0 0, .slice none 0 0, .slice none 0 0, .bool false] 31 (0, 0)) (bk_ BK129.out)) : gb130 ≠ gb129))
                  clear BK129
                  clear HB
                  have BK129 := n0_
                  have HB := n1_
                  have BK130 := n2_
                  have GW130 := n3_
                  have GE130 := n4_
                  have NB129_130 := n5_
                  have NB130_129 := n6_
                  clear n0_ n1_ n2_ n3_ n4_ n5_ n6_
                  clear hb hbox hg
                  refine hK.out _ _ trivial (fun hHeld => ?_)
                  clear hK K
                  refine norm_ (a' := ?_) ?_ ?_
                  rotate_left
                  ·
                   show Act.put _ (some 2) _ = _
                   simp only [Act.put, setIfInBounds_toArray, set_cons_zero, set_cons_succ, i64_w, i32_w]
                   rfl
                  exact norm_ (by first | (simp only [putAll, Act.put, setIfInBounds_toArray, set_cons_zero, set_cons_succ]; done) | (simp only [putAll, Act.put, setIfInBounds_toArray, set_cons_zero, set_cons_succ]; rfl)) (hJ4_5 (gb129, gb130) _ ⟨(bk_ BK129.out), (bk_ BK130.out), GW129.out, GE129.out, NB130_129.out, NB129_130.out, GW130.out, GE130.out, (hb2_ HB.out GE129.out GE130.out)⟩)
               ·
                skip
                rintro v127 w14 ⟨h0_, h1_⟩
                have n0_ : Aside0 (Kd.R (Kd.int .u8) 5 w14 w.heap.size (fun _ => True) v127 y126) := ⟨h0_⟩
                have n1_ : Aside0 (Below w.heap.size w w14) := ⟨h1_⟩
                clear HB
                clear h0_ h1_
                have HO128 := n0_
                have HB := n1_
                clear n0_ n1_
                have hHeld := trivial
                obtain ⟨Ao15, co15, eo15⟩ := Kd.R_slice HO128.out
                (first | subst eo15 | (injection eo15 with f1_ f2_ f3_; have f4_ := f1_.symm; have f5_ := f3_.symm; clear f1_ f2_ f3_; subst f4_; subst f5_))
                refine norm_ (a' := ?_) ?_ ?_
                rotate_left
                ·
                 simp only [putAll, Act.put, setIfInBounds_toArray, set_cons_zero, set_cons_succ]
                 rfl
                refine three_ (i := 0) (j := 4) (k := 5) (Ni := some 5) (Nj := some 1) (Nk := some 2) #[true,false,true,true,false,false,false,false] #[false,false,true,true,true,false,false,false] #[false,false,true,true,false,true,false,false] rfl rfl rfl rfl rfl rfl (three_of HT_.out (by kernel_rfl)) (by decide) (by decide) (by decide) (fun K hK => ?_) (fun K hK => ?_) (fun K hK => ?_)
                ·
                 skip
                 refine Kd.R_lit_step (Kd.int .u8) _ 5 ?hg (N := 5) ?hd (xs := ([254] : List Int)) (inner := [.int .u8 254]) (ok := fun _ => True) (okp := fun _ => True) ?hr ?hp (fun _ hk => hk) trivial (Below.refl _ _) (Nat.le_refl _) (by simp) ?_; (case hd => rfl); (case hg => rfl); (case hr => first | (go_simp; done) | (go_simp; rfl)); (case hp => exact (Reps.one (show Kd.M (Kd.int .u8) _ _ _ 254 [.int .u8 254] from rfl) (Reps.none _ _)))
                 intro v124 w16 ho17 hb hg_ hnew_
                 clear hg_ hnew_
                 (first | rw [← Ny123.out] at ho17 | (simp only [Int.reduceToNat] at ho17; rw [← Ny123.out] at ho17))
                 have n0_ := Aside0.mk (Kd.R_elder' (kR_ HO128.out) (Kd.R_base ho17) hb)
                 have n1_ := Aside0.mk (Kd.R_lower (Kd.R_new' ho17 (Kd.R_lt (kR_ HO128.out))) (below_size (hb0_ HB.out)))
                 have n2_ := Aside0.mk (below_step (hb0_ HB.out) hb)
                 clear HO128
                 clear HB
                 have HO128 := n0_
                 have HO125 := n1_
                 have HB := n2_
                 clear n0_ n1_ n2_
                 clear hb ho17
                 obtain ⟨Ao18, co18, eo18⟩ := Kd.R_slice HO125.out
                 (first | subst eo18 | (injection eo18 with f1_ f2_ f3_; have f4_ := f1_.symm; have f5_ := f3_.symm; clear f1_ f2_ f3_; subst f4_; subst f5_))
                 refine hK.out _ _ trivial (fun hHeld => ?_)
                 clear hK K
                 refine norm_ (a' := ?_) ?_ ?_
                 rotate_left
                 ·
                  show Act.put _ (some 5) _ = _
                  simp only [Act.put, setIfInBounds_toArray, set_cons_zero, set_cons_succ, i64_w, i32_w]
                  rfl
                 refine pure_ (i := 1) (N := some 6) (v := ?_) (a' := ?_) #[true,true,true,true,false,false,false,false] rfl rfl (any_of HT_.out (by kernel_rfl)) (fun _ _ _ h => h) (Or.inl ⟨by rfl, ?_⟩) ?_ ?_
                 rotate_left
                 ·
                  intro w'
                  go_simp
                  with_reducible rfl
                 rotate_left
                 ·
                  simp only [Act.put, setIfInBounds_toArray, set_cons_zero, set_cons_succ, i64_w, i32_w]
                  rfl
                 exact norm_ (by first | (simp only [putAll, Act.put, setIfInBounds_toArray, set_cons_zero, set_cons_succ]; done) | (simp only [putAll, Act.put, setIfInBounds_toArray, set_cons_zero, set_cons_succ]; rfl)) (hJ0_2 (.slice Ao18 y123.length co18, .slice Ao15 y126.length co15) _ ⟨(by (with_reducible repeat (first | apply Kd.R_alloc | apply Kd.R_drewN | apply Kd.R_drew)); exact Kd.R_mono HO125.out (fun _ hk => hk.2)), (by (with_reducible repeat (first | apply Kd.R_alloc | apply Kd.R_drewN | apply Kd.R_drew)); exact Kd.R_mono HO128.out (fun _ hk => hk.2)), (hb0_ HB.out)⟩)
                ·
                 skip
                 refine box_step ?hg (N := 1) ?hd (cs := #[.int .i64 0, .int .i64 0, .slice none 0 0, .slice none 0 0, .slice none 0 0, .slice none 0 0, .slice none 0 0, .bool false]) (t := 31) ?hr ?_; (case hd => rfl); (case hg => rfl); (case hr => first | (go_simp; done) | (go_simp; rfl))
                 intro gb129 hg w16 hbox hb
                 have n0_ := Aside0.mk (Kd.R_below (kR_ HO128.out) hb)
                 have n1_ := Aside0.mk (below_step (hb0_ HB.out) hb)
                 have n2_ := Aside0.mk (hbox)
                 have n3_ := Aside0.mk ((by rw [hg]; exact (below_size (hb0_ HB.out)) : w.heap.size ≤ gb129))
                 have n4_ := Aside0.mk ((by rw [hg]; exact (below_size (hb0_ HB.out)) : w.heap.size ≤ gb129))
                 clear HO128
                 clear HB
                 have HO128 := n0_
                 have HB := n1_
                 have BK129 := n2_
                 have GW129 := n3_
                 have GE129 := n4_
                 clear n0_ n1_ n2_ n3_ n4_
                 clear hb hbox hg
                 refine hK.out _ _ trivial (fun hHeld => ?_)
                 clear hK K
                 refine norm_ (a' := ?_) ?_ ?_
                 rotate_left
                 ·
                  show Act.put _ (some 1) _ = _
                  simp only [Act.put, setIfInBounds_toArray, set_cons_zero, set_cons_succ, i64_w, i32_w]
                  rfl
                 exact norm_ (by first | (simp only [putAll, Act.put, setIfInBounds_toArray, set_cons_zero, set_cons_succ]; done) | (simp only [putAll, Act.put, setIfInBounds_toArray, set_cons_zero, set_cons_succ]; rfl)) (hJ2_4 (.slice Ao15 y126.length co15, gb129) _ ⟨(kR_ HO128.out), (bk_ BK129.out), GW129.out, GE129.out, (hb1_ HB.out GE129.out)⟩)
                ·
                 skip
                 refine box_step ?hg (N := 2) ?hd (cs := #[.int .i64 0, .int .i64 0, .slice none 0 0, .slice none 0 0, .slice none 0 0, .slice none 0 0, .slice none 0 0, .bool false]) (t := 31) ?hr ?_; (case hd => rfl); (case hg => rfl); (case hr => first | (go_simp; done) | (go_simp; rfl))
                 intro gb130 hg w16 hbox hb
                 have n0_ := Aside0.mk (Kd.R_below (kR_ HO128.out) hb)
                 have n1_ := Aside0.mk (below_step (hb0_ HB.out) hb)
                 have n2_ := Aside0.mk (hbox)
                 have n3_ := Aside0.mk ((by rw [hg]; exact (below_size (hb0_ HB.out)) : w.heap.size ≤ gb130))
                 have n4_ := Aside0.mk ((by rw [hg]; exact (below_size (hb0_ HB.out)) : w.heap.size ≤ gb130))
                 clear HO128
                 clear HB
                 have HO128 := n0_
                 have HB := n1_
                 have BK130 := n2_
                 have GW130 := n3_
                 have GE130 := n4_
                 clear n0_ n1_ n2_ n3_ n4_
                 clear hb hbox hg
                 refine hK.out _ _ trivial (fun hHeld => ?_)
                 clear hK K
                 refine norm_ (a' := ?_) ?_ ?_
                 rotate_left
                 ·
                  show Act.put _ (some 2) _ = _
                  simp only [Act.put, setIfInBounds_toArray, set_cons_zero, set_cons_succ, i64_w, i32_w]
                  rfl
                 exact norm_ (by first | (simp only [putAll, Act.put, setIfInBounds_toArray, set_cons_zero, set_cons_succ]; done) | (simp only [putAll, Act.put, setIfInBounds_toArray, set_cons_zero, set_cons_succ]; rfl)) (hJ2_5 (.slice Ao15 y126.length co15, gb130) _ ⟨(kR_ HO128.out), (bk_ BK130.out), GW130.out, GE130.out, (hb1_ HB.out GE130.out)⟩)
              ·
               skip
               rintro v124 w14 ⟨h0_, h1_⟩
               have n0_ : Aside0 (Kd.R (Kd.int .u8) 5 w14 w.heap.size (fun _ => True) v124 y123) := ⟨h0_⟩
               have n1_ : Aside0 (Below w.heap.size w w14) := ⟨h1_⟩
               clear HB
               clear h0_ h1_
               have HO125 := n0_
               have HB := n1_
               clear n0_ n1_
               have hHeld := trivial
               obtain ⟨Ao15, co15, eo15⟩ := Kd.R_slice HO125.out
               (first | subst eo15 | (injection eo15 with f1_ f2_ f3_; have f4_ := f1_.symm; have f5_ := f3_.symm; clear f1_ f2_ f3_; subst f4_; subst f5_))
               refine norm_ (a' := ?_) ?_ ?_
               rotate_left
               ·
                simp only [putAll, Act.put, setIfInBounds_toArray, set_cons_zero, set_cons_succ]
                rfl
               refine three_ (i := 2) (j := 4) (k := 5) (Ni := some 7) (Nj := some 1) (Nk := some 2) #[true,true,true,false,false,false,false,false] #[true,true,false,false,true,false,false,false] #[true,true,false,false,false,true,false,false] rfl rfl rfl rfl rfl rfl (three_of HT_.out (by kernel_rfl)) (by decide) (by decide) (by decide) (fun K hK => ?_) (fun K hK => ?_) (fun K hK => ?_)
               ·
                skip
                refine Kd.R_make_step (Kd.int .u8) _ 5 (by rfl) (N := 7) rfl 27 _ _ rfl 8 rfl rfl Try.underlying27 (.int .u8 0) 1 info5 rfl (by decide) (by omega) 0 (ok := fun _ => True) (okp := fun _ => True) rfl (fun _ hk => hk) trivial (by omega) (by omega) (Below.refl _ _) (Nat.le_refl _) ?_
                intro v127 w16 ho17 hb hg_ hnew_
                clear hg_ hnew_
                (first | rw [← Ny126.out] at ho17 | (simp only [Int.reduceToNat] at ho17; rw [← Ny126.out] at ho17))
                have n0_ := Aside0.mk (Kd.R_elder' (kR_ HO125.out) (Kd.R_base ho17) hb)
                have n1_ := Aside0.mk (Kd.R_lower (Kd.R_new' ho17 (Kd.R_lt (kR_ HO125.out))) (below_size (hb0_ HB.out)))
                have n2_ := Aside0.mk (below_step (hb0_ HB.out) hb)
                clear HO125
                clear HB
                have HO125 := n0_
                have HO128 := n1_
                have HB := n2_
                clear n0_ n1_ n2_
                clear hb ho17
                obtain ⟨Ao18, co18, eo18⟩ := Kd.R_slice HO128.out
                (first | subst eo18 | (injection eo18 with f1_ f2_ f3_; have f4_ := f1_.symm; have f5_ := f3_.symm; clear f1_ f2_ f3_; subst f4_; subst f5_))
                refine hK.out _ _ trivial (fun hHeld => ?_)
                clear hK K
                refine norm_ (a' := ?_) ?_ ?_
                rotate_left
                ·
                 show Act.put _ (some 7) _ = _
                 simp only [Act.put, setIfInBounds_toArray, set_cons_zero, set_cons_succ, i64_w, i32_w]
                 rfl
                refine pure_ (i := 3) (N := some 8) (v := ?_) (a' := ?_) #[true,true,true,true,false,false,false,false] rfl rfl (any_of HT_.out (by kernel_rfl)) (fun _ _ _ h => h) (Or.inl ⟨by rfl, ?_⟩) ?_ ?_
                rotate_left
                ·
                 intro w'
                 go_simp
                 with_reducible rfl
                rotate_left
                ·
                 simp only [Act.put, setIfInBounds_toArray, set_cons_zero, set_cons_succ, i64_w, i32_w]
                 rfl
                exact norm_ (by first | (simp only [putAll, Act.put, setIfInBounds_toArray, set_cons_zero, set_cons_succ]; done) | (simp only [putAll, Act.put, setIfInBounds_toArray, set_cons_zero, set_cons_succ]; rfl)) (hJ0_2 (.slice Ao15 y123.length co15, .slice Ao18 y126.length co18) _ ⟨(by (with_reducible repeat (first | apply Kd.R_alloc | apply Kd.R_drewN | apply Kd.R_drew)); exact Kd.R_mono HO125.out (fun _ hk => hk.2)), (by (with_reducible repeat (first | apply Kd.R_alloc | apply Kd.R_drewN | apply Kd.R_drew)); exact Kd.R_mono HO128.out (fun _ hk => hk.2)), (hb0_ HB.out)⟩)
               ·
                skip
                refine box_step ?hg (N := 1) ?hd (cs := #[.int .i64 0, .int .i64 0, .slice none 0 0, .slice none 0 0, .slice none 0 0, .slice none 0 0, .slice none 0 0, .bool false]) (t := 31) ?hr ?_; (case hd => rfl); (case hg => rfl); (case hr => first | (go_simp; done) | (go_simp; rfl))
                intro gb129 hg w16 hbox hb
                have n0_ := Aside0.mk (Kd.R_below (kR_ HO125.out) hb)
                have n1_ := Aside0.mk (below_step (hb0_ HB.out) hb)
                have n2_ := Aside0.mk (hbox)
                have n3_ := Aside0.mk ((by rw [hg]; exact (below_size (hb0_ HB.out)) : w.heap.size ≤ gb129))
                have n4_ := Aside0.mk ((by rw [hg]; exact (below_size (hb0_ HB.out)) : w.heap.size ≤ gb129))
                clear HO125
                clear HB
                have HO125 := n0_
                have HB := n1_
                have BK129 := n2_
                have GW129 := n3_
                have GE129 := n4_
                clear n0_ n1_ n2_ n3_ n4_
                clear hb hbox hg
                refine hK.out _ _ trivial (fun hHeld => ?_)
                clear hK K
                refine norm_ (a' := ?_) ?_ ?_
                rotate_left
                ·
                 show Act.put _ (some 1) _ = _
                 simp only [Act.put, setIfInBounds_toArray, set_cons_zero, set_cons_succ, i64_w, i32_w]
                 rfl
                exact norm_ (by first | (simp only [putAll, Act.put, setIfInBounds_toArray, set_cons_zero, set_cons_succ]; done) | (simp only [putAll, Act.put, setIfInBounds_toArray, set_cons_zero, set_cons_succ]; rfl)) (hJ0_4 (.slice Ao15 y123.length co15, gb129) _ ⟨(kR_ HO125.out), (bk_ BK129.out), GW129.out, GE129.out, (hb1_ HB.out GE129.out)⟩)
               ·
                skip
                refine box_step ?hg (N := 2) ?hd (cs := #[.int .i64 0, .int .i64 0, .slice none 0 0, .slice none 0 0, .slice none 0 0, .slice none 0 0, .slice none 0 0, .bool false]) (t := 31) ?hr ?_; (case hd => rfl); (case hg => rfl); (case hr => first | (go_simp; done) | (go_simp; rfl))
                intro gb130 hg w16 hbox hb
                have n0_ := Aside0.mk (Kd.R_below (kR_ HO125.out) hb)
                have n1_ := Aside0.mk (below_step (hb0_ HB.out) hb)
                have n2_ := Aside0.mk (hbox)
                have n3_ := Aside0.mk ((by rw [hg]; exact (below_size (hb0_ HB.out)) : w.heap.size ≤ gb130))
                have n4_ := Aside0.mk ((by rw [hg]; exact (below_size (hb0_ HB.out)) : w.heap.size ≤ gb130))
                clear HO125
                clear HB
                have HO125 := n0_
                have HB := n1_
                have BK130 := n2_
                have GW130 := n3_
                have GE130 := n4_
                clear n0_ n1_ n2_ n3_ n4_
                clear hb hbox hg
                refine hK.out _ _ trivial (fun hHeld => ?_)
                clear hK K
                refine norm_ (a' := ?_) ?_ ?_
                rotate_left
                ·
                 show Act.put _ (some 2) _ = _
                 simp only [Act.put, setIfInBounds_toArray, set_cons_zero, set_cons_succ, i64_w, i32_w]
                 rfl
                exact norm_ (by first | (simp only [putAll, Act.put, setIfInBounds_toArray, set_cons_zero, set_cons_succ]; done) | (simp only [putAll, Act.put, setIfInBounds_toArray, set_cons_zero, set_cons_succ]; rfl)) (hJ0_5 (.slice Ao15 y123.length co15, gb130) _ ⟨(kR_ HO125.out), (bk_ BK130.out), GW130.out, GE130.out, (hb1_ HB.out GE130.out)⟩)
             ·
              skip
              rintro ⟨gb129, gb130⟩ w13 ⟨h0_, h1_, h2_, h3_, h4_, h5_, h6_, h7_, h8_⟩
              have n0_ : Aside0 (w13.heap[gb129]? = some (.cells #[.int .i64 0, .int .i64 0, .slice none 0 0, .slice none 0 0, .slice none 0 0, .slice none 0 0, .slice none 0 0, .bool false] 31 (0, 0))) := ⟨h0_⟩
              have n1_ : Aside0 (w13.heap[gb130]? = some (.cells #[.int .i64 0, .int .i64 0, .slice none 0 0, .slice none 0 0, .slice none 0 0, .slice none 0 0, .slice none 0 0, .bool false] 31 (0, 0))) := ⟨h1_⟩
              have n2_ : Aside0 (w.heap.size ≤ gb129) := ⟨h2_⟩
              have n3_ : Aside0 (w.heap.size ≤ gb129) := ⟨h3_⟩
              have n4_ : Aside0 (gb130 ≠ gb129) := ⟨h4_⟩
              have n5_ : Aside0 (gb129 ≠ gb130) := ⟨h5_⟩
              have n6_ : Aside0 (w.heap.size ≤ gb130) := ⟨h6_⟩
              have n7_ : Aside0 (w.heap.size ≤ gb130) := ⟨h7_⟩
              have n8_ : Aside0 (Below w.heap.size w w13) := ⟨h8_⟩
              clear HB
              clear h0_ h1_ h2_ h3_ h4_ h5_ h6_ h7_ h8_
              have BK129 := n0_
              have BK130 := n1_
              have GW129 := n2_
              have GE129 := n3_
              have NB130_129 := n4_
              have NB129_130 := n5_
              have GW130 := n6_
              have GE130 := n7_
              have HB := n8_
              clear n0_ n1_ n2_ n3_ n4_ n5_ n6_ n7_ n8_
              have hHeld := trivial
              refine norm_ (a' := ?_) ?_ ?_
              rotate_left
              ·
               simp only [putAll, Act.put, setIfInBounds_toArray, set_cons_zero, set_cons_succ]
               rfl
              refine two_ (i := 0) (j := 2) (Ni := some 5) (Nj := some 7) #[true,false,false,false,true,true,false,false] #[false,false,true,false,true,true,false,false] rfl rfl rfl rfl (two_of HT_.out (by kernel_rfl)) (by decide) (by decide) (fun K hK => ?_) (fun K hK => ?_)
              ·
               skip
               refine Kd.R_lit_step (Kd.int .u8) _ 5 ?hg (N := 5) ?hd (xs := ([254] : List Int)) (inner := [.int .u8 254]) (ok := fun _ => True) (okp := fun _ => True) ?hr ?hp (fun _ hk => hk) trivial (Below.refl _ _) (Nat.le_refl _) (by simp) ?_; (case hd => rfl); (case hg => rfl); (case hr => first | (go_simp; done) | (go_simp; rfl)); (case hp => exact (Reps.one (show Kd.M (Kd.int .u8) _ _ _ 254 [.int .u8 254] from rfl) (Reps.none _ _)))
               intro v124 w14 ho15 hb hg_ hnew_
               clear hg_ hnew_
               (first | rw [← Ny123.out] at ho15 | (simp only [Int.reduceToNat] at ho15; rw [← Ny123.out] at ho15))
               have n0_ := Aside0.mk (Kd.R_lower ho15 (below_size (hb2_ HB.out GE129.out GE130.out)))
               have n1_ := Aside0.mk (blk_below (g := gb129) (o := .cells #[.int .i64 0, .int .i64 0, .slice none 0 0, .slice none 0 0, .slice none 0 0, .slice none 0 0, .slice none 0 0, .bool false] 31 (0, 0)) (bk_ BK129.out) hb)
               have n2_ := Aside0.mk (blk_below (g := gb130) (o := .cells #[.int .i64 0, .int .i64 0, .slice none 0 0, .slice none 0 0, .slice none 0 0, .slice none 0 0, .slice none 0 0, .bool false] 31 (0, 0)) (bk_ BK130.out) hb)
               have n3_ := Aside0.mk (below_step (hb2_ HB.out GE129.out GE130.out) hb)
               clear BK129
               clear BK130
               clear HB
               have HO125 := n0_
               have BK129 := n1_
               have BK130 := n2_
               have HB := n3_
               clear n0_ n1_ n2_ n3_
               clear hb ho15
               obtain ⟨Ao16, co16, eo16⟩ := Kd.R_slice HO125.out
               (first | subst eo16 | (injection eo16 with f1_ f2_ f3_; have f4_ := f1_.symm; have f5_ := f3_.symm; clear f1_ f2_ f3_; subst f4_; subst f5_))
               refine hK.out _ _ trivial (fun hHeld => ?_)
               clear hK K
               refine norm_ (a' := ?_) ?_ ?_
               rotate_left
               ·
                show Act.put _ (some 5) _ = _
                simp only [Act.put, setIfInBounds_toArray, set_cons_zero, set_cons_succ, i64_w, i32_w]
                rfl
               refine pure_ (i := 1) (N := some 6) (v := ?_) (a' := ?_) #[true,true,false,false,true,true,false,false] rfl rfl (any_of HT_.out (by kernel_rfl)) (fun _ _ _ h => h) (Or.inl ⟨by rfl, ?_⟩) ?_ ?_
               rotate_left
               ·
                intro w'
                go_simp
                with_reducible rfl
               rotate_left
               ·
                simp only [Act.put, setIfInBounds_toArray, set_cons_zero, set_cons_succ, i64_w, i32_w]
                rfl
               exact norm_ (by first | (simp only [putAll, Act.put, setIfInBounds_toArray, set_cons_zero, set_cons_succ]; done) | (simp only [putAll, Act.put, setIfInBounds_toArray, set_cons_zero, set_cons_succ]; rfl)) (hJ0_4_5 (.slice Ao16 y123.length co16, gb129, gb130) _ ⟨(kR_ HO125.out), (bk_ BK129.out), (bk_ BK130.out), GW129.out, GE129.out, NB130_129.out, NB129_130.out, GW130.out, GE130.out, (hb2_ HB.out GE129.out GE130.out)⟩)
              ·
               skip
               refine Kd.R_make_step (Kd.int .u8) _ 5 (by rfl) (N := 7) rfl 27 _ _ rfl 8 rfl rfl Try.underlying27 (.int .u8 0) 1 info5 rfl (by decide) (by omega) 0 (ok := fun _ => True) (okp := fun _ => True) rfl (fun _ hk => hk) trivial (by omega) (by omega) (Below.refl _ _) (Nat.le_refl _) ?_
               intro v127 w14 ho15 hb hg_ hnew_
               clear hg_ hnew_
               (first | rw [← Ny126.out] at ho15 | (simp only [Int.reduceToNat] at ho15; rw [← Ny126.out] at ho15))
               have n0_ := Aside0.mk (Kd.R_lower ho15 (below_size (hb2_ HB.out GE129.out GE130.out)))
               have n1_ := Aside0.mk (blk_below (g := gb129) (o := .cells #[.int .i64 0, .int .i64 0, .slice none 0 0, .slice none 0 0, .slice none 0 0, .slice none 0 0, .slice none 0 0, .bool false] 31 (0, 0)) (bk_ BK129.out) hb)
               have n2_ := Aside0.mk (blk_below (g := gb130) (o := .cells #[.int .i64 0, .int .i64 0, .slice none 0 0, .slice none 0 0, .slice none 0 0, .slice none 0 0, .slice none 0 0, .bool false] 31 (0, 0)) (bk_ BK130.out) hb)
               have n3_ := Aside0.mk (below_step (hb2_ HB.out GE129.out GE130.out) hb)
               clear BK129
               clear BK130
               clear HB
               have HO128 := n0_
               have BK129 := n1_
               have BK130 := n2_
               have HB := n3_
               clear n0_ n1_ n2_ n3_
               clear hb ho15
               obtain ⟨Ao16, co16, eo16⟩ := Kd.R_slice HO128.out
               (first | subst eo16 | (injection eo16 with f1_ f2_ f3_; have f4_ := f1_.symm; have f5_ := f3_.symm; clear f1_ f2_ f3_; subst f4_; subst f5_))
               refine hK.out _ _ trivial (fun hHeld => ?_)
               clear hK K
               refine norm_ (a' := ?_) ?_ ?_
               rotate_left
               ·
                show Act.put _ (some 7) _ = _
                simp only [Act.put, setIfInBounds_toArray, set_cons_zero, set_cons_succ, i64_w, i32_w]
                rfl
               refine pure_ (i := 3) (N := some 8) (v := ?_) (a' := ?_) #[false,false,true,true,true,true,false,false] rfl rfl (any_of HT_.out (by kernel_rfl)) (fun _ _ _ h => h) (Or.inl ⟨by rfl, ?_⟩) ?_ ?_
               rotate_left
               ·
                intro w'
                go_simp
                with_reducible rfl
               rotate_left
               ·
                simp only [Act.put, setIfInBounds_toArray, set_cons_zero, set_cons_succ, i64_w, i32_w]
                rfl
               exact norm_ (by first | (simp only [putAll, Act.put, setIfInBounds_toArray, set_cons_zero, set_cons_succ]; done) | (simp only [putAll, Act.put, setIfInBounds_toArray, set_cons_zero, set_cons_succ]; rfl)) (hJ2_4_5 (.slice Ao16 y126.length co16, gb129, gb130) _ ⟨(kR_ HO128.out), (bk_ BK129.out), (bk_ BK130.out), GW129.out, GE129.out, NB130_129.out, NB129_130.out, GW130.out, GE130.out, (hb2_ HB.out GE129.out GE130.out)⟩)
            ·
             skip
             rintro ⟨v127, gb130⟩ w15 ⟨h0_, h1_, h2_, h3_, h4_⟩
             have n0_ : Aside0 (Kd.R (Kd.int .u8) 5 w15 w.heap.size (fun _ => True) v127 y126) := ⟨h0_⟩
             have n1_ : Aside0 (w15.heap[gb130]? = some (.cells #[.int .i64 0, .int .i64 0, .slice none 0 0, .slice none 0 0, .slice none 0 0, .slice none 0 0, .slice none 0 0, .bool false] 31 (0, 0))) := ⟨h1_⟩
             have n2_ : Aside0 (w.heap.size ≤ gb130) := ⟨h2_⟩
             have n3_ : Aside0 (w.heap.size ≤ gb130) := ⟨h3_⟩
             have n4_ : Aside0 (Below w.heap.size w w15) := ⟨h4_⟩
             clear HB
             clear h0_ h1_ h2_ h3_ h4_
             have HO128 := n0_
             have BK130 := n1_
             have GW130 := n2_
             have GE130 := n3_
             have HB := n4_
             clear n0_ n1_ n2_ n3_ n4_
             have hHeld := trivial
             obtain ⟨Ao16, co16, eo16⟩ := Kd.R_slice HO128.out
             (first | subst eo16 | (injection eo16 with f1_ f2_ f3_; have f4_ := f1_.symm; have f5_ := f3_.symm; clear f1_ f2_ f3_; subst f4_; subst f5_))
             refine norm_ (a' := ?_) ?_ ?_
             rotate_left
             ·
              simp only [putAll, Act.put, setIfInBounds_toArray, set_cons_zero, set_cons_succ]
              rfl
             refine two_ (i := 0) (j := 4) (Ni := some 5) (Nj := some 1) #[true,false,true,true,false,true,false,false] #[false,false,true,true,true,true,false,false] rfl rfl rfl rfl (two_of HT_.out (by kernel_rfl)) (by decide) (by decide) (fun K hK => ?_) (fun K hK => ?_)
             ·
              skip
              refine Kd.R_lit_step (Kd.int .u8) _ 5 ?hg (N := 5) ?hd (xs := ([254] : List Int)) (inner := [.int .u8 254]) (ok := fun _ => True) (okp := fun _ => True) ?hr ?hp (fun _ hk => hk) trivial (Below.refl _ _) (Nat.le_refl _) (by simp) ?_; (case hd => rfl); (case hg => rfl); (case hr => first | (go_simp; done) | (go_simp; rfl)); (case hp => exact (Reps.one (show Kd.M (Kd.int .u8) _ _ _ 254 [.int .u8 254] from rfl) (Reps.none _ _)))
              intro v124 w17 ho18 hb hg_ hnew_
              clear hg_ hnew_
              (first | rw [← Ny123.out] at ho18 | (simp only [Int.reduceToNat] at ho18; rw [← Ny123.out] at ho18))
              have n0_ := Aside0.mk (Kd.R_elder' (kR_ HO128.out) (Kd.R_base ho18) hb)
              have n1_ := Aside0.mk (Kd.R_lower (Kd.R_new' ho18 (Kd.R_lt (kR_ HO128.out))) (below_size (hb1_ HB.out GE130.out)))
              have n2_ := Aside0.mk (blk_below (g := gb130) (o := .cells #[.int .i64 0, .int .i64 0, .slice none 0 0, .slice none 0 0, .slice none 0 0, .slice none 0 0, .slice none 0 0, .bool false] 31 (0, 0)) (bk_ BK130.out) hb)
              have n3_ := Aside0.mk (below_step (hb1_ HB.out GE130.out) hb)
              clear HO128
              clear BK130
              clear HB
              have HO128 := n0_
              have HO125 := n1_
              have BK130 := n2_
              have HB := n3_
              clear n0_ n1_ n2_ n3_
              clear hb ho18
              obtain ⟨Ao19, co19, eo19⟩ := Kd.R_slice HO125.out
              (first | subst eo19 | (injection eo19 with f1_ f2_ f3_; have f4_ := f1_.symm; have f5_ := f3_.symm; clear f1_ f2_ f3_; subst f4_; subst f5_))
              refine hK.out _ _ trivial (fun hHeld => ?_)
              clear hK K
              refine norm_ (a' := ?_) ?_ ?_
              rotate_left
              ·
               show Act.put _ (some 5) _ = _
               simp only [Act.put, setIfInBounds_toArray, set_cons_zero, set_cons_succ, i64_w, i32_w]
               rfl
              refine pure_ (i := 1) (N := some 6) (v := ?_) (a' := ?_) #[true,true,true,true,false,true,false,false] rfl rfl (any_of HT_.out (by kernel_rfl)) (fun _ _ _ h => h) (Or.inl ⟨by rfl, ?_⟩) ?_ ?_
              rotate_left
              ·
               intro w'
               go_simp
               with_reducible rfl
              rotate_left
              ·
               simp only [Act.put, setIfInBounds_toArray, set_cons_zero, set_cons_succ, i64_w, i32_w]
               rfl
              exact norm_ (by first | (simp only [putAll, Act.put, setIfInBounds_toArray, set_cons_zero, set_cons_succ]; done) | (simp only [putAll, Act.put, setIfInBounds_toArray, set_cons_zero, set_cons_succ]; rfl)) (hJ0_2_5 (.slice Ao19 y123.length co19, .slice Ao16 y126.length co16, gb130) _ ⟨(by (with_reducible repeat (first | apply Kd.R_alloc | apply Kd.R_drewN | apply Kd.R_drew)); exact Kd.R_mono HO125.out (fun _ hk => hk.2)), (by (with_reducible repeat (first | apply Kd.R_alloc | apply Kd.R_drewN | apply Kd.R_drew)); exact Kd.R_mono HO128.out (fun _ hk => hk.2)), (bk_ BK130.out), GW130.out, GE130.out, (hb1_ HB.out GE130.out)⟩)
             ·
              skip
              refine box_step ?hg (N := 1) ?hd (cs := #[.int .i64 0, .int .i64 0, .slice none 0 0, .slice none 0 0, .slice none 0 0, .slice none 0 0, .slice none 0 0, .bool false]) (t := 31) ?hr ?_; (case hd => rfl); (case hg => rfl); (case hr => first | (go_simp; done) | (go_simp; rfl))
              intro gb129 hg w17 hbox hb
              have n0_ := Aside0.mk (Kd.R_below (kR_ HO128.out) hb)
              have n1_ := Aside0.mk (blk_below (g := gb130) (o := .cells #[.int .i64 0, .int .i64 0, .slice none 0 0, .slice none 0 0, .slice none 0 0, .slice none 0 0, .slice none 0 0, .bool false] 31 (0, 0)) (bk_ BK130.out) hb)
              have n2_ := Aside0.mk (below_step (hb1_ HB.out GE130.out) hb)
              have n3_ := Aside0.mk (hbox)
              have n4_ := Aside0.mk ((by rw [hg]; exact (below_size (hb1_ HB.out GE130.out)) : w.heap.size ≤ gb129))
              have n5_ := Aside0.mk ((by rw [hg]; exact (below_size (hb1_ HB.out GE130.out)) : w.heap.size ≤ gb129))
              have n6_ := Aside0.mk ((by rw [hg]; exact Nat.ne_of_lt (blk_lt (g := gb130) (o := .cells #[.int .i64 0, .int .i64 0, .slice none 0 0, .slice none 0 0, .slice none 0 0, .slice none 0 0, .slice none 0 0, .bool false] 31 (0, 0)) (bk_ BK130.out)) : gb130 ≠ gb129))
              have n7_ := Aside0.mk ((by rw [hg]; exact Nat.ne_of_gt (blk_lt (g := gb130) (o := .cells #[.int .i64 0, .int .i64 0, .slice none 0 0, .slice none 0 0, .slice none 0 0, .slice none 0 0, .slice none 0 0, .bool false] 31 (0, 0)) (bk_ BK130.out)) : gb129 ≠ gb130))
              clear HO128
              clear BK130
              clear HB
              have HO128 := n0_
              have BK130 := n1_
              have HB := n2_
              have BK129 := n3_
              have GW129 := n4_
              have GE129 := n5_
              have NB130_129 := n6_
              have NB129_130 := n7_
              clear n0_ n1_ n2_ n3_ n4_ n5_ n6_ n7_
              clear hb hbox hg
              refine hK.out _ _ trivial (fun hHeld => ?_)
              clear hK K
              refine norm_ (a' := ?_) ?_ ?_
              rotate_left
              ·
               show Act.put _ (some 1) _ = _
               simp only [Act.put, setIfInBounds_toArray, set_cons_zero, set_cons_succ, i64_w, i32_w]
               rfl
              exact norm_ (by first | (simp only [putAll, Act.put, setIfInBounds_toArray, set_cons_zero, set_cons_succ]; done) | (simp only [putAll, Act.put, setIfInBounds_toArray, set_cons_zero, set_cons_succ]; rfl)) (hJ2_4_5 (.slice Ao16 y126.length co16, gb129, gb130) _ ⟨(kR_ HO128.out), (bk_ BK129.out), (bk_ BK130.out), GW129.out, GE129.out, NB130_129.out, NB129_130.out, GW130.out, GE130.out, (hb2_ HB.out GE130.out GE129.out)⟩)
           ·
            skip
            rintro ⟨v127, gb129⟩ w15 ⟨h0_, h1_, h2_, h3_, h4_⟩
            have n0_ : Aside0 (Kd.R (Kd.int .u8) 5 w15 w.heap.size (fun _ => True) v127 y126) := ⟨h0_⟩
            have n1_ : Aside0 (w15.heap[gb129]? = some (.cells #[.int .i64 0, .int .i64 0, .slice none 0 0, .slice none 0 0, .slice none 0 0, .slice none 0 0, .slice none 0 0, .bool false] 31 (0, 0))) := ⟨h1_⟩
            have n2_ : Aside0 (w.heap.size ≤ gb129) := ⟨h2_⟩
            have n3_ : Aside0 (w.heap.size ≤ gb129) := ⟨h3_⟩
            have n4_ : Aside0 (Below w.heap.size w w15) := ⟨h4_⟩
            clear HB
            clear h0_ h1_ h2_ h3_ h4_
            have HO128 := n0_
            have BK129 := n1_
            have GW129 := n2_
            have GE129 := n3_
            have HB := n4_
            clear n0_ n1_ n2_ n3_ n4_
            have hHeld := trivial
            obtain ⟨Ao16, co16, eo16⟩ := Kd.R_slice HO128.out
            (first | subst eo16 | (injection eo16 with f1_ f2_ f3_; have f4_ := f1_.symm; have f5_ := f3_.symm; clear f1_ f2_ f3_; subst f4_; subst f5_))
            refine norm_ (a' := ?_) ?_ ?_
            rotate_left
            ·
             simp only [putAll, Act.put, setIfInBounds_toArray, set_cons_zero, set_cons_succ]
             rfl
            refine two_ (i := 0) (j := 5) (Ni := some 5) (Nj := some 2) #[true,false,true,true,true,false,false,false] #[false,false,true,true,true,true,false,false] rfl rfl rfl rfl (two_of HT_.out (by kernel_rfl)) (by decide) (by decide) (fun K hK => ?_) (fun K hK => ?_)
            ·
             skip
             refine Kd.R_lit_step (Kd.int .u8) _ 5 ?hg (N := 5) ?hd (xs := ([254] : List Int)) (inner := [.int .u8 254]) (ok := fun _ => True) (okp := fun _ => True) ?hr ?hp (fun _ hk => hk) trivial (Below.refl _ _) (Nat.le_refl _) (by simp) ?_; (case hd => rfl); (case hg => rfl); (case hr => first | (go_simp; done) | (go_simp; rfl)); (case hp => exact (Reps.one (show Kd.M (Kd.int .u8) _ _ _ 254 [.int .u8 254] from rfl) (Reps.none _ _)))
             intro v124 w17 ho18 hb hg_ hnew_
             clear hg_ hnew_
             (first | rw [← Ny123.out] at ho18 | (simp only [Int.reduceToNat] at ho18; rw [← Ny123.out] at ho18))
             have n0_ := Aside0.mk (Kd.R_elder' (kR_ HO128.out) (Kd.R_base ho18) hb)
             have n1_ := Aside0.mk (Kd.R_lower (Kd.R_new' ho18 (Kd.R_lt (kR_ HO128.out))) (below_size (hb1_ HB.out GE129.out)))
             have n2_ := Aside0.mk (blk_below (g := gb129) (o := .cells #[.int .i64 0, .int .i64 0, .slice none 0 0, .slice none 0 0, .slice none 0 0, .slice none 0 0, .slice none 0 0, .bool false] 31 (0, 0)) (bk_ BK129.out) hb)
             have n3_ := Aside0.mk (below_step (hb1_ HB.out GE129.out) hb)
             clear HO128
             clear BK129
             clear HB
             have HO128 := n0_
             have HO125 := n1_
             have BK129 := n2_
             have HB := n3_
             clear n0_ n1_ n2_ n3_
             clear hb ho18
             obtain ⟨Ao19, co19, eo19⟩ := Kd.R_slice HO125.out
             (first | subst eo19 | (injection eo19 with f1_ f2_ f3_; have f4_ := f1_.symm; have f5_ := f3_.symm; clear f1_ f2_ f3_; subst f4_; subst f5_))
             refine hK.out _ _ trivial (fun hHeld => ?_)
             clear hK K
             refine norm_ (a' := ?_) ?_ ?_
             rotate_left
             ·
              show Act.put _ (some 5) _ = _
              simp only [Act.put, setIfInBounds_toArray, set_cons_zero, set_cons_succ, i64_w, i32_w]
              rfl
             refine pure_ (i := 1) (N := some 6) (v := ?_) (a' := ?_) #[true,true,true,true,true,false,false,false] rfl rfl (any_of HT_.out (by kernel_rfl)) (fun _ _ _ h => h) (Or.inl ⟨by rfl, ?_⟩) ?_ ?_
             rotate_left
             ·
              intro w'
              go_simp
              with_reducible rfl
             rotate_left
             ·
              simp only [Act.put, setIfInBounds_toArray, set_cons_zero, set_cons_succ, i64_w, i32_w]
              rfl
             exact norm_ (by first | (simp only [putAll, Act.put, setIfInBounds_toArray, set_cons_zero, set_cons_succ]; done) | (simp only [putAll, Act.put, setIfInBounds_toArray, set_cons_zero, set_cons_succ]; rfl)) (hJ0_2_4 (.slice Ao19 y123.length co19, .slice Ao16 y126.length co16, gb129) _ ⟨(by (with_reducible repeat (first | apply Kd.R_alloc | apply Kd.R_drewN | apply Kd.R_drew)); exact Kd.R_mono HO125.out (fun _ hk => hk.2)), (by (with_reducible repeat (first | apply Kd.R_alloc | apply Kd.R_drewN | apply Kd.R_drew)); exact Kd.R_mono HO128.out (fun _ hk => hk.2)), (bk_ BK129.out), GW129.out, GE129.out, (hb1_ HB.out GE129.out)⟩)
            ·
             skip
             refine box_step ?hg (N := 2) ?hd (cs := #[.int .i64 0, .int .i64 0, .slice none 0 0, .slice none 0 0, .slice none 0 0, .slice none 0 0, .slice none 0 0, .bool false]) (t := 31) ?hr ?_; (case hd => rfl); (case hg => rfl); (case hr => first | (go_simp; done) | (go_simp; rfl))
             intro gb130 hg w17 hbox hb
             have n0_ := Aside0.mk (Kd.R_below (kR_ HO128.out) hb)
             have n1_ := Aside0.mk (blk_below (g := gb129) (o := .cells #[.int .i64 0, .int .i64 0, .slice none 0 0, .slice none 0 0, .slice none 0 0, .slice none 0 0, .slice none 0 0, .bool false] 31 (0, 0)) (bk_ BK129.out) hb)
             have n2_ := Aside0.mk (below_step (hb1_ HB.out GE129.out) hb)
             have n3_ := Aside0.mk (hbox)
             have n4_ := Aside0.mk ((by rw [hg]; exact (below_size (hb1_ HB.out GE129.out)) : w.heap.size ≤ gb130))
             have n5_ := Aside0.mk ((by rw [hg]; exact (below_size (hb1_ HB.out GE129.out)) : w.heap.size ≤ gb130))
             have n6_ := Aside0.mk ((by rw [hg]; exact Nat.ne_of_lt (blk_lt (g := gb129) (o := .cells #[.int .i64 0, .int .i64 0, .slice none 0 0, .slice none 0 0, .slice none 0 0, .slice none 0 0, .slice none 0 0, .bool false] 31 (0, 0)) (bk_ BK129.out)) : gb129 ≠ gb130))
             have n7_ := Aside0.mk ((by rw [hg]; exact Nat.ne_of_gt (blk_lt (g := gb129) (o := .cells #[.int .i64 0, .int .i64 0, .slice none 0 0, .slice none 0 0, .slice none 0 0, .slice none 0 0, .slice none 0 0, .bool false] 31 (0, 0)) (bk_ BK129.out)) : gb130 ≠ gb129))
             clear HO128
             clear BK129
             clear HB
             have HO128 := n0_
             have BK129 := n1_
             have HB := n2_
             have BK130 := n3_
             have GW130 := n4_
             have GE130 := n5_
             have NB129_130 := n6_
             have NB130_129 := n7_
             clear n0_ n1_ n2_ n3_ n4_ n5_ n6_ n7_
             clear hb hbox hg
             refine hK.out _ _ trivial (fun hHeld => ?_)
             clear hK K
             refine norm_ (a' := ?_) ?_ ?_
             rotate_left
             ·
              show Act.put _ (some 2) _ = _
              simp only [Act.put, setIfInBounds_toArray, set_cons_zero, set_cons_succ, i64_w, i32_w]
              rfl
             exact norm_ (by first | (simp only [putAll, Act.put, setIfInBounds_toArray, set_cons_zero, set_cons_succ]; done) | (simp only [putAll, Act.put, setIfInBounds_toArray, set_cons_zero, set_cons_succ]; rfl)) (hJ2_4_5 (.slice Ao16 y126.length co16, gb129, gb130) _ ⟨(kR_ HO128.out), (bk_ BK129.out), (bk_ BK130.out), GW129.out, GE129.out, NB130_129.out, NB129_130.out, GW130.out, GE130.out, (hb2_ HB.out GE129.out GE130.out)⟩)
          ·
           skip
           rintro ⟨v124, gb130⟩ w15 ⟨h0_, h1_, h2_, h3_, h4_⟩
           have n0_ : Aside0 (Kd.R (Kd.int .u8) 5 w15 w.heap.size (fun _ => True) v124 y123) := ⟨h0_⟩
           have n1_ : Aside0 (w15.heap[gb130]? = some (.cells #[.int .i64 0, .int .i64 0, .slice none 0 0, .slice none 0 0, .slice none 0 0, .slice none 0 0, .slice none 0 0, .bool false] 31 (0, 0))) := ⟨h1_⟩
           have n2_ : Aside0 (w.heap.size ≤ gb130) := ⟨h2_⟩
           have n3_ : Aside0 (w.heap.size ≤ gb130) := ⟨h3_⟩
           have n4_ : Aside0 (Below w.heap.size w w15) := ⟨h4_⟩
           clear HB
           clear h0_ h1_ h2_ h3_ h4_
           have HO125 := n0_
           have BK130 := n1_
           have GW130 := n2_
           have GE130 := n3_
           have HB := n4_
           clear n0_ n1_ n2_ n3_ n4_
           have hHeld := trivial
           obtain ⟨Ao16, co16, eo16⟩ := Kd.R_slice HO125.out
           (first | subst eo16 | (injection eo16 with f1_ f2_ f3_; have f4_ := f1_.symm; have f5_ := f3_.symm; clear f1_ f2_ f3_; subst f4_; subst f5_))
           refine norm_ (a' := ?_) ?_ ?_
           rotate_left
           ·
            simp only [putAll, Act.put, setIfInBounds_toArray, set_cons_zero, set_cons_succ]
            rfl
           refine two_ (i := 2) (j := 4) (Ni := some 7) (Nj := some 1) #[true,true,true,false,false,true,false,false] #[true,true,false,false,true,true,false,false] rfl rfl rfl rfl (two_of HT_.out (by kernel_rfl)) (by decide) (by decide) (fun K hK => ?_) (fun K hK => ?_)
           ·
            skip
            refine Kd.R_make_step (Kd.int .u8) _ 5 (by rfl) (N := 7) rfl 27 _ _ rfl 8 rfl rfl Try.underlying27 (.int .u8 0) 1 info5 rfl (by decide) (by omega) 0 (ok := fun _ => True) (okp := fun _ => True) rfl (fun _ hk => hk) trivial (by omega) (by omega) (Below.refl _ _) (Nat.le_refl _) ?_
            intro v127 w17 ho18 hb hg_ hnew_
            clear hg_ hnew_
            (first | rw [← Ny126.out] at ho18 | (simp only [Int.reduceToNat] at ho18; rw [← Ny126.out] at ho18))
            have n0_ := Aside0.mk (Kd.R_elder' (kR_ HO125.out) (Kd.R_base ho18) hb)
            have n1_ := Aside0.mk (Kd.R_lower (Kd.R_new' ho18 (Kd.R_lt (kR_ HO125.out))) (below_size (hb1_ HB.out GE130.out)))
            have n2_ := Aside0.mk (blk_below (g := gb130) (o := .cells #[.int .i64 0, .int .i64 0, .slice none 0 0, .slice none 0 0, .slice none 0 0, .slice none 0 0, .slice none 0 0, .bool false] 31 (0, 0)) (bk_ BK130.out) hb)
            have n3_ := Aside0.mk (below_step (hb1_ HB.out GE130.out) hb)
            clear HO125
            clear BK130
            clear HB
            have HO125 := n0_
            have HO128 := n1_
            have BK130 := n2_
            have HB := n3_
            clear n0_ n1_ n2_ n3_
            clear hb ho18
            obtain ⟨Ao19, co19, eo19⟩ := Kd.R_slice HO128.out
            (first | subst eo19 | (injection eo19 with f1_ f2_ f3_; have f4_ := f1_.symm; have f5_ := f3_.symm; clear f1_ f2_ f3_; subst f4_; subst f5_))
            refine hK.out _ _ trivial (fun hHeld => ?_)
            clear hK K
            refine norm_ (a' := ?_) ?_ ?_
            rotate_left
            ·
             show Act.put _ (some 7) _ = _
             simp only [Act.put, setIfInBounds_toArray, set_cons_zero, set_cons_succ, i64_w, i32_w]
             rfl
            refine pure_ (i := 3) (N := some 8) (v := ?_) (a' := ?_) #[true,true,true,true,false,true,false,false] rfl rfl (any_of HT_.out (by kernel_rfl)) (fun _ _ _ h => h) (Or.inl ⟨by rfl, ?_⟩) ?_ ?_
            rotate_left
            ·
             intro w'
             go_simp
             with_reducible rfl
            rotate_left
            ·
             simp only [Act.put, setIfInBounds_toArray, set_cons_zero, set_cons_succ, i64_w, i32_w]
             rfl
            exact norm_ (by first | (simp only [putAll, Act.put, setIfInBounds_toArray, set_cons_zero, set_cons_succ]; done) | (simp only [putAll, Act.put, setIfInBounds_toArray, set_cons_zero, set_cons_succ]; rfl)) (hJ0_2_5 (.slice Ao16 y123.length co16, .slice Ao19 y126.length co19, gb130) _ ⟨(by (with_reducible repeat (first | apply Kd.R_alloc | apply Kd.R_drewN | apply Kd.R_drew)); exact Kd.R_mono HO125.out (fun _ hk => hk.2)), (by (with_reducible repeat (first | apply Kd.R_alloc | apply Kd.R_drewN | apply Kd.R_drew)); exact Kd.R_mono HO128.out (fun _ hk => hk.2)), (bk_ BK130.out), GW130.out, GE130.out, (hb1_ HB.out GE130.out)⟩)
           ·
            skip
            refine box_step ?hg (N := 1) ?hd (cs := #[.int .i64 0, .int .i64 0, .slice none 0 0, .slice none 0 0, .slice none 0 0, .slice none 0 0, .slice none 0 0, .bool false]) (t := 31) ?hr ?_; (case hd => rfl); (case hg => rfl); (case hr => first | (go_simp; done) | (go_simp; rfl))
            intro gb129 hg w17 hbox hb
            have n0_ := Aside0.mk (Kd.R_below (kR_ HO125.out) hb)
            have n1_ := Aside0.mk (blk_below (g := gb130) (o := .cells #[.int .i64 0, .int .i64 0, .slice none 0 0, .slice none 0 0, .slice none 0 0, .slice none 0 0, .slice none 0 0, .bool false] 31 (0, 0)) (bk_ BK130.out) hb)
            have n2_ := Aside0.mk (below_step (hb1_ HB.out GE130.out) hb)
            have n3_ := Aside0.mk (hbox)
            have n4_ := Aside0.mk ((by rw [hg]; exact (below_size (hb1_ HB.out GE130.out)) : w.heap.size ≤ gb129))
            have n5_ := Aside0.mk ((by rw [hg]; exact (below_size (hb1_ HB.out GE130.out)) : w.heap.size ≤ gb129))
            have n6_ := Aside0.mk ((by rw [hg]; exact Nat.ne_of_lt (blk_lt (g := gb130) (o := .cells #[.int .i64 0, .int .i64 0, .slice none 0 0, .slice none 0 0, .slice none 0 0, .slice none 0 0, .slice none 0 0, .bool false] 31 (0, 0)) (bk_ BK130.out)) : gb130 ≠ gb129))
            have n7_ := Aside0.mk ((by rw [hg]; exact Nat.ne_of_gt (blk_lt (g := gb130) (o := .cells #[.int .i64 0, .int .i64 0, .slice none 0 0, .slice none 0 0, .slice none 0 0, .slice none 0 0, .slice none 0 0, .bool false] 31 (0, 0)) (bk_ BK130.out)) : gb129 ≠ gb130))
            clear HO125
            clear BK130
            clear HB
            have HO125 := n0_
            have BK130 := n1_
            have HB := n2_
            have BK129 := n3_
            have GW129 := n4_
            have GE129 := n5_
            have NB130_129 := n6_
            have NB129_130 := n7_
            clear n0_ n1_ n2_ n3_ n4_ n5_ n6_ n7_
            clear hb hbox hg
            refine hK.out _ _ trivial (fun hHeld => ?_)
            clear hK K
            refine norm_ (a' := ?_) ?_ ?_
            rotate_left
            ·
             show Act.put _ (some 1) _ = _
             simp only [Act.put, setIfInBounds_toArray, set_cons_zero, set_cons_succ, i64_w, i32_w]
             rfl
            exact norm_ (by first | (simp only [putAll, Act.put, setIfInBounds_toArray, set_cons_zero, set_cons_succ]; done) | (simp only [putAll, Act.put, setIfInBounds_toArray, set_cons_zero, set_cons_succ]; rfl)) (hJ0_4_5 (.slice Ao16 y123.length co16, gb129, gb130) _ ⟨(kR_ HO125.out), (bk_ BK129.out), (bk_ BK130.out), GW129.out, GE129.out, NB130_129.out, NB129_130.out, GW130.out, GE130.out, (hb2_ HB.out GE130.out GE129.out)⟩)
         ·
          skip
          rintro ⟨v124, gb129⟩ w15 ⟨h0_, h1_, h2_, h3_, h4_⟩
          have n0_ : Aside0 (Kd.R (Kd.int .u8) 5 w15 w.heap.size (fun _ => True) v124 y123) := ⟨h0_⟩
          have n1_ : Aside0 (w15.heap[gb129]? = some (.cells #[.int .i64 0, .int .i64 0, .slice none 0 0, .slice none 0 0, .slice none 0 0, .slice none 0 0, .slice none 0 0, .bool false] 31 (0, 0))) := ⟨h1_⟩
          have n2_ : Aside0 (w.heap.size ≤ gb129) := ⟨h2_⟩
          have n3_ : Aside0 (w.heap.size ≤ gb129) := ⟨h3_⟩
          have n4_ : Aside0 (Below w.heap.size w w15) := ⟨h4_⟩
          clear HB
          clear h0_ h1_ h2_ h3_ h4_
          have HO125 := n0_
          have BK129 := n1_
          have GW129 := n2_
          have GE129 := n3_
          have HB := n4_
          clear n0_ n1_ n2_ n3_ n4_
          have hHeld := trivial
          obtain ⟨Ao16, co16, eo16⟩ := Kd.R_slice HO125.out
          (first | subst eo16 | (injection eo16 with f1_ f2_ f3_; have f4_ := f1_.symm; have f5_ := f3_.symm; clear f1_ f2_ f3_; subst f4_; subst f5_))
          refine norm_ (a' := ?_) ?_ ?_
          rotate_left
          ·
           simp only [putAll, Act.put, setIfInBounds_toArray, set_cons_zero, set_cons_succ]
           rfl
          refine two_ (i := 2) (j := 5) (Ni := some 7) (Nj := some 2) #[true,true,true,false,true,false,false,false] #[true,true,false,false,true,true,false,false] rfl rfl rfl rfl (two_of HT_.out (by kernel_rfl)) (by decide) (by decide) (fun K hK => ?_) (fun K hK => ?_)
          ·
           skip
           refine Kd.R_make_step (Kd.int .u8) _ 5 (by rfl) (N := 7) rfl 27 _ _ rfl 8 rfl rfl Try.underlying27 (.int .u8 0) 1 info5 rfl (by decide) (by omega) 0 (ok := fun _ => True) (okp := fun _ => True) rfl (fun _ hk => hk) trivial (by omega) (by omega) (Below.refl _ _) (Nat.le_refl _) ?_
           intro v127 w17 ho18 hb hg_ hnew_
           clear hg_ hnew_
           (first | rw [← Ny126.out] at ho18 | (simp only [Int.reduceToNat] at ho18; rw [← Ny126.out] at ho18))
           have n0_ := Aside0.mk (Kd.R_elder' (kR_ HO125.out) (Kd.R_base ho18) hb)
           have n1_ := Aside0.mk (Kd.R_lower (Kd.R_new' ho18 (Kd.R_lt (kR_ HO125.out))) (below_size (hb1_ HB.out GE129.out)))
           have n2_ := Aside0.mk (blk_below (g := gb129) (o := .cells #[.int .i64 0, .int .i64 0, .slice none 0 0, .slice none 0 0, .slice none 0 0, .slice none 0 0, .slice none 0 0, .bool false] 31 (0, 0)) (bk_ BK129.out) hb)
           have n3_ := Aside0.mk (below_step (hb1_ HB.out GE129.out) hb)
           clear HO125
           clear BK129
           clear HB
           have HO125 := n0_
           have HO128 := n1_
           have BK129 := n2_
           have HB := n3_
           clear n0_ n1_ n2_ n3_
           clear hb ho18
           obtain ⟨Ao19, co19, eo19⟩ := Kd.R_slice HO128.out
           (first | subst eo19 | (injection eo19 with f1_ f2_ f3_; have f4_ := f1_.symm; have f5_ := f3_.symm; clear f1_ f2_ f3_; subst f4_; subst f5_))
           refine hK.out _ _ trivial (fun hHeld => ?_)
           clear hK K
           refine norm_ (a' := ?_) ?_ ?_
           rotate_left
           ·
            show Act.put _ (some 7) _ = _
            simp only [Act.put, setIfInBounds_toArray, set_cons_zero, set_cons_succ, i64_w, i32_w]
            rfl
           refine pure_ (i := 3) (N := some 8) (v := ?_) (a' := ?_) #[true,true,true,true,true,false,false,false] rfl rfl (any_of HT_.out (by kernel_rfl)) (fun _ _ _ h => h) (Or.inl ⟨by rfl, ?_⟩) ?_ ?_
           rotate_left
           ·
            intro w'
            go_simp
            with_reducible rfl
           rotate_left
           ·
            simp only [Act.put, setIfInBounds_toArray, set_cons_zero, set_cons_succ, i64_w, i32_w]
            rfl
           exact norm_ (by first | (simp only [putAll, Act.put, setIfInBounds_toArray, set_cons_zero, set_cons_succ]; done) | (simp only [putAll, Act.put, setIfInBounds_toArray, set_cons_zero, set_cons_succ]; rfl)) (hJ0_2_4 (.slice Ao16 y123.length co16, .slice Ao19 y126.length co19, gb129) _ ⟨(by (with_reducible repeat (first | apply Kd.R_alloc | apply Kd.R_drewN | apply Kd.R_drew)); exact Kd.R_mono HO125.out (fun _ hk => hk.2)), (by (with_reducible repeat (first | apply Kd.R_alloc | apply Kd.R_drewN | apply Kd.R_drew)); exact Kd.R_mono HO128.out (fun _ hk => hk.2)), (bk_ BK129.out), GW129.out, GE129.out, (hb1_ HB.out GE129.out)⟩)
          ·
           skip
           refine box_step ?hg (N := 2) ?hd (cs := #[.int .i64 0, .int .i64 0, .slice none 0 0, .slice none 0 0, .slice none 0 0, .slice none 0 0, .slice none 0 0, .bool false]) (t := 31) ?hr ?_; (case hd => rfl); (case hg => rfl); (case hr => first | (go_simp; done) | (go_simp; rfl))
           intro gb130 hg w17 hbox hb
           have n0_ := Aside0.mk (Kd.R_below (kR_ HO125.out) hb)
           have n1_ := Aside0.mk (blk_below (g := gb129) (o := .cells #[.int .i64 0, .int .i64 0, .slice none 0 0, .slice none 0 0, .slice none 0 0, .slice none 0 0, .slice none 0 0, .bool false] 31 (0, 0)) (bk_ BK129.out) hb)
           have n2_ := Aside0.mk (below_step (hb1_ HB.out GE129.out) hb)
           have n3_ := Aside0.mk (hbox)
           have n4_ := Aside0.mk ((by rw [hg]; exact (below_size (hb1_ HB.out GE129.out)) : w.heap.size ≤ gb130))
           have n5_ := Aside0.mk ((by rw [hg]; exact (below_size (hb1_ HB.out GE129.out)) : w.heap.size ≤ gb130))
           have n6_ := Aside0.mk ((by rw [hg]; exact Nat.ne_of_lt (blk_lt (g := gb129) (o := .cells #[.int .i64 0, .int .i64 0, .slice none 0 0, .slice none 0 0, .slice none 0 0, .slice none 0 0, .slice none 0 0, .bool false] 31 (0, 0)) (bk_ BK129.out)) : gb129 ≠ gb130))
           have n7_ := Aside0.mk ((by rw [hg]; exact Nat.ne_of_gt (blk_lt (g := gb129) (o := .cells #[.int .i64 0, .int .i64 0, .slice none 0 0, .slice none 0 0, .slice none 0 0, .slice none 0 0, .slice none 0 0, .bool false] 31 (0, 0)) (bk_ BK129.out)) : gb130 ≠ gb129))
           clear HO125
           clear BK129
           clear HB
           have HO125 := n0_
           have BK129 := n1_
           have HB := n2_
           have BK130 := n3_
           have GW130 := n4_
           have GE130 := n5_
           have NB129_130 := n6_
           have NB130_129 := n7_
           clear n0_ n1_ n2_ n3_ n4_ n5_ n6_ n7_
           clear hb hbox hg
           refine hK.out _ _ trivial (fun hHeld => ?_)
           clear hK K
           refine norm_ (a' := ?_) ?_ ?_
           rotate_left
           ·
            show Act.put _ (some 2) _ = _
            simp only [Act.put, setIfInBounds_toArray, set_cons_zero, set_cons_succ, i64_w, i32_w]
            rfl
           exact norm_ (by first | (simp only [putAll, Act.put, setIfInBounds_toArray, set_cons_zero, set_cons_succ]; done) | (simp only [putAll, Act.put, setIfInBounds_toArray, set_cons_zero, set_cons_succ]; rfl)) (hJ0_4_5 (.slice Ao16 y123.length co16, gb129, gb130) _ ⟨(kR_ HO125.out), (bk_ BK129.out), (bk_ BK130.out), GW129.out, GE129.out, NB130_129.out, NB129_130.out, GW130.out, GE130.out, (hb2_ HB.out GE129.out GE130.out)⟩)
        ·
         skip
         rintro ⟨v124, v127⟩ w17 ⟨h0_, h1_, h2_⟩
         have n0_ : Aside0 (Kd.R (Kd.int .u8) 5 w17 w.heap.size (fun k_ => some k_ ≠ (v127 : Value).ownBlock) v124 y123) := ⟨h0_⟩
         have n1_ : Aside0 (Kd.R (Kd.int .u8) 5 w17 w.heap.size (fun k_ => some k_ ≠ (v124 : Value).ownBlock) v127 y126) := ⟨h1_⟩
         have n2_ : Aside0 (Below w.heap.size w w17) := ⟨h2_⟩
         clear HB
         clear h0_ h1_ h2_
         have HO125 := n0_
         have HO128 := n1_
         have HB := n2_
         clear n0_ n1_ n2_
         have hHeld := trivial
         obtain ⟨Ao18, co18, eo18⟩ := Kd.R_slice HO125.out
         (first | subst eo18 | (injection eo18 with f1_ f2_ f3_; have f4_ := f1_.symm; have f5_ := f3_.symm; clear f1_ f2_ f3_; subst f4_; subst f5_))
         obtain ⟨Ao19, co19, eo19⟩ := Kd.R_slice HO128.out
         (first | subst eo19 | (injection eo19 with f1_ f2_ f3_; have f4_ := f1_.symm; have f5_ := f3_.symm; clear f1_ f2_ f3_; subst f4_; subst f5_))
         refine norm_ (a' := ?_) ?_ ?_
         rotate_left
         ·
          simp only [putAll, Act.put, setIfInBounds_toArray, set_cons_zero, set_cons_succ]
          rfl
         refine two_ (i := 4) (j := 5) (Ni := some 1) (Nj := some 2) #[true,true,true,true,true,false,false,false] #[true,true,true,true,false,true,false,false] rfl rfl rfl rfl (two_of HT_.out (by kernel_rfl)) (by decide) (by decide) (fun K hK => ?_) (fun K hK => ?_)
         ·
          skip
          refine box_step ?hg (N := 1) ?hd (cs := #[.int .i64 0, .int .i64 0, .slice none 0 0, .slice none 0 0, .slice none 0 0, .slice none 0 0, .slice none 0 0, .bool false]) (t := 31) ?hr ?_; (case hd => rfl); (case hg => rfl); (case hr => first | (go_simp; done) | (go_simp; rfl))
          intro gb129 hg w20 hbox hb
          have n0_ := Aside0.mk (Kd.R_below (kR_ HO125.out) hb)
          have n1_ := Aside0.mk (Kd.R_below (kR_ HO128.out) hb)
          have n2_ := Aside0.mk (below_step (hb0_ HB.out) hb)
          have n3_ := Aside0.mk (hbox)
          have n4_ := Aside0.mk ((by rw [hg]; exact (below_size (hb0_ HB.out)) : w.heap.size ≤ gb129))
          have n5_ := Aside0.mk ((by rw [hg]; exact (below_size (hb0_ HB.out)) : w.heap.size ≤ gb129))
          clear HO125
          clear HO128
          clear HB
          have HO125 := n0_
          have HO128 := n1_
          have HB := n2_
          have BK129 := n3_
          have GW129 := n4_
          have GE129 := n5_
          clear n0_ n1_ n2_ n3_ n4_ n5_
          clear hb hbox hg
          refine hK.out _ _ trivial (fun hHeld => ?_)
          clear hK K
          refine norm_ (a' := ?_) ?_ ?_
          rotate_left
          ·
           show Act.put _ (some 1) _ = _
           simp only [Act.put, setIfInBounds_toArray, set_cons_zero, set_cons_succ, i64_w, i32_w]
           rfl
          exact norm_ (by first | (simp only [putAll, Act.put, setIfInBounds_toArray, set_cons_zero, set_cons_succ]; done) | (simp only [putAll, Act.put, setIfInBounds_toArray, set_cons_zero, set_cons_succ]; rfl)) (hJ0_2_4 (.slice Ao18 y123.length co18, .slice Ao19 y126.length co19, gb129) _ ⟨(kR_ HO125.out), (kR_ HO128.out), (bk_ BK129.out), GW129.out, GE129.out, (hb1_ HB.out GE129.out)⟩)
         ·
          skip
          refine box_step ?hg (N := 2) ?hd (cs := #[.int .i64 0, .int .i64 0, .slice none 0 0, .slice none 0 0, .slice none 0 0, .slice none 0 0, .slice none 0 0, .bool false]) (t := 31) ?hr ?_; (case hd => rfl); (case hg => rfl); (case hr => first | (go_simp; done) | (go_simp; rfl))
          intro gb130 hg w20 hbox hb
          have n0_ := Aside0.mk (Kd.R_below (kR_ HO125.out) hb)
          have n1_ := Aside0.mk (Kd.R_below (kR_ HO128.out) hb)
          have n2_ := Aside0.mk (below_step (hb0_ HB.out) hb)
          have n3_ := Aside0.mk (hbox)
          have n4_ := Aside0.mk ((by rw [hg]; exact (below_size (hb0_ HB.out)) : w.heap.size ≤ gb130))
          have n5_ := Aside0.mk ((by rw [hg]; exact (below_size (hb0_ HB.out)) : w.heap.size ≤ gb130))
          clear HO125
          clear HO128
          clear HB
          have HO125 := n0_
          have HO128 := n1_
          have HB := n2_
          have BK130 := n3_
          have GW130 := n4_
          have GE130 := n5_
          clear n0_ n1_ n2_ n3_ n4_ n5_
          clear hb hbox hg
          refine hK.out _ _ trivial (fun hHeld => ?_)
          clear hK K
          refine norm_ (a' := ?_) ?_ ?_
          rotate_left
          ·
           show Act.put _ (some 2) _ = _
           simp only [Act.put, setIfInBounds_toArray, set_cons_zero, set_cons_succ, i64_w, i32_w]
           rfl
          exact norm_ (by first | (simp only [putAll, Act.put, setIfInBounds_toArray, set_cons_zero, set_cons_succ]; done) | (simp only [putAll, Act.put, setIfInBounds_toArray, set_cons_zero, set_cons_succ]; rfl)) (hJ0_2_5 (.slice Ao18 y123.length co18, .slice Ao19 y126.length co19, gb130) _ ⟨(kR_ HO125.out), (kR_ HO128.out), (bk_ BK130.out), GW130.out, GE130.out, (hb1_ HB.out GE130.out)⟩)
       ·
        skip
        rintro ⟨v127, gb129, gb130⟩ w16 ⟨h0_, h1_, h2_, h3_, h4_, h5_, h6_, h7_, h8_, h9_⟩
        have n0_ : Aside0 (Kd.R (Kd.int .u8) 5 w16 w.heap.size (fun _ => True) v127 y126) := ⟨h0_⟩
        have n1_ : Aside0 (w16.heap[gb129]? = some (.cells #[.int .i64 0, .int .i64 0, .slice none 0 0, .slice none 0 0, .slice none 0 0, .slice none 0 0, .slice none 0 0, .bool false] 31 (0, 0))) := ⟨h1_⟩
        have n2_ : Aside0 (w16.heap[gb130]? = some (.cells #[.int .i64 0, .int .i64 0, .slice none 0 0, .slice none 0 0, .slice none 0 0, .slice none 0 0, .slice none 0 0, .bool false] 31 (0, 0))) := ⟨h2_⟩
        have n3_ : Aside0 (w.heap.size ≤ gb129) := ⟨h3_⟩
        have n4_ : Aside0 (w.heap.size ≤ gb129) := ⟨h4_⟩
        have n5_ : Aside0 (gb130 ≠ gb129) := ⟨h5_⟩
        have n6_ : Aside0 (gb129 ≠ gb130) := ⟨h6_⟩
        have n7_ : Aside0 (w.heap.size ≤ gb130) := ⟨h7_⟩
        have n8_ : Aside0 (w.heap.size ≤ gb130) := ⟨h8_⟩
        have n9_ : Aside0 (Below w.heap.size w w16) := ⟨h9_⟩
        clear HB
        clear h0_ h1_ h2_ h3_ h4_ h5_ h6_ h7_ h8_ h9_
        have HO128 := n0_
        have BK129 := n1_
        have BK130 := n2_
        have GW129 := n3_
        have GE129 := n4_
        have NB130_129 := n5_
        have NB129_130 := n6_
        have GW130 := n7_
        have GE130 := n8_
        have HB := n9_
        clear n0_ n1_ n2_ n3_ n4_ n5_ n6_ n7_ n8_ n9_
        have hHeld := trivial
        obtain ⟨Ao17, co17, eo17⟩ := Kd.R_slice HO128.out
        (first | subst eo17 | (injection eo17 with f1_ f2_ f3_; have f4_ := f1_.symm; have f5_ := f3_.symm; clear f1_ f2_ f3_; subst f4_; subst f5_))
        refine norm_ (a' := ?_) ?_ ?_
        rotate_left
        ·
         simp only [putAll, Act.put, setIfInBounds_toArray, set_cons_zero, set_cons_succ]
         rfl
        refine one_ (i := 0) (N := some 5) #[true,false,true,true,true,true,false,false] rfl rfl (one_of HT_.out (by kernel_rfl)) (by decide) (fun K hK => ?_)
        refine Kd.R_lit_step (Kd.int .u8) _ 5 ?hg (N := 5) ?hd (xs := ([254] : List Int)) (inner := [.int .u8 254]) (ok := fun _ => True) (okp := fun _ => True) ?hr ?hp (fun _ hk => hk) trivial (Below.refl _ _) (Nat.le_refl _) (by simp) ?_; (case hd => rfl); (case hg => rfl); (case hr => first | (go_simp; done) | (go_simp; rfl)); (case hp => exact (Reps.one (show Kd.M (Kd.int .u8) _ _ _ 254 [.int .u8 254] from rfl) (Reps.none _ _)))
        intro v124 w18 ho19 hb hg_ hnew_
        clear hg_ hnew_
        (first | rw [← Ny123.out] at ho19 | (simp only [Int.reduceToNat] at ho19; rw [← Ny123.out] at ho19))
        have n0_ := Aside0.mk (Kd.R_elder' (kR_ HO128.out) (Kd.R_base ho19) hb)
        have n1_ := Aside0.mk (Kd.R_lower (Kd.R_new' ho19 (Kd.R_lt (kR_ HO128.out))) (below_size (hb2_ HB.out GE129.out GE130.out)))
        have n2_ := Aside0.mk (blk_below (g := gb129) (o := .cells #[.int .i64 0, .int .i64 0, .slice none 0 0, .slice none 0 0, .slice none 0 0, .slice none 0 0, .slice none 0 0, .bool false] 31 (0, 0)) (bk_ BK129.out) hb)
        have n3_ := Aside0.mk (blk_below (g := gb130) (o := .cells #[.int .i64 0, .int .i64 0, .slice none 0 0, .slice none 0 0, .slice none 0 0, .slice none 0 0, .slice none 0 0, .bool false] 31 (0, 0)) (bk_ BK130.out) hb)
        have n4_ := Aside0.mk (below_step (hb2_ HB.out GE129.out GE130.out) hb)
        clear HO128
        clear BK129
        clear BK130
        clear HB
        have HO128 := n0_
        have HO125 := n1_
        have BK129 := n2_
        have BK130 := n3_
        have HB := n4_
        clear n0_ n1_ n2_ n3_ n4_
        clear hb ho19
        obtain ⟨Ao20, co20, eo20⟩ := Kd.R_slice HO125.out
        (first | subst eo20 | (injection eo20 with f1_ f2_ f3_; have f4_ := f1_.symm; have f5_ := f3_.symm; clear f1_ f2_ f3_; subst f4_; subst f5_))
        refine hK.out _ _ trivial (fun hHeld => ?_)
        clear hK K
        refine norm_ (a' := ?_) ?_ ?_
        rotate_left
        ·
         show Act.put _ (some 5) _ = _
         simp only [Act.put, setIfInBounds_toArray, set_cons_zero, set_cons_succ, i64_w, i32_w]
         rfl
        refine pure_ (i := 1) (N := some 6) (v := ?_) (a' := ?_) #[true,true,true,true,true,true,false,false] rfl rfl (any_of HT_.out (by kernel_rfl)) (fun _ _ _ h => h) (Or.inl ⟨by rfl, ?_⟩) ?_ ?_
        rotate_left
        ·
         intro w'
         go_simp
         with_reducible rfl
        rotate_left
        ·
         simp only [Act.put, setIfInBounds_toArray, set_cons_zero, set_cons_succ, i64_w, i32_w]
         rfl
        exact norm_ (by first | (simp only [putAll, Act.put, setIfInBounds_toArray, set_cons_zero, set_cons_succ]; done) | (simp only [putAll, Act.put, setIfInBounds_toArray, set_cons_zero, set_cons_succ]; rfl)) (hJ0_2_4_5 (.slice Ao20 y123.length co20, .slice Ao17 y126.length co17, gb129, gb130) _ ⟨(by (with_reducible repeat (first | apply Kd.R_alloc | apply Kd.R_drewN | apply Kd.R_drew)); exact Kd.R_mono HO125.out (fun _ hk => hk.2)), (by (with_reducible repeat (first | apply Kd.R_alloc | apply Kd.R_drewN | apply Kd.R_drew)); exact Kd.R_mono HO128.out (fun _ hk => hk.2)), (bk_ BK129.out), (bk_ BK130.out), GW129.out, GE129.out, NB130_129.out, NB129_130.out, GW130.out, GE130.out, (hb2_ HB.out GE129.out GE130.out)⟩)
      ·
       skip
       rintro ⟨v124, gb129, gb130⟩ w16 ⟨h0_, h1_, h2_, h3_, h4_, h5_, h6_, h7_, h8_, h9_⟩
       have n0_ : Aside0 (Kd.R (Kd.int .u8) 5 w16 w.heap.size (fun _ => True) v124 y123) := ⟨h0_⟩
       have n1_ : Aside0 (w16.heap[gb129]? = some (.cells #[.int .i64 0, .int .i64 0, .slice none 0 0, .slice none 0 0, .slice none 0 0, .slice none 0 0, .slice none 0 0, .bool false] 31 (0, 0))) := ⟨h1_⟩
       have n2_ : Aside0 (w16.heap[gb130]? = some (.cells #[.int .i64 0, .int .i64 0, .slice none 0 0, .slice none 0 0, .slice none 0 0, .slice none 0 0, .slice none 0 0, .bool false] 31 (0, 0))) := ⟨h2_⟩
       have n3_ : Aside0 (w.heap.size ≤ gb129) := ⟨h3_⟩
       have n4_ : Aside0 (w.heap.size ≤ gb129) := ⟨h4_⟩
       have n5_ : Aside0 (gb130 ≠ gb129) := ⟨h5_⟩
       have n6_ : Aside0 (gb129 ≠ gb130) := ⟨h6_⟩
       have n7_ : Aside0 (w.heap.size ≤ gb130) := ⟨h7_⟩
       have n8_ : Aside0 (w.heap.size ≤ gb130) := ⟨h8_⟩
       have n9_ : Aside0 (Below w.heap.size w w16) := ⟨h9_⟩
       clear HB
       clear h0_ h1_ h2_ h3_ h4_ h5_ h6_ h7_ h8_ h9_
       have HO125 := n0_
       have BK129 := n1_
       have BK130 := n2_
       have GW129 := n3_
       have GE129 := n4_
       have NB130_129 := n5_
       have NB129_130 := n6_
       have GW130 := n7_
       have GE130 := n8_
       have HB := n9_
       clear n0_ n1_ n2_ n3_ n4_ n5_ n6_ n7_ n8_ n9_
       have hHeld := trivial
       obtain ⟨Ao17, co17, eo17⟩ := Kd.R_slice HO125.out
       (first | subst eo17 | (injection eo17 with f1_ f2_ f3_; have f4_ := f1_.symm; have f5_ := f3_.symm; clear f1_ f2_ f3_; subst f4_; subst f5_))
       refine norm_ (a' := ?_) ?_ ?_
       rotate_left
       ·
        simp only [putAll, Act.put, setIfInBounds_toArray, set_cons_zero, set_cons_succ]
        rfl
       refine two_ (i := 2) (j := 6) (Ni := some 7) (Nj := none) #[true,true,true,false,true,true,false,false] #[true,true,false,false,true,true,true,false] rfl rfl rfl rfl (two_of HT_.out (by kernel_rfl)) (by decide) (by decide) (fun K hK => ?_) (fun K hK => ?_)
       ·
        skip
        refine Kd.R_make_step (Kd.int .u8) _ 5 (by rfl) (N := 7) rfl 27 _ _ rfl 8 rfl rfl Try.underlying27 (.int .u8 0) 1 info5 rfl (by decide) (by omega) 0 (ok := fun _ => True) (okp := fun _ => True) rfl (fun _ hk => hk) trivial (by omega) (by omega) (Below.refl _ _) (Nat.le_refl _) ?_
        intro v127 w18 ho19 hb hg_ hnew_
        clear hg_ hnew_
        (first | rw [← Ny126.out] at ho19 | (simp only [Int.reduceToNat] at ho19; rw [← Ny126.out] at ho19))
        have n0_ := Aside0.mk (Kd.R_elder' (kR_ HO125.out) (Kd.R_base ho19) hb)
        have n1_ := Aside0.mk (Kd.R_lower (Kd.R_new' ho19 (Kd.R_lt (kR_ HO125.out))) (below_size (hb2_ HB.out GE129.out GE130.out)))
        have n2_ := Aside0.mk (blk_below (g := gb129) (o := .cells #[.int .i64 0, .int .i64 0, .slice none 0 0, .slice none 0 0, .slice none 0 0, .slice none 0 0, .slice none 0 0, .bool false] 31 (0, 0)) (bk_ BK129.out) hb)
        have n3_ := Aside0.mk (blk_below (g := gb130) (o := .cells #[.int .i64 0, .int .i64 0, .slice none 0 0, .slice none 0 0, .slice none 0 0, .slice none 0 0, .slice none 0 0, .bool false] 31 (0, 0)) (bk_ BK130.out) hb)
        have n4_ := Aside0.mk (below_step (hb2_ HB.out GE129.out GE130.out) hb)
        clear HO125
        clear BK129
        clear BK130
        clear HB
        have HO125 := n0_
        have HO128 := n1_
        have BK129 := n2_
        have BK130 := n3_
        have HB := n4_
        clear n0_ n1_ n2_ n3_ n4_
        clear hb ho19
        obtain ⟨Ao20, co20, eo20⟩ := Kd.R_slice HO128.out
        (first | subst eo20 | (injection eo20 with f1_ f2_ f3_; have f4_ := f1_.symm; have f5_ := f3_.symm; clear f1_ f2_ f3_; subst f4_; subst f5_))
        refine hK.out _ _ trivial (fun hHeld => ?_)
        clear hK K
        refine norm_ (a' := ?_) ?_ ?_
        rotate_left
        ·
         show Act.put _ (some 7) _ = _
         simp only [Act.put, setIfInBounds_toArray, set_cons_zero, set_cons_succ, i64_w, i32_w]
         rfl
        refine pure_ (i := 3) (N := some 8) (v := ?_) (a' := ?_) #[true,true,true,true,true,true,false,false] rfl rfl (any_of HT_.out (by kernel_rfl)) (fun _ _ _ h => h) (Or.inl ⟨by rfl, ?_⟩) ?_ ?_
        rotate_left
        ·
         intro w'
         go_simp
         with_reducible rfl
        rotate_left
        ·
         simp only [Act.put, setIfInBounds_toArray, set_cons_zero, set_cons_succ, i64_w, i32_w]
         rfl
        exact norm_ (by first | (simp only [putAll, Act.put, setIfInBounds_toArray, set_cons_zero, set_cons_succ]; done) | (simp only [putAll, Act.put, setIfInBounds_toArray, set_cons_zero, set_cons_succ]; rfl)) (hJ0_2_4_5 (.slice Ao17 y123.length co17, .slice Ao20 y126.length co20, gb129, gb130) _ ⟨(by (with_reducible repeat (first | apply Kd.R_alloc | apply Kd.R_drewN | apply Kd.R_drew)); exact Kd.R_mono HO125.out (fun _ hk => hk.2)), (by (with_reducible repeat (first | apply Kd.R_alloc | apply Kd.R_drewN | apply Kd.R_drew)); exact Kd.R_mono HO128.out (fun _ hk => hk.2)), (bk_ BK129.out), (bk_ BK130.out), GW129.out, GE129.out, NB130_129.out, NB129_130.out, GW130.out, GE130.out, (hb2_ HB.out GE129.out GE130.out)⟩)
       ·
        skip
        have hs18 : w16.cell? ⟨gb129, 0, none⟩ = some (.int .i64 0) := (blk_cell BK129.out 0).trans rfl
        have hfs18 := blk_frozen BK129.out 0
        have hns18_1 := NB130_129.out
        have hms18_1 := NB129_130.out
        have hs19 : w16.cell? ⟨gb129, 1, none⟩ = some (.int .i64 0) := (blk_cell BK129.out 1).trans rfl
        have hfs19 := blk_frozen BK129.out 1
        have hns19_1 := NB130_129.out
        have hms19_1 := NB129_130.out
        have hs20 : w16.cell? ⟨gb129, 2, none⟩ = some (.slice none 0 0) := (blk_cell BK129.out 2).trans rfl
        have hfs20 := blk_frozen BK129.out 2
        have hns20_1 := NB130_129.out
        have hms20_1 := NB129_130.out
        have hs21 : w16.cell? ⟨gb129, 3, none⟩ = some (.slice none 0 0) := (blk_cell BK129.out 3).trans rfl
        have hfs21 := blk_frozen BK129.out 3
        have hns21_1 := NB130_129.out
        have hms21_1 := NB129_130.out
        have hs22 : w16.cell? ⟨gb129, 4, none⟩ = some (.slice none 0 0) := (blk_cell BK129.out 4).trans rfl
        have hfs22 := blk_frozen BK129.out 4
        have hns22_1 := NB130_129.out
        have hms22_1 := NB129_130.out
        have hs23 : w16.cell? ⟨gb129, 5, none⟩ = some (.slice none 0 0) := (blk_cell BK129.out 5).trans rfl
        have hfs23 := blk_frozen BK129.out 5
        have hns23_1 := NB130_129.out
        have hms23_1 := NB129_130.out
        have hs24 : w16.cell? ⟨gb129, 6, none⟩ = some (.slice none 0 0) := (blk_cell BK129.out 6).trans rfl
        have hfs24 := blk_frozen BK129.out 6
        have hns24_1 := NB130_129.out
        have hms24_1 := NB129_130.out
        have hs25 : w16.cell? ⟨gb129, 7, none⟩ = some (.bool false) := (blk_cell BK129.out 7).trans rfl
        have hfs25 := blk_frozen BK129.out 7
        have hns25_1 := NB130_129.out
        have hms25_1 := NB129_130.out
        refine skip_ (w1 := ?_) (by rfl) rfl ?_ ?_
        rotate_left
        ·
         go_simp
         rfl
        refine hK.out _ _ trivial (fun hHeld => ?_)
        clear hK K
        exact norm_ (by first | (simp only [putAll, Act.put, setIfInBounds_toArray, set_cons_zero, set_cons_succ]; done) | (simp only [putAll, Act.put, setIfInBounds_toArray, set_cons_zero, set_cons_succ]; rfl)) (hJ0_4_5_6 (.slice Ao17 y123.length co17, gb129, gb130) _ ⟨(by (with_reducible repeat (first | apply Kd.R_alloc | apply Kd.R_drewN | apply Kd.R_drew)); exact Kd.R_mono (Kd.R_far (p := ⟨gb129, 7, none⟩) (Kd.R_far (p := ⟨gb129, 6, none⟩) (Kd.R_far (p := ⟨gb129, 5, none⟩) (Kd.R_far (p := ⟨gb129, 4, none⟩) (Kd.R_far (p := ⟨gb129, 3, none⟩) (Kd.R_far (p := ⟨gb129, 2, none⟩) (Kd.R_far (p := ⟨gb129, 1, none⟩) (Kd.R_far (p := ⟨gb129, 0, none⟩) (Kd.R_types HO125.out BK129.out (by decide)) (fun _ hk => hk.2) (.int .i64 1)) (fun _ hk => hk.2) (.int .i64 1)) (fun _ hk => hk.2) (.slice Ao17 y123.length co17)) (fun _ hk => hk.2) (.slice none 0 0)) (fun _ hk => hk.2) (.slice none 0 0)) (fun _ hk => hk.2) (.slice none 0 0)) (fun _ hk => hk.2) (.slice none 0 0)) (fun _ hk => hk.2) (.bool false)) (fun _ hk => trivial)), (by (with_reducible repeat (first | refine blk_drewN ?_ _ | refine blk_drew ?_ | refine blk_alloc ?_ _)); refine blk_put (cs := #[.int .i64 1, .int .i64 1, .slice Ao17 y123.length co17, .slice none 0 0, .slice none 0 0, .slice none 0 0, .slice none 0 0, .bool false]) ?_ 7 _ rfl; (with_reducible repeat (first | refine blk_drewN ?_ _ | refine blk_drew ?_ | refine blk_alloc ?_ _)); refine blk_put (cs := #[.int .i64 1, .int .i64 1, .slice Ao17 y123.length co17, .slice none 0 0, .slice none 0 0, .slice none 0 0, .slice none 0 0, .bool false]) ?_ 6 _ rfl; (with_reducible repeat (first | refine blk_drewN ?_ _ | refine blk_drew ?_ | refine blk_alloc ?_ _)); refine blk_put (cs := #[.int .i64 1, .int .i64 1, .slice Ao17 y123.length co17, .slice none 0 0, .slice none 0 0, .slice none 0 0, .slice none 0 0, .bool false]) ?_ 5 _ rfl; (with_reducible repeat (first | refine blk_drewN ?_ _ | refine blk_drew ?_ | refine blk_alloc ?_ _)); refine blk_put (cs := #[.int .i64 1, .int .i64 1, .slice Ao17 y123.length co17, .slice none 0 0, .slice none 0 0, .slice none 0 0, .slice none 0 0, .bool false]) ?_ 4 _ rfl; (with_reducible repeat (first | refine blk_drewN ?_ _ | refine blk_drew ?_ | refine blk_alloc ?_ _)); refine blk_put (cs := #[.int .i64 1, .int .i64 1, .slice Ao17 y123.length co17, .slice none 0 0, .slice none 0 0, .slice none 0 0, .slice none 0 0, .bool false]) ?_ 3 _ rfl; (with_reducible repeat (first | refine blk_drewN ?_ _ | refine blk_drew ?_ | refine blk_alloc ?_ _)); refine blk_put (cs := #[.int .i64 1, .int .i64 1, .slice none 0 0, .slice none 0 0, .slice none 0 0, .slice none 0 0, .slice none 0 0, .bool false]) ?_ 2 _ rfl; (with_reducible repeat (first | refine blk_drewN ?_ _ | refine blk_drew ?_ | refine blk_alloc ?_ _)); refine blk_put (cs := #[.int .i64 1, .int .i64 0, .slice none 0 0, .slice none 0 0, .slice none 0 0, .slice none 0 0, .slice none 0 0, .bool false]) ?_ 1 _ rfl; (with_reducible repeat (first | refine blk_drewN ?_ _ | refine blk_drew ?_ | refine blk_alloc ?_ _)); refine blk_put (cs := #[.int .i64 0, .int .i64 0, .slice none 0 0, .slice none 0 0, .slice none 0 0, .slice none 0 0, .slice none 0 0, .bool false]) ?_ 0 _ rfl; (with_reducible repeat (first | refine blk_drewN ?_ _ | refine blk_drew ?_ | refine blk_alloc ?_ _)); exact BK129.out), (bf1_ BK130.out NB130_129.out), GW129.out, GE129.out, NB130_129.out, NB129_130.out, GW130.out, GE130.out, (hb2_ HB.out GE129.out GE130.out)⟩)
     ·
      skip
      rintro ⟨v124, v127, gb130⟩ w18 ⟨h0_, h1_, h2_, h3_, h4_, h5_⟩
      have n0_ : Aside0 (Kd.R (Kd.int .u8) 5 w18 w.heap.size (fun k_ => some k_ ≠ (v127 : Value).ownBlock) v124 y123) := ⟨h0_⟩
      have n1_ : Aside0 (Kd.R (Kd.int .u8) 5 w18 w.heap.size (fun k_ => some k_ ≠ (v124 : Value).ownBlock) v127 y126) := ⟨h1_⟩
      have n2_ : Aside0 (w18.heap[gb130]? = some (.cells #[.int .i64 0, .int .i64 0, .slice none 0 0, .slice none 0 0, .slice none 0 0, .slice none 0 0, .slice none 0 0, .bool false] 31 (0, 0))) := ⟨h2_⟩
      have n3_ : Aside0 (w.heap.size ≤ gb130) := ⟨h3_⟩
      have n4_ : Aside0 (w.heap.size ≤ gb130) := ⟨h4_⟩
      have n5_ : Aside0 (Below w.heap.size w w18) := ⟨h5_⟩
      clear HB
      clear h0_ h1_ h2_ h3_ h4_ h5_
      have HO125 := n0_
      have HO128 := n1_
      have BK130 := n2_
      have GW130 := n3_
      have GE130 := n4_
      have HB := n5_
      clear n0_ n1_ n2_ n3_ n4_ n5_
      have hHeld := trivial
      obtain ⟨Ao19, co19, eo19⟩ := Kd.R_slice HO125.out
      (first | subst eo19 | (injection eo19 with f1_ f2_ f3_; have f4_ := f1_.symm; have f5_ := f3_.symm; clear f1_ f2_ f3_; subst f4_; subst f5_))
      obtain ⟨Ao20, co20, eo20⟩ := Kd.R_slice HO128.out
      (first | subst eo20 | (injection eo20 with f1_ f2_ f3_; have f4_ := f1_.symm; have f5_ := f3_.symm; clear f1_ f2_ f3_; subst f4_; subst f5_))
      refine norm_ (a' := ?_) ?_ ?_
      rotate_left
      ·
       simp only [putAll, Act.put, setIfInBounds_toArray, set_cons_zero, set_cons_succ]
       rfl
      refine one_ (i := 4) (N := some 1) #[true,true,true,true,true,true,false,false] rfl rfl (one_of HT_.out (by kernel_rfl)) (by decide) (fun K hK => ?_)
      refine box_step ?hg (N := 1) ?hd (cs := #[.int .i64 0, .int .i64 0, .slice none 0 0, .slice none 0 0, .slice none 0 0, .slice none 0 0, .slice none 0 0, .bool false]) (t := 31) ?hr ?_; (case hd => rfl); (case hg => rfl); (case hr => first | (go_simp; done) | (go_simp; rfl))
      intro gb129 hg w21 hbox hb
      have n0_ := Aside0.mk (Kd.R_below (kR_ HO125.out) hb)
      have n1_ := Aside0.mk (Kd.R_below (kR_ HO128.out) hb)
      have n2_ := Aside0.mk (blk_below (g := gb130) (o := .cells #[.int .i64 0, .int .i64 0, .slice none 0 0, .slice none 0 0, .slice none 0 0, .slice none 0 0, .slice none 0 0, .bool false] 31 (0, 0)) (bk_ BK130.out) hb)
      have n3_ := Aside0.mk (below_step (hb1_ HB.out GE130.out) hb)
      have n4_ := Aside0.mk (hbox)
      have n5_ := Aside0.mk ((by rw [hg]; exact (below_size (hb1_ HB.out GE130.out)) : w.heap.size ≤ gb129))
      have n6_ := Aside0.mk ((by rw [hg]; exact (below_size (hb1_ HB.out GE130.out)) : w.heap.size ≤ gb129))
      have n7_ := Aside0.mk ((by rw [hg]; exact Nat.ne_of_lt (blk_lt (g := gb130) (o := .cells #[.int .i64 0, .int .i64 0, .slice none 0 0, .slice none 0 0, .slice none 0 0, .slice none 0 0, .slice none 0 0, .bool false] 31 (0, 0)) (bk_ BK130.out)) : gb130 ≠ gb129))
      have n8_ := Aside0.mk ((by rw [hg]; exact Nat.ne_of_gt (blk_lt (g := gb130) (o := .cells #[.int .i64 0, .int .i64 0, .slice none 0 0, .slice none 0 0, .slice none 0 0, .slice none 0 0, .slice none 0 0, .bool false] 31 (0, 0)) (bk_ BK130.out)) : gb129 ≠ gb130))
      clear HO125
      clear HO128
      clear BK130
      clear HB
      have HO125 := n0_
      have HO128 := n1_
      have BK130 := n2_
      have HB := n3_
      have BK129 := n4_
      have GW129 := n5_
      have GE129 := n6_
      have NB130_129 := n7_
      have NB129_130 := n8_
      clear n0_ n1_ n2_ n3_ n4_ n5_ n6_ n7_ n8_
      clear hb hbox hg
      refine hK.out _ _ trivial (fun hHeld => ?_)
      clear hK K
      refine norm_ (a' := ?_) ?_ ?_
      rotate_left
      ·
       show Act.put _ (some 1) _ = _
       simp only [Act.put, setIfInBounds_toArray, set_cons_zero, set_cons_succ, i64_w, i32_w]
       rfl
      exact norm_ (by first | (simp only [putAll, Act.put, setIfInBounds_toArray, set_cons_zero, set_cons_succ]; done) | (simp only [putAll, Act.put, setIfInBounds_toArray, set_cons_zero, set_cons_succ]; rfl)) (hJ0_2_4_5 (.slice Ao19 y123.length co19, .slice Ao20 y126.length co20, gb129, gb130) _ ⟨(kR_ HO125.out), (kR_ HO128.out), (bk_ BK129.out), (bk_ BK130.out), GW129.out, GE129.out, NB130_129.out, NB129_130.out, GW130.out, GE130.out, (hb2_ HB.out GE130.out GE129.out)⟩)
    ·
     skip
     rintro ⟨v124, v127, gb129⟩ w18 ⟨h0_, h1_, h2_, h3_, h4_, h5_⟩
     have n0_ : Aside0 (Kd.R (Kd.int .u8) 5 w18 w.heap.size (fun k_ => some k_ ≠ (v127 : Value).ownBlock) v124 y123) := ⟨h0_⟩
     have n1_ : Aside0 (Kd.R (Kd.int .u8) 5 w18 w.heap.size (fun k_ => some k_ ≠ (v124 : Value).ownBlock) v127 y126) := ⟨h1_⟩
     have n2_ : Aside0 (w18.heap[gb129]? = some (.cells #[.int .i64 0, .int .i64 0, .slice none 0 0, .slice none 0 0, .slice none 0 0, .slice none 0 0, .slice none 0 0, .bool false] 31 (0, 0))) := ⟨h2_⟩
     have n3_ : Aside0 (w.heap.size ≤ gb129) := ⟨h3_⟩
     have n4_ : Aside0 (w.heap.size ≤ gb129) := ⟨h4_⟩
     have n5_ : Aside0 (Below w.heap.size w w18) := ⟨h5_⟩
     clear HB
     clear h0_ h1_ h2_ h3_ h4_ h5_
     have HO125 := n0_
     have HO128 := n1_
     have BK129 := n2_
     have GW129 := n3_
     have GE129 := n4_
     have HB := n5_
     clear n0_ n1_ n2_ n3_ n4_ n5_
     have hHeld := trivial
     obtain ⟨Ao19, co19, eo19⟩ := Kd.R_slice HO125.out
     (first | subst eo19 | (injection eo19 with f1_ f2_ f3_; have f4_ := f1_.symm; have f5_ := f3_.symm; clear f1_ f2_ f3_; subst f4_; subst f5_))
     obtain ⟨Ao20, co20, eo20⟩ := Kd.R_slice HO128.out
     (first | subst eo20 | (injection eo20 with f1_ f2_ f3_; have f4_ := f1_.symm; have f5_ := f3_.symm; clear f1_ f2_ f3_; subst f4_; subst f5_))
     refine norm_ (a' := ?_) ?_ ?_
     rotate_left
     ·
      simp only [putAll, Act.put, setIfInBounds_toArray, set_cons_zero, set_cons_succ]
      rfl
     refine one_ (i := 5) (N := some 2) #[true,true,true,true,true,true,false,false] rfl rfl (one_of HT_.out (by kernel_rfl)) (by decide) (fun K hK => ?_)
     refine box_step ?hg (N := 2) ?hd (cs := #[.int .i64 0, .int .i64 0, .slice none 0 0, .slice none 0 0, .slice none 0 0, .slice none 0 0, .slice none 0 0, .bool false]) (t := 31) ?hr ?_; (case hd => rfl); (case hg => rfl); (case hr => first | (go_simp; done) | (go_simp; rfl))
     intro gb130 hg w21 hbox hb
     have n0_ := Aside0.mk (Kd.R_below (kR_ HO125.out) hb)
     have n1_ := Aside0.mk (Kd.R_below (kR_ HO128.out) hb)
     have n2_ := Aside0.mk (blk_below (g := gb129) (o := .cells #[.int .i64 0, .int .i64 0, .slice none 0 0, .slice none 0 0, .slice none 0 0, .slice none 0 0, .slice none 0 0, .bool false] 31 (0, 0)) (bk_ BK129.out) hb)
     have n3_ := Aside0.mk (below_step (hb1_ HB.out GE129.out) hb)
     have n4_ := Aside0.mk (hbox)
     have n5_ := Aside0.mk ((by rw [hg]; exact (below_size (hb1_ HB.out GE129.out)) : w.heap.size ≤ gb130))
     have n6_ := Aside0.mk ((by rw [hg]; exact (below_size (hb1_ HB.out GE129.out)) : w.heap.size ≤ gb130))
     have n7_ := Aside0.mk ((by rw [hg]; exact Nat.ne_of_lt (blk_lt (g := gb129) (o := .cells #[.int .i64 0, .int .i64 0, .slice none 0 0, .slice none 0 0, .slice none 0 0, .slice none 0 0, .slice none 0 0, .bool false] 31 (0, 0)) (bk_ BK129.out)) : gb129 ≠ gb130))
     have n8_ := Aside0.mk ((by rw [hg]; exact Nat.ne_of_gt (blk_lt (g := gb129) (o := .cells #[.int .i64 0, .int .i64 0, .slice none 0 0, .slice none 0 0, .slice none 0 0, .slice none 0 0, .slice none 0 0, .bool false] 31 (0, 0)) (bk_ BK129.out)) : gb130 ≠ gb129))
     clear HO125
     clear HO128
     clear BK129
     clear HB
     have HO125 := n0_
     have HO128 := n1_
     have BK129 := n2_
     have HB := n3_
     have BK130 := n4_
     have GW130 := n5_
     have GE130 := n6_
     have NB129_130 := n7_
     have NB130_129 := n8_
     clear n0_ n1_ n2_ n3_ n4_ n5_ n6_ n7_ n8_
     clear hb hbox hg
     refine hK.out _ _ trivial (fun hHeld => ?_)
     clear hK K
     refine norm_ (a' := ?_) ?_ ?_
     rotate_left
     ·
      show Act.put _ (some 2) _ = _
      simp only [Act.put, setIfInBounds_toArray, set_cons_zero, set_cons_succ, i64_w, i32_w]
      rfl
     exact norm_ (by first | (simp only [putAll, Act.put, setIfInBounds_toArray, set_cons_zero, set_cons_succ]; done) | (simp only [putAll, Act.put, setIfInBounds_toArray, set_cons_zero, set_cons_succ]; rfl)) (hJ0_2_4_5 (.slice Ao19 y123.length co19, .slice Ao20 y126.length co20, gb129, gb130) _ ⟨(kR_ HO125.out), (kR_ HO128.out), (bk_ BK129.out), (bk_ BK130.out), GW129.out, GE129.out, NB130_129.out, NB129_130.out, GW130.out, GE130.out, (hb2_ HB.out GE129.out GE130.out)⟩)
   ·
    skip
    rintro ⟨v124, gb129, gb130⟩ w24 ⟨h0_, h1_, h2_, h3_, h4_, h5_, h6_, h7_, h8_, h9_⟩
    have n0_ : Aside0 (Kd.R (Kd.int .u8) 5 w24 w.heap.size (fun _ => True) v124 y123) := ⟨h0_⟩
    have n1_ : Aside0 (w24.heap[gb129]? = some (.cells #[.int .i64 1, .int .i64 1, v124, .slice none 0 0, .slice none 0 0, .slice none 0 0, .slice none 0 0, .bool false] 31 (0, 0))) := ⟨h1_⟩
    have n2_ : Aside0 (w24.heap[gb130]? = some (.cells #[.int .i64 0, .int .i64 0, .slice none 0 0, .slice none 0 0, .slice none 0 0, .slice none 0 0, .slice none 0 0, .bool false] 31 (0, 0))) := ⟨h2_⟩
    have n3_ : Aside0 (w.heap.size ≤ gb129) := ⟨h3_⟩
    have n4_ : Aside0 (w.heap.size ≤ gb129) := ⟨h4_⟩
    have n5_ : Aside0 (gb130 ≠ gb129) := ⟨h5_⟩
    have n6_ : Aside0 (gb129 ≠ gb130) := ⟨h6_⟩
    have n7_ : Aside0 (w.heap.size ≤ gb130) := ⟨h7_⟩
    have n8_ : Aside0 (w.heap.size ≤ gb130) := ⟨h8_⟩
    have n9_ : Aside0 (Below w.heap.size w w24) := ⟨h9_⟩
    clear HB
    clear h0_ h1_ h2_ h3_ h4_ h5_ h6_ h7_ h8_ h9_
    have HO125 := n0_
    have BK129 := n1_
    have BK130 := n2_
    have GW129 := n3_
    have GE129 := n4_
    have NB130_129 := n5_
    have NB129_130 := n6_
    have GW130 := n7_
    have GE130 := n8_
    have HB := n9_
    clear n0_ n1_ n2_ n3_ n4_ n5_ n6_ n7_ n8_ n9_
    have hHeld := trivial
    obtain ⟨Ao25, co25, eo25⟩ := Kd.R_slice HO125.out
    (first | subst eo25 | (injection eo25 with f1_ f2_ f3_; have f4_ := f1_.symm; have f5_ := f3_.symm; clear f1_ f2_ f3_; subst f4_; subst f5_))
    refine norm_ (a' := ?_) ?_ ?_
    rotate_left
    ·
     simp only [putAll, Act.put, setIfInBounds_toArray, set_cons_zero, set_cons_succ]
     rfl
    refine one_ (i := 2) (N := some 7) #[true,true,true,false,true,true,true,false] rfl rfl (one_of HT_.out (by kernel_rfl)) (by decide) (fun K hK => ?_)
    refine Kd.R_make_step (Kd.int .u8) _ 5 (by rfl) (N := 7) rfl 27 _ _ rfl 8 rfl rfl Try.underlying27 (.int .u8 0) 1 info5 rfl (by decide) (by omega) 0 (ok := fun _ => True) (okp := fun _ => True) rfl (fun _ hk => hk) trivial (by omega) (by omega) (Below.refl _ _) (Nat.le_refl _) ?_
    intro v127 w26 ho27 hb hg_ hnew_
    clear hg_ hnew_
    (first | rw [← Ny126.out] at ho27 | (simp only [Int.reduceToNat] at ho27; rw [← Ny126.out] at ho27))
    have n0_ := Aside0.mk (Kd.R_elder' (kR_ HO125.out) (Kd.R_base ho27) hb)
    have n1_ := Aside0.mk (Kd.R_lower (Kd.R_new' ho27 (Kd.R_lt (kR_ HO125.out))) (below_size (hb2_ HB.out GE129.out GE130.out)))
    have n2_ := Aside0.mk (blk_below (g := gb129) (o := .cells #[.int .i64 1, .int .i64 1, .slice Ao25 y123.length co25, .slice none 0 0, .slice none 0 0, .slice none 0 0, .slice none 0 0, .bool false] 31 (0, 0)) (bk_ BK129.out) hb)
    have n3_ := Aside0.mk (blk_below (g := gb130) (o := .cells #[.int .i64 0, .int .i64 0, .slice none 0 0, .slice none 0 0, .slice none 0 0, .slice none 0 0, .slice none 0 0, .bool false] 31 (0, 0)) (bk_ BK130.out) hb)
    have n4_ := Aside0.mk (below_step (hb2_ HB.out GE129.out GE130.out) hb)
    clear HO125
    clear BK129
    clear BK130
    clear HB
    have HO125 := n0_
    have HO128 := n1_
    have BK129 := n2_
    have BK130 := n3_
    have HB := n4_
    clear n0_ n1_ n2_ n3_ n4_
    clear hb ho27
    obtain ⟨Ao28, co28, eo28⟩ := Kd.R_slice HO128.out
    (first | subst eo28 | (injection eo28 with f1_ f2_ f3_; have f4_ := f1_.symm; have f5_ := f3_.symm; clear f1_ f2_ f3_; subst f4_; subst f5_))
    refine hK.out _ _ trivial (fun hHeld => ?_)
    clear hK K
    refine norm_ (a' := ?_) ?_ ?_
    rotate_left
    ·
     show Act.put _ (some 7) _ = _
     simp only [Act.put, setIfInBounds_toArray, set_cons_zero, set_cons_succ, i64_w, i32_w]
     rfl
    refine pure_ (i := 3) (N := some 8) (v := ?_) (a' := ?_) #[true,true,true,true,true,true,true,false] rfl rfl (any_of HT_.out (by kernel_rfl)) (fun _ _ _ h => h) (Or.inl ⟨by rfl, ?_⟩) ?_ ?_
    rotate_left
    ·
     intro w'
     go_simp
     with_reducible rfl
    rotate_left
    ·
     simp only [Act.put, setIfInBounds_toArray, set_cons_zero, set_cons_succ, i64_w, i32_w]
     rfl
    exact norm_ (by first | (simp only [putAll, Act.put, setIfInBounds_toArray, set_cons_zero, set_cons_succ]; done) | (simp only [putAll, Act.put, setIfInBounds_toArray, set_cons_zero, set_cons_succ]; rfl)) (hJ0_2_4_5_6 (.slice Ao25 y123.length co25, .slice Ao28 y126.length co28, gb129, gb130) _ ⟨(by (with_reducible repeat (first | apply Kd.R_alloc | apply Kd.R_drewN | apply Kd.R_drew)); exact Kd.R_mono HO125.out (fun _ hk => hk.2)), (by (with_reducible repeat (first | apply Kd.R_alloc | apply Kd.R_drewN | apply Kd.R_drew)); exact Kd.R_mono HO128.out (fun _ hk => hk.2)), (bk_ BK129.out), (bk_ BK130.out), GW129.out, GE129.out, NB130_129.out, NB129_130.out, GW130.out, GE130.out, (hb2_ HB.out GE129.out GE130.out)⟩)
  ·
   skip
   rintro ⟨v124, v127, gb129, gb130⟩ w19 ⟨h0_, h1_, h2_, h3_, h4_, h5_, h6_, h7_, h8_, h9_, h10_⟩
   have n0_ : Aside0 (Kd.R (Kd.int .u8) 5 w19 w.heap.size (fun k_ => some k_ ≠ (v127 : Value).ownBlock) v124 y123) := ⟨h0_⟩
   have n1_ : Aside0 (Kd.R (Kd.int .u8) 5 w19 w.heap.size (fun k_ => some k_ ≠ (v124 : Value).ownBlock) v127 y126) := ⟨h1_⟩
   have n2_ : Aside0 (w19.heap[gb129]? = some (.cells #[.int .i64 0, .int .i64 0, .slice none 0 0, .slice none 0 0, .slice none 0 0, .slice none 0 0, .slice none 0 0, .bool false] 31 (0, 0))) := ⟨h2_⟩
   have n3_ : Aside0 (w19.heap[gb130]? = some (.cells #[.int .i64 0, .int .i64 0, .slice none 0 0, .slice none 0 0, .slice none 0 0, .slice none 0 0, .slice none 0 0, .bool false] 31 (0, 0))) := ⟨h3_⟩
   have n4_ : Aside0 (w.heap.size ≤ gb129) := ⟨h4_⟩
   have n5_ : Aside0 (w.heap.size ≤ gb129) := ⟨h5_⟩
   have n6_ : Aside0 (gb130 ≠ gb129) := ⟨h6_⟩
   have n7_ : Aside0 (gb129 ≠ gb130) := ⟨h7_⟩
   have n8_ : Aside0 (w.heap.size ≤ gb130) := ⟨h8_⟩
   have n9_ : Aside0 (w.heap.size ≤ gb130) := ⟨h9_⟩
   have n10_ : Aside0 (Below w.heap.size w w19) := ⟨h10_⟩
   clear HB
   clear h0_ h1_ h2_ h3_ h4_ h5_ h6_ h7_ h8_ h9_ h10_
   have HO125 := n0_
   have HO128 := n1_
   have BK129 := n2_
   have BK130 := n3_
   have GW129 := n4_
   have GE129 := n5_
   have NB130_129 := n6_
   have NB129_130 := n7_
   have GW130 := n8_
   have GE130 := n9_
   have HB := n10_
   clear n0_ n1_ n2_ n3_ n4_ n5_ n6_ n7_ n8_ n9_ n10_
   have hHeld := trivial
   obtain ⟨Ao20, co20, eo20⟩ := Kd.R_slice HO125.out
   (first | subst eo20 | (injection eo20 with f1_ f2_ f3_; have f4_ := f1_.symm; have f5_ := f3_.symm; clear f1_ f2_ f3_; subst f4_; subst f5_))
   obtain ⟨Ao21, co21, eo21⟩ := Kd.R_slice HO128.out
   (first | subst eo21 | (injection eo21 with f1_ f2_ f3_; have f4_ := f1_.symm; have f5_ := f3_.symm; clear f1_ f2_ f3_; subst f4_; subst f5_))
   refine norm_ (a' := ?_) ?_ ?_
   rotate_left
   ·
    simp only [putAll, Act.put, setIfInBounds_toArray, set_cons_zero, set_cons_succ]
    rfl
   refine one_ (i := 6) (N := none) #[true,true,true,true,true,true,true,false] rfl rfl (one_of HT_.out (by kernel_rfl)) (by decide) (fun K hK => ?_)
   have hs22 : w19.cell? ⟨gb129, 0, none⟩ = some (.int .i64 0) := (blk_cell BK129.out 0).trans rfl
   have hfs22 := blk_frozen BK129.out 0
   have hns22_1 := NB130_129.out
   have hms22_1 := NB129_130.out
   have hs23 : w19.cell? ⟨gb129, 1, none⟩ = some (.int .i64 0) := (blk_cell BK129.out 1).trans rfl
   have hfs23 := blk_frozen BK129.out 1
   have hns23_1 := NB130_129.out
   have hms23_1 := NB129_130.out
   have hs24 : w19.cell? ⟨gb129, 2, none⟩ = some (.slice none 0 0) := (blk_cell BK129.out 2).trans rfl
   have hfs24 := blk_frozen BK129.out 2
   have hns24_1 := NB130_129.out
   have hms24_1 := NB129_130.out
   have hs25 : w19.cell? ⟨gb129, 3, none⟩ = some (.slice none 0 0) := (blk_cell BK129.out 3).trans rfl
   have hfs25 := blk_frozen BK129.out 3
   have hns25_1 := NB130_129.out
   have hms25_1 := NB129_130.out
   have hs26 : w19.cell? ⟨gb129, 4, none⟩ = some (.slice none 0 0) := (blk_cell BK129.out 4).trans rfl
   have hfs26 := blk_frozen BK129.out 4
   have hns26_1 := NB130_129.out
   have hms26_1 := NB129_130.out
   have hs27 : w19.cell? ⟨gb129, 5, none⟩ = some (.slice none 0 0) := (blk_cell BK129.out 5).trans rfl
   have hfs27 := blk_frozen BK129.out 5
   have hns27_1 := NB130_129.out
   have hms27_1 := NB129_130.out
   have hs28 : w19.cell? ⟨gb129, 6, none⟩ = some (.slice none 0 0) := (blk_cell BK129.out 6).trans rfl
   have hfs28 := blk_frozen BK129.out 6
   have hns28_1 := NB130_129.out
   have hms28_1 := NB129_130.out
   have hs29 : w19.cell? ⟨gb129, 7, none⟩ = some (.bool false) := (blk_cell BK129.out 7).trans rfl
   have hfs29 := blk_frozen BK129.out 7
   have hns29_1 := NB130_129.out
   have hms29_1 := NB129_130.out
   refine skip_ (w1 := ?_) (by rfl) rfl ?_ ?_
   rotate_left
   ·
    go_simp
    rfl
   refine hK.out _ _ trivial (fun hHeld => ?_)
   clear hK K
   exact norm_ (by first | (simp only [putAll, Act.put, setIfInBounds_toArray, set_cons_zero, set_cons_succ]; done) | (simp only [putAll, Act.put, setIfInBounds_toArray, set_cons_zero, set_cons_succ]; rfl)) (hJ0_2_4_5_6 (.slice Ao20 y123.length co20, .slice Ao21 y126.length co21, gb129, gb130) _ ⟨(by (with_reducible repeat (first | apply Kd.R_alloc | apply Kd.R_drewN | apply Kd.R_drew)); exact Kd.R_mono (Kd.R_far (p := ⟨gb129, 7, none⟩) (Kd.R_far (p := ⟨gb129, 6, none⟩) (Kd.R_far (p := ⟨gb129, 5, none⟩) (Kd.R_far (p := ⟨gb129, 4, none⟩) (Kd.R_far (p := ⟨gb129, 3, none⟩) (Kd.R_far (p := ⟨gb129, 2, none⟩) (Kd.R_far (p := ⟨gb129, 1, none⟩) (Kd.R_far (p := ⟨gb129, 0, none⟩) (Kd.R_types HO125.out BK129.out (by decide)) (fun _ hk => hk.2) (.int .i64 1)) (fun _ hk => hk.2) (.int .i64 1)) (fun _ hk => hk.2) (.slice Ao20 y123.length co20)) (fun _ hk => hk.2) (.slice none 0 0)) (fun _ hk => hk.2) (.slice none 0 0)) (fun _ hk => hk.2) (.slice none 0 0)) (fun _ hk => hk.2) (.slice none 0 0)) (fun _ hk => hk.2) (.bool false)) (fun _ hk => hk.1)), (by (with_reducible repeat (first | apply Kd.R_alloc | apply Kd.R_drewN | apply Kd.R_drew)); exact Kd.R_mono (Kd.R_far (p := ⟨gb129, 7, none⟩) (Kd.R_far (p := ⟨gb129, 6, none⟩) (Kd.R_far (p := ⟨gb129, 5, none⟩) (Kd.R_far (p := ⟨gb129, 4, none⟩) (Kd.R_far (p := ⟨gb129, 3, none⟩) (Kd.R_far (p := ⟨gb129, 2, none⟩) (Kd.R_far (p := ⟨gb129, 1, none⟩) (Kd.R_far (p := ⟨gb129, 0, none⟩) (Kd.R_types HO128.out BK129.out (by decide)) (fun _ hk => hk.2) (.int .i64 1)) (fun _ hk => hk.2) (.int .i64 1)) (fun _ hk => hk.2) (.slice Ao20 y123.length co20)) (fun _ hk => hk.2) (.slice none 0 0)) (fun _ hk => hk.2) (.slice none 0 0)) (fun _ hk => hk.2) (.slice none 0 0)) (fun _ hk => hk.2) (.slice none 0 0)) (fun _ hk => hk.2) (.bool false)) (fun _ hk => hk.1)), (by (with_reducible repeat (first | refine blk_drewN ?_ _ | refine blk_drew ?_ | refine blk_alloc ?_ _)); refine blk_put (cs := #[.int .i64 1, .int .i64 1, .slice Ao20 y123.length co20, .slice none 0 0, .slice none 0 0, .slice none 0 0, .slice none 0 0, .bool false]) ?_ 7 _ rfl; (with_reducible repeat (first | refine blk_drewN ?_ _ | refine blk_drew ?_ | refine blk_alloc ?_ _)); refine blk_put (cs := #[.int .i64 1, .int .i64 1, .slice Ao20 y123.length co20, .slice none 0 0, .slice none 0 0, .slice none 0 0, .slice none 0 0, .bool false]) ?_ 6 _ rfl; (with_reducible repeat (first | refine blk_drewN ?_ _ | refine blk_drew ?_ | refine blk_alloc ?_ _)); refine blk_put (cs := #[.int .i64 1, .int .i64 1, .slice Ao20 y123.length co20, .slice none 0 0, .slice none 0 0, .slice none 0 0, .slice none 0 0, .bool false]) ?_ 5 _ rfl; (with_reducible repeat (first | refine blk_drewN ?_ _ | refine blk_drew ?_ | refine blk_alloc ?_ _)); refine blk_put (cs := #[.int .i64 1, .int .i64 1, .slice Ao20 y123.length co20, .slice none 0 0, .slice none 0 0, .slice none 0 0, .slice none 0 0, .bool false]) ?_ 4 _ rfl; (with_reducible repeat (first | refine blk_drewN ?_ _ | refine blk_drew ?_ | refine blk_alloc ?_ _)); refine blk_put (cs := #[.int .i64 1, .int .i64 1, .slice Ao20 y123.length co20, .slice none 0 0, .slice none 0 0, .slice none 0 0, .slice none 0 0, .bool false]) ?_ 3 _ rfl; (with_reducible repeat (first | refine blk_drewN ?_ _ | refine blk_drew ?_ | refine blk_alloc ?_ _)); refine blk_put (cs := #[.int .i64 1, .int .i64 1, .slice none 0 0, .slice none 0 0, .slice none 0 0, .slice none 0 0, .slice none 0 0, .bool false]) ?_ 2 _ rfl; (with_reducible repeat (first | refine blk_drewN ?_ _ | refine blk_drew ?_ | refine blk_alloc ?_ _)); refine blk_put (cs := #[.int .i64 1, .int .i64 0, .slice none 0 0, .slice none 0 0, .slice none 0 0, .slice none 0 0, .slice none 0 0, .bool false]) ?_ 1 _ rfl; (with_reducible repeat (first | refine blk_drewN ?_ _ | refine blk_drew ?_ | refine blk_alloc ?_ _)); refine blk_put (cs := #[.int .i64 0, .int .i64 0, .slice none 0 0, .slice none 0 0, .slice none 0 0, .slice none 0 0, .slice none 0 0, .bool false]) ?_ 0 _ rfl; (with_reducible repeat (first | refine blk_drewN ?_ _ | refine blk_drew ?_ | refine blk_alloc ?_ _)); exact BK129.out), (bf1_ BK130.out NB130_129.out), GW129.out, GE129.out, NB130_129.out, NB129_130.out, GW130.out, GE130.out, (hb2_ HB.out GE129.out GE130.out)⟩)
 rintro ⟨v124, v127, gb129, gb130⟩ w27 ⟨h0_, h1_, h2_, h3_, h4_, h5_, h6_, h7_, h8_, h9_, h10_⟩
 have n0_ : Aside0 (Kd.R (Kd.int .u8) 5 w27 w.heap.size (fun k_ => some k_ ≠ (v127 : Value).ownBlock) v124 y123) := ⟨h0_⟩
 have n1_ : Aside0 (Kd.R (Kd.int .u8) 5 w27 w.heap.size (fun k_ => some k_ ≠ (v124 : Value).ownBlock) v127 y126) := ⟨h1_⟩
 have n2_ : Aside0 (w27.heap[gb129]? = some (.cells #[.int .i64 1, .int .i64 1, v124, .slice none 0 0, .slice none 0 0, .slice none 0 0, .slice none 0 0, .bool false] 31 (0, 0))) := ⟨h2_⟩
 have n3_ : Aside0 (w27.heap[gb130]? = some (.cells #[.int .i64 0, .int .i64 0, .slice none 0 0, .slice none 0 0, .slice none 0 0, .slice none 0 0, .slice none 0 0, .bool false] 31 (0, 0))) := ⟨h3_⟩
 have n4_ : Aside0 (w.heap.size ≤ gb129) := ⟨h4_⟩
 have n5_ : Aside0 (w.heap.size ≤ gb129) := ⟨h5_⟩
 have n6_ : Aside0 (gb130 ≠ gb129) := ⟨h6_⟩
 have n7_ : Aside0 (gb129 ≠ gb130) := ⟨h7_⟩
 have n8_ : Aside0 (w.heap.size ≤ gb130) := ⟨h8_⟩
 have n9_ : Aside0 (w.heap.size ≤ gb130) := ⟨h9_⟩
 have n10_ : Aside0 (Below w.heap.size w w27) := ⟨h10_⟩
 clear HB
 clear h0_ h1_ h2_ h3_ h4_ h5_ h6_ h7_ h8_ h9_ h10_
 have HO125 := n0_
 have HO128 := n1_
 have BK129 := n2_
 have BK130 := n3_
 have GW129 := n4_
 have GE129 := n5_
 have NB130_129 := n6_
 have NB129_130 := n7_
 have GW130 := n8_
 have GE130 := n9_
 have HB := n10_
 clear n0_ n1_ n2_ n3_ n4_ n5_ n6_ n7_ n8_ n9_ n10_
 have hHeld := trivial
 obtain ⟨Ao28, co28, eo28⟩ := Kd.R_slice HO125.out
 (first | subst eo28 | (injection eo28 with f1_ f2_ f3_; have f4_ := f1_.symm; have f5_ := f3_.symm; clear f1_ f2_ f3_; subst f4_; subst f5_))
 obtain ⟨Ao29, co29, eo29⟩ := Kd.R_slice HO128.out
 (first | subst eo29 | (injection eo29 with f1_ f2_ f3_; have f4_ := f1_.symm; have f5_ := f3_.symm; clear f1_ f2_ f3_; subst f4_; subst f5_))
 refine norm_ (a' := ?_) ?_ ?_
 rotate_left
 ·
  simp only [putAll, Act.put, setIfInBounds_toArray, set_cons_zero, set_cons_succ]
  rfl
 refine one_ (i := 7) (N := none) #[true,true,true,true,true,true,true,true] rfl rfl (one_of HT_.out (by kernel_rfl)) (by decide) (fun K hK => ?_)
 have hs30 : w27.cell? ⟨gb130, 0, none⟩ = some (.int .i64 0) := (blk_cell BK130.out 0).trans rfl
 have hfs30 := blk_frozen BK130.out 0
 have hns30_0 := NB129_130.out
 have hms30_0 := NB130_129.out
 have hs31 : w27.cell? ⟨gb130, 1, none⟩ = some (.int .i64 0) := (blk_cell BK130.out 1).trans rfl
 have hfs31 := blk_frozen BK130.out 1
 have hns31_0 := NB129_130.out
 have hms31_0 := NB130_129.out
 have hs32 : w27.cell? ⟨gb130, 2, none⟩ = some (.slice none 0 0) := (blk_cell BK130.out 2).trans rfl
 have hfs32 := blk_frozen BK130.out 2
 have hns32_0 := NB129_130.out
 have hms32_0 := NB130_129.out
 have hs33 : w27.cell? ⟨gb130, 3, none⟩ = some (.slice none 0 0) := (blk_cell BK130.out 3).trans rfl
 have hfs33 := blk_frozen BK130.out 3
 have hns33_0 := NB129_130.out
 have hms33_0 := NB130_129.out
 have hs34 : w27.cell? ⟨gb130, 4, none⟩ = some (.slice none 0 0) := (blk_cell BK130.out 4).trans rfl
 have hfs34 := blk_frozen BK130.out 4
 have hns34_0 := NB129_130.out
 have hms34_0 := NB130_129.out
 have hs35 : w27.cell? ⟨gb130, 5, none⟩ = some (.slice none 0 0) := (blk_cell BK130.out 5).trans rfl
 have hfs35 := blk_frozen BK130.out 5
 have hns35_0 := NB129_130.out
 have hms35_0 := NB130_129.out
 have hs36 : w27.cell? ⟨gb130, 6, none⟩ = some (.slice none 0 0) := (blk_cell BK130.out 6).trans rfl
 have hfs36 := blk_frozen BK130.out 6
 have hns36_0 := NB129_130.out
 have hms36_0 := NB130_129.out
 have hs37 : w27.cell? ⟨gb130, 7, none⟩ = some (.bool false) := (blk_cell BK130.out 7).trans rfl
 have hfs37 := blk_frozen BK130.out 7
 have hns37_0 := NB129_130.out
 have hms37_0 := NB130_129.out
 refine skip_ (w1 := ?_) (by rfl) rfl ?_ ?_
 rotate_left
 ·
  go_simp
  rfl
 refine hK.out _ _ trivial (fun hHeld => ?_)
 clear hK K
 refine done_ (done_of HT_.out (by kernel_rfl)) ?_
 have n0_ : Aside0 (Kd.R (Kd.int .u8) 5 ((((((((w27.setCell ⟨gb130, 0, none⟩ (.int .i64 8)).setCell ⟨gb130, 1, none⟩ (.int .i64 8)).setCell ⟨gb130, 2, none⟩ (.slice Ao29 y126.length co29)).setCell ⟨gb130, 3, none⟩ (.slice none 0 0)).setCell ⟨gb130, 4, none⟩ (.slice none 0 0)).setCell ⟨gb130, 5, none⟩ (.slice none 0 0)).setCell ⟨gb130, 6, none⟩ (.slice none 0 0)).setCell ⟨gb130, 7, none⟩ (.bool false)) w.heap.size (fun k_ => some k_ ≠ (.slice Ao29 y126.length co29 : Value).ownBlock) (.slice Ao28 y123.length co28) y123) := ⟨by (with_reducible repeat (first | apply Kd.R_alloc | apply Kd.R_drewN | apply Kd.R_drew)); exact Kd.R_mono (Kd.R_far (p := ⟨gb130, 7, none⟩) (Kd.R_far (p := ⟨gb130, 6, none⟩) (Kd.R_far (p := ⟨gb130, 5, none⟩) (Kd.R_far (p := ⟨gb130, 4, none⟩) (Kd.R_far (p := ⟨gb130, 3, none⟩) (Kd.R_far (p := ⟨gb130, 2, none⟩) (Kd.R_far (p := ⟨gb130, 1, none⟩) (Kd.R_far (p := ⟨gb130, 0, none⟩) (Kd.R_types HO125.out BK130.out (by decide)) (fun _ hk => hk.2) (.int .i64 8)) (fun _ hk => hk.2) (.int .i64 8)) (fun _ hk => hk.2) (.slice Ao29 y126.length co29)) (fun _ hk => hk.2) (.slice none 0 0)) (fun _ hk => hk.2) (.slice none 0 0)) (fun _ hk => hk.2) (.slice none 0 0)) (fun _ hk => hk.2) (.slice none 0 0)) (fun _ hk => hk.2) (.bool false)) (fun _ hk => hk.1)⟩
 have n1_ : Aside0 (Kd.R (Kd.int .u8) 5 ((((((((w27.setCell ⟨gb130, 0, none⟩ (.int .i64 8)).setCell ⟨gb130, 1, none⟩ (.int .i64 8)).setCell ⟨gb130, 2, none⟩ (.slice Ao29 y126.length co29)).setCell ⟨gb130, 3, none⟩ (.slice none 0 0)).setCell ⟨gb130, 4, none⟩ (.slice none 0 0)).setCell ⟨gb130, 5, none⟩ (.slice none 0 0)).setCell ⟨gb130, 6, none⟩ (.slice none 0 0)).setCell ⟨gb130, 7, none⟩ (.bool false)) w.heap.size (fun k_ => some k_ ≠ (.slice Ao28 y123.length co28 : Value).ownBlock) (.slice Ao29 y126.length co29) y126) := ⟨by (with_reducible repeat (first | apply Kd.R_alloc | apply Kd.R_drewN | apply Kd.R_drew)); exact Kd.R_mono (Kd.R_far (p := ⟨gb130, 7, none⟩) (Kd.R_far (p := ⟨gb130, 6, none⟩) (Kd.R_far (p := ⟨gb130, 5, none⟩) (Kd.R_far (p := ⟨gb130, 4, none⟩) (Kd.R_far (p := ⟨gb130, 3, none⟩) (Kd.R_far (p := ⟨gb130, 2, none⟩) (Kd.R_far (p := ⟨gb130, 1, none⟩) (Kd.R_far (p := ⟨gb130, 0, none⟩) (Kd.R_types HO128.out BK130.out (by decide)) (fun _ hk => hk.2) (.int .i64 8)) (fun _ hk => hk.2) (.int .i64 8)) (fun _ hk => hk.2) (.slice Ao29 y126.length co29)) (fun _ hk => hk.2) (.slice none 0 0)) (fun _ hk => hk.2) (.slice none 0 0)) (fun _ hk => hk.2) (.slice none 0 0)) (fun _ hk => hk.2) (.slice none 0 0)) (fun _ hk => hk.2) (.bool false)) (fun _ hk => hk.1)⟩
 have n2_ : Aside0 (((((((((w27.setCell ⟨gb130, 0, none⟩ (.int .i64 8)).setCell ⟨gb130, 1, none⟩ (.int .i64 8)).setCell ⟨gb130, 2, none⟩ (.slice Ao29 y126.length co29)).setCell ⟨gb130, 3, none⟩ (.slice none 0 0)).setCell ⟨gb130, 4, none⟩ (.slice none 0 0)).setCell ⟨gb130, 5, none⟩ (.slice none 0 0)).setCell ⟨gb130, 6, none⟩ (.slice none 0 0)).setCell ⟨gb130, 7, none⟩ (.bool false)).heap[gb129]? = some (.cells #[.int .i64 1, .int .i64 1, .slice Ao28 y123.length co28, .slice none 0 0, .slice none 0 0, .slice none 0 0, .slice none 0 0, .bool false] 31 (0, 0))) := ⟨by (with_reducible repeat (first | refine blk_drewN ?_ _ | refine blk_drew ?_ | refine blk_alloc ?_ _)); refine blk_far ?_ NB129_130.out _; (with_reducible repeat (first | refine blk_drewN ?_ _ | refine blk_drew ?_ | refine blk_alloc ?_ _)); refine blk_far ?_ NB129_130.out _; (with_reducible repeat (first | refine blk_drewN ?_ _ | refine blk_drew ?_ | refine blk_alloc ?_ _)); refine blk_far ?_ NB129_130.out _; (with_reducible repeat (first | refine blk_drewN ?_ _ | refine blk_drew ?_ | refine blk_alloc ?_ _)); refine blk_far ?_ NB129_130.out _; (with_reducible repeat (first | refine blk_drewN ?_ _ | refine blk_drew ?_ | refine blk_alloc ?_ _)); refine blk_far ?_ NB129_130.out _; (with_reducible repeat (first | refine blk_drewN ?_ _ | refine blk_drew ?_ | refine blk_alloc ?_ _)); refine blk_far ?_ NB129_130.out _; (with_reducible repeat (first | refine blk_drewN ?_ _ | refine blk_drew ?_ | refine blk_alloc ?_ _)); refine blk_far ?_ NB129_130.out _; (with_reducible repeat (first | refine blk_drewN ?_ _ | refine blk_drew ?_ | refine blk_alloc ?_ _)); refine blk_far ?_ NB129_130.out _; (with_reducible repeat (first | refine blk_drewN ?_ _ | refine blk_drew ?_ | refine blk_alloc ?_ _)); exact BK129.out⟩
 have n3_ : Aside0 (((((((((w27.setCell ⟨gb130, 0, none⟩ (.int .i64 8)).setCell ⟨gb130, 1, none⟩ (.int .i64 8)).setCell ⟨gb130, 2, none⟩ (.slice Ao29 y126.length co29)).setCell ⟨gb130, 3, none⟩ (.slice none 0 0)).setCell ⟨gb130, 4, none⟩ (.slice none 0 0)).setCell ⟨gb130, 5, none⟩ (.slice none 0 0)).setCell ⟨gb130, 6, none⟩ (.slice none 0 0)).setCell ⟨gb130, 7, none⟩ (.bool false)).heap[gb130]? = some (.cells #[.int .i64 8, .int .i64 8, .slice Ao29 y126.length co29, .slice none 0 0, .slice none 0 0, .slice none 0 0, .slice none 0 0, .bool false] 31 (0, 0))) := ⟨by (with_reducible repeat (first | refine blk_drewN ?_ _ | refine blk_drew ?_ | refine blk_alloc ?_ _)); refine blk_put (cs := #[.int .i64 8, .int .i64 8, .slice Ao29 y126.length co29, .slice none 0 0, .slice none 0 0, .slice none 0 0, .slice none 0 0, .bool false]) ?_ 7 _ rfl; (with_reducible repeat (first | refine blk_drewN ?_ _ | refine blk_drew ?_ | refine blk_alloc ?_ _)); refine blk_put (cs := #[.int .i64 8, .int .i64 8, .slice Ao29 y126.length co29, .slice none 0 0, .slice none 0 0, .slice none 0 0, .slice none 0 0, .bool false]) ?_ 6 _ rfl; (with_reducible repeat (first | refine blk_drewN ?_ _ | refine blk_drew ?_ | refine blk_alloc ?_ _)); refine blk_put (cs := #[.int .i64 8, .int .i64 8, .slice Ao29 y126.length co29, .slice none 0 0, .slice none 0 0, .slice none 0 0, .slice none 0 0, .bool false]) ?_ 5 _ rfl; (with_reducible repeat (first | refine blk_drewN ?_ _ | refine blk_drew ?_ | refine blk_alloc ?_ _)); refine blk_put (cs := #[.int .i64 8, .int .i64 8, .slice Ao29 y126.length co29, .slice none 0 0, .slice none 0 0, .slice none 0 0, .slice none 0 0, .bool false]) ?_ 4 _ rfl; (with_reducible repeat (first | refine blk_drewN ?_ _ | refine blk_drew ?_ | refine blk_alloc ?_ _)); refine blk_put (cs := #[.int .i64 8, .int .i64 8, .slice Ao29 y126.length co29, .slice none 0 0, .slice none 0 0, .slice none 0 0, .slice none 0 0, .bool false]) ?_ 3 _ rfl; (with_reducible repeat (first | refine blk_drewN ?_ _ | refine blk_drew ?_ | refine blk_alloc ?_ _)); refine blk_put (cs := #[.int .i64 8, .int .i64 8, .slice none 0 0, .slice none 0 0, .slice none 0 0, .slice none 0 0, .slice none 0 0, .bool false]) ?_ 2 _ rfl; (with_reducible repeat (first | refine blk_drewN ?_ _ | refine blk_drew ?_ | refine blk_alloc ?_ _)); refine blk_put (cs := #[.int .i64 8, .int .i64 0, .slice none 0 0, .slice none 0 0, .slice none 0 0, .slice none 0 0, .slice none 0 0, .bool false]) ?_ 1 _ rfl; (with_reducible repeat (first | refine blk_drewN ?_ _ | refine blk_drew ?_ | refine blk_alloc ?_ _)); refine blk_put (cs := #[.int .i64 0, .int .i64 0, .slice none 0 0, .slice none 0 0, .slice none 0 0, .slice none 0 0, .slice none 0 0, .bool false]) ?_ 0 _ rfl; (with_reducible repeat (first | refine blk_drewN ?_ _ | refine blk_drew ?_ | refine blk_alloc ?_ _)); exact BK130.out⟩
 have n4_ : Aside0 (Below w.heap.size w ((((((((w27.setCell ⟨gb130, 0, none⟩ (.int .i64 8)).setCell ⟨gb130, 1, none⟩ (.int .i64 8)).setCell ⟨gb130, 2, none⟩ (.slice Ao29 y126.length co29)).setCell ⟨gb130, 3, none⟩ (.slice none 0 0)).setCell ⟨gb130, 4, none⟩ (.slice none 0 0)).setCell ⟨gb130, 5, none⟩ (.slice none 0 0)).setCell ⟨gb130, 6, none⟩ (.slice none 0 0)).setCell ⟨gb130, 7, none⟩ (.bool false))) := ⟨by repeat (first | (with_reducible first | exact HB.out | apply below_alloc | apply pw_below_drewN | apply below_drew1 | refine below_set ?_ GE129.out | refine below_set ?_ GE130.out) | exact HB.out)⟩
 (try clear HO125)
 (try clear HO128)
 (try clear BK129)
 (try clear BK130)
 (try clear HB)
 generalize ((((((((w27.setCell ⟨gb130, 0, none⟩ (.int .i64 8)).setCell ⟨gb130, 1, none⟩ (.int .i64 8)).setCell ⟨gb130, 2, none⟩ (.slice Ao29 y126.length co29)).setCell ⟨gb130, 3, none⟩ (.slice none 0 0)).setCell ⟨gb130, 4, none⟩ (.slice none 0 0)).setCell ⟨gb130, 5, none⟩ (.slice none 0 0)).setCell ⟨gb130, 6, none⟩ (.slice none 0 0)).setCell ⟨gb130, 7, none⟩ (.bool false)) = w38 at n0_ n1_ n2_ n3_ n4_ ⊢
 have HO125 := n0_
 have HO128 := n1_
 have BK129 := n2_
 have BK130 := n3_
 have HB := n4_
 clear n0_ n1_ n2_ n3_ n4_
 have hnb39 := NB129_130.out
 have hnc39 := NB130_129.out
 have hcz40_0 : w38.cell? ⟨gb129, 0, none⟩ = some (.int .i64 1) := (blk_cell BK129.out 0).trans rfl
 have hcz40_1 : w38.cell? ⟨gb129, 1, none⟩ = some (.int .i64 1) := (blk_cell BK129.out 1).trans rfl
 have hcz40_2 : w38.cell? ⟨gb129, 2, none⟩ = some (.slice Ao28 y123.length co28) := (blk_cell BK129.out 2).trans rfl
 have hcz40_3 : w38.cell? ⟨gb129, 3, none⟩ = some (.slice none 0 0) := (blk_cell BK129.out 3).trans rfl
 have hcz40_4 : w38.cell? ⟨gb129, 4, none⟩ = some (.slice none 0 0) := (blk_cell BK129.out 4).trans rfl
 have hcz40_5 : w38.cell? ⟨gb129, 5, none⟩ = some (.slice none 0 0) := (blk_cell BK129.out 5).trans rfl
 have hcz40_6 : w38.cell? ⟨gb129, 6, none⟩ = some (.slice none 0 0) := (blk_cell BK129.out 6).trans rfl
 have hcz40_7 : w38.cell? ⟨gb129, 7, none⟩ = some (.bool false) := (blk_cell BK129.out 7).trans rfl
 have hfz40_0 := blk_frozen BK129.out 0
 have hfz40_1 := blk_frozen BK129.out 1
 have hfz40_2 := blk_frozen BK129.out 2
 have hfz40_3 := blk_frozen BK129.out 3
 have hfz40_4 := blk_frozen BK129.out 4
 have hfz40_5 := blk_frozen BK129.out 5
 have hfz40_6 := blk_frozen BK129.out 6
 have hfz40_7 := blk_frozen BK129.out 7
 have hcz41_0 : w38.cell? ⟨gb130, 0, none⟩ = some (.int .i64 8) := (blk_cell BK130.out 0).trans rfl
 have hcz41_1 : w38.cell? ⟨gb130, 1, none⟩ = some (.int .i64 8) := (blk_cell BK130.out 1).trans rfl
 have hcz41_2 : w38.cell? ⟨gb130, 2, none⟩ = some (.slice Ao29 y126.length co29) := (blk_cell BK130.out 2).trans rfl
 have hcz41_3 : w38.cell? ⟨gb130, 3, none⟩ = some (.slice none 0 0) := (blk_cell BK130.out 3).trans rfl
 have hcz41_4 : w38.cell? ⟨gb130, 4, none⟩ = some (.slice none 0 0) := (blk_cell BK130.out 4).trans rfl
 have hcz41_5 : w38.cell? ⟨gb130, 5, none⟩ = some (.slice none 0 0) := (blk_cell BK130.out 5).trans rfl
 have hcz41_6 : w38.cell? ⟨gb130, 6, none⟩ = some (.slice none 0 0) := (blk_cell BK130.out 6).trans rfl
 have hcz41_7 : w38.cell? ⟨gb130, 7, none⟩ = some (.bool false) := (blk_cell BK130.out 7).trans rfl
 have hfz41_0 := blk_frozen BK130.out 0
 have hfz41_1 := blk_frozen BK130.out 1
 have hfz41_2 := blk_frozen BK130.out 2
 have hfz41_3 := blk_frozen BK130.out 3
 have hfz41_4 := blk_frozen BK130.out 4
 have hfz41_5 := blk_frozen BK130.out 5
 have hfz41_6 := blk_frozen BK130.out 6
 have hfz41_7 := blk_frozen BK130.out 7
 try go_wp2_with (first | ((with_reducible refine gate_dst (N := 13) rfl ?_); (try (refine gate_guard (by rfl) ?_; dsimp only)); refine Kd.N_lit k31 _ 31 ?hg (N' := 13) ?hd (xs := ([(⟨1, 1, y123, ([] : List Int), ([] : List (S101)), ([] : List (S79)), ([] : List Int), false⟩ : S31), (⟨8, 8, y126, ([] : List Int), ([] : List (S101)), ([] : List (S79)), ([] : List Int), false⟩ : S31), (⟨1, 1, y123, ([] : List Int), ([] : List (S101)), ([] : List (S79)), ([] : List Int), false⟩ : S31)] : List (S31))) (inner := [.int .i64 1, .int .i64 1, .slice Ao28 y123.length co28, .slice none 0 0, .slice none 0 0, .slice none 0 0, .slice none 0 0, .bool false, .int .i64 8, .int .i64 8, .slice Ao29 y126.length co29, .slice none 0 0, .slice none 0 0, .slice none 0 0, .slice none 0 0, .bool false, .int .i64 1, .int .i64 1, .slice Ao28 y123.length co28, .slice none 0 0, .slice none 0 0, .slice none 0 0, .slice none 0 0, .bool false]) (ok := (fun k_ => k_ ≠ gb129 ∧ k_ ≠ gb130)) (okp := (fun k_ => k_ ≠ gb129 ∧ k_ ≠ gb130)) ?hr ?hp (fun _ hk => hk) ((show ∀ k_, w38.heap.size ≤ k_ → (fun k_ => k_ ≠ gb129 ∧ k_ ≠ gb130) k_ from fun k_ hk => ⟨Kd.freshB (g := gb129) (o := .cells #[.int .i64 1, .int .i64 1, .slice Ao28 y123.length co28, .slice none 0 0, .slice none 0 0, .slice none 0 0, .slice none 0 0, .bool false] 31 (0, 0)) (bk_ BK129.out) k_ hk, Kd.freshB (g := gb130) (o := .cells #[.int .i64 8, .int .i64 8, .slice Ao29 y126.length co29, .slice none 0 0, .slice none 0 0, .slice none 0 0, .slice none 0 0, .bool false] 31 (0, 0)) (bk_ BK130.out) k_ hk⟩) _ (Nat.le_refl _)) (Below.refl _ _) (Nat.le_refl _) (by simp) ?_; (case hd => rfl); (case hg => rfl); (case hr => first | (go_simp; done) | (go_simp; rfl)); (case hp => exact (Reps.c8 (show Kd.FK k31 _ _ (⟨1, 1, y123, ([] : List Int), ([] : List (S101)), ([] : List (S79)), ([] : List Int), false⟩ : S31) [.int .i64 1, .int .i64 1, .slice Ao28 y123.length co28, .slice none 0 0, .slice none 0 0, .slice none 0 0, .slice none 0 0, .bool false] from (k31_mkF _ _ (⟨1, 1, y123, ([] : List Int), ([] : List (S101)), ([] : List (S79)), ([] : List Int), false⟩ : S31) (Kd.R_reads' (Kd.R_mono (ok' := (fun k_ => k_ ≠ gb129 ∧ k_ ≠ gb130)) (Kd.R_types (Kd.R_types (HO125.out) BK129.out (by decide)) BK130.out (by decide)) (fun k_ hk => ⟨hk.1.2, hk.2⟩))).2.1 (Kd.R_F (Kd.R_mono (ok' := (fun k_ => k_ ≠ gb129 ∧ k_ ≠ gb130)) (Kd.R_types (Kd.R_types (HO125.out) BK129.out (by decide)) BK130.out (by decide)) (fun k_ hk => ⟨hk.1.2, hk.2⟩))) (Nat.le_refl _) (Kd.F_nil _ _ _) (Nat.le_refl _) (Kd.F_nil _ _ _) (Nat.le_refl _) (Kd.F_nil _ _ _) (Nat.le_refl _) (Kd.F_nil _ _ _))) (Reps.c8 (show Kd.FK k31 _ _ (⟨8, 8, y126, ([] : List Int), ([] : List (S101)), ([] : List (S79)), ([] : List Int), false⟩ : S31) [.int .i64 8, .int .i64 8, .slice Ao29 y126.length co29, .slice none 0 0, .slice none 0 0, .slice none 0 0, .slice none 0 0, .bool false] from (k31_mkF _ _ (⟨8, 8, y126, ([] : List Int), ([] : List (S101)), ([] : List (S79)), ([] : List Int), false⟩ : S31) (Kd.R_reads' (Kd.R_mono (ok' := (fun k_ => k_ ≠ gb129 ∧ k_ ≠ gb130)) (Kd.R_types (Kd.R_types (HO128.out) BK129.out (by decide)) BK130.out (by decide)) (fun k_ hk => ⟨hk.1.2, hk.2⟩))).2.1 (Kd.R_F (Kd.R_mono (ok' := (fun k_ => k_ ≠ gb129 ∧ k_ ≠ gb130)) (Kd.R_types (Kd.R_types (HO128.out) BK129.out (by decide)) BK130.out (by decide)) (fun k_ hk => ⟨hk.1.2, hk.2⟩))) (Nat.le_refl _) (Kd.F_nil _ _ _) (Nat.le_refl _) (Kd.F_nil _ _ _) (Nat.le_refl _) (Kd.F_nil _ _ _) (Nat.le_refl _) (Kd.F_nil _ _ _))) (Reps.c8 (show Kd.FK k31 _ _ (⟨1, 1, y123, ([] : List Int), ([] : List (S101)), ([] : List (S79)), ([] : List Int), false⟩ : S31) [.int .i64 1, .int .i64 1, .slice Ao28 y123.length co28, .slice none 0 0, .slice none 0 0, .slice none 0 0, .slice none 0 0, .bool false] from (k31_mkF _ _ (⟨1, 1, y123, ([] : List Int), ([] : List (S101)), ([] : List (S79)), ([] : List Int), false⟩ : S31) (Kd.R_reads' (Kd.R_mono (ok' := (fun k_ => k_ ≠ gb129 ∧ k_ ≠ gb130)) (Kd.R_types (Kd.R_types (HO125.out) BK129.out (by decide)) BK130.out (by decide)) (fun k_ hk => ⟨hk.1.2, hk.2⟩))).2.1 (Kd.R_F (Kd.R_mono (ok' := (fun k_ => k_ ≠ gb129 ∧ k_ ≠ gb130)) (Kd.R_types (Kd.R_types (HO125.out) BK129.out (by decide)) BK130.out (by decide)) (fun k_ hk => ⟨hk.1.2, hk.2⟩))) (Nat.le_refl _) (Kd.F_nil _ _ _) (Nat.le_refl _) (Kd.F_nil _ _ _) (Nat.le_refl _) (Kd.F_nil _ _ _) (Nat.le_refl _) (Kd.F_nil _ _ _))) (Reps.none _ _))))); intro v132 w42 ho43 hb hg_ hnew_; clear hg_ hnew_; (first | rw [← Ny131.out] at ho43 | (simp only [Int.reduceToNat] at ho43; rw [← Ny131.out] at ho43)); have n0_ := Aside0.mk (Kd.N_lower ho43 (below_size (hb2_ HB.out GE129.out GE130.out))); have n1_ := Aside0.mk (blk_below (g := gb129) (o := .cells #[.int .i64 1, .int .i64 1, .slice Ao28 y123.length co28, .slice none 0 0, .slice none 0 0, .slice none 0 0, .slice none 0 0, .bool false] 31 (0, 0)) (bk_ BK129.out) hb); have n2_ := Aside0.mk (blk_below (g := gb130) (o := .cells #[.int .i64 8, .int .i64 8, .slice Ao29 y126.length co29, .slice none 0 0, .slice none 0 0, .slice none 0 0, .slice none 0 0, .bool false] 31 (0, 0)) (bk_ BK130.out) hb); have n3_ := Aside0.mk (below_step (hb2_ HB.out GE129.out GE130.out) hb); clear BK129 BK130 HB HO125 HO128; have HO133 := n0_; have BK129 := n1_; have BK130 := n2_; have HB := n3_; clear n0_ n1_ n2_ n3_ hb ho43; obtain ⟨Ao44, co44, eo44⟩ := Kd.N_slice HO133.out; subst eo44) | ((with_reducible refine gate_callee (f := 24) rfl ?_); refine goesL_ (some 14) rfl rfl Try.func24 (by kernel_rfl) rfl #[.slice Ao44 y131.length co44] rfl (by (try simp only [List.map_toArray, List.map_cons, List.map_nil]); first | done | rfl | (simp only [List.length_drop, List.length_take]; rfl)) ?_; (with_reducible refine (product_Lay.calls 60 _ _ y131 t134 t135 t136 t139 t142 t145 t148 t151 t152 _ ?side1 ?side2 A1.out).mono ?_); (case side1 => repeat (first | exact (Kd.N_reads' HO133.out).2.2 | (with_reducible refine Kd.C_alloc ?_ _) | (with_reducible refine Kd.C_drewN ?_ _) | (with_reducible refine Kd.C_drew ?_))); (case side2 => exact (Kd.N_reads' HO133.out).2.1); rintro e w45 ⟨v137, v140, v143, v146, v149, rfl, ho0, ho1, ho2, ho3, ho4, hb⟩; refine ⟨_, rfl, ?_⟩; have n0_ := Aside0.mk (Kd.N_mono (Kd.N_told (Kd.N_told (Kd.N_told (Kd.N_told (Kd.N_told (Kd.N_old (kN_ HO133.out) hb) (Kd.R_base ho0)) (Kd.R_base ho1)) (by first | exact Kd.N_base ho2 | exact Kd.R_base ho2)) (by first | exact Kd.N_base ho3 | exact Kd.R_base ho3)) (Kd.R_base ho4)) (fun _ h_ => h_.1)); have n1_ := Aside0.mk (Kd.R_lower ho0 (below_size (hb2_ HB.out GE129.out GE130.out))); have n2_ := Aside0.mk (Kd.R_lower ho1 (below_size (hb2_ HB.out GE129.out GE130.out))); have n3_ := Aside0.mk (Kd.N_lower (Kd.N_mono (ok' := fun k_ => some k_ ≠ (v137 : Value).ownBlock ∧ some k_ ≠ (v140 : Value).ownBlock ∧ some k_ ≠ (v146 : Value).ownBlock ∧ some k_ ≠ (v149 : Value).ownBlock ∧ some k_ ≠ (.slice Ao44 y131.length co44 : Value).ownBlock ∧ k_ ≠ gb129 ∧ k_ ≠ gb130) (Kd.R_N (Kd.R_bound (Kd.R_apart' (Kd.R_apart' (Kd.R_apart' (Kd.R_apart' ho2 (Kd.R_typed ho0) (by decide)) (Kd.R_typed ho1) (by decide)) (Kd.R_typed ho3) (by decide)) (Kd.R_typed ho4) (by decide)))) (fun k_ hk_ => ⟨hk_.1.1.1.1.2, hk_.1.1.1.2, hk_.1.1.2, hk_.1.2, (Kd.fresh' (Kd.N_lt (kN_ HO133.out)) k_ hk_.2.1), (Kd.freshB (g := gb129) (o := .cells #[.int .i64 1, .int .i64 1, .slice Ao28 y123.length co28, .slice none 0 0, .slice none 0 0, .slice none 0 0, .slice none 0 0, .bool false] 31 (0, 0)) (bk_ BK129.out) k_ hk_.2.1), (Kd.freshB (g := gb130) (o := .cells #[.int .i64 8, .int .i64 8, .slice Ao29 y126.length co29, .slice none 0 0, .slice none 0 0, .slice none 0 0, .slice none 0 0, .bool false] 31 (0, 0)) (bk_ BK130.out) k_ hk_.2.1)⟩)) (below_size (hb2_ HB.out GE129.out GE130.out))); have n4_ := Aside0.mk (Kd.N_lower (Kd.N_mono (ok' := fun k_ => some k_ ≠ (v137 : Value).ownBlock ∧ some k_ ≠ (v140 : Value).ownBlock ∧ some k_ ≠ (v143 : Value).ownBlock ∧ some k_ ≠ (v149 : Value).ownBlock ∧ some k_ ≠ (.slice Ao44 y131.length co44 : Value).ownBlock ∧ k_ ≠ gb129 ∧ k_ ≠ gb130) (Kd.R_N (Kd.R_bound (Kd.R_apart' ho3 (Kd.R_typed ho0) (by decide)))) (fun k_ hk_ => ⟨hk_.1.2, hk_.1.1.1, hk_.1.1.2.1, hk_.1.1.2.2, (Kd.fresh' (Kd.N_lt (kN_ HO133.out)) k_ hk_.2.1), (Kd.freshB (g := gb129) (o := .cells #[.int .i64 1, .int .i64 1, .slice Ao28 y123.length co28, .slice none 0 0, .slice none 0 0, .slice none 0 0, .slice none 0 0, .bool false] 31 (0, 0)) (bk_ BK129.out) k_ hk_.2.1), (Kd.freshB (g := gb130) (o := .cells #[.int .i64 8, .int .i64 8, .slice Ao29 y126.length co29, .slice none 0 0, .slice none 0 0, .slice none 0 0, .slice none 0 0, .bool false] 31 (0, 0)) (bk_ BK130.out) k_ hk_.2.1)⟩)) (below_size (hb2_ HB.out GE129.out GE130.out))); have n5_ := Aside0.mk (Kd.R_lower ho4 (below_size (hb2_ HB.out GE129.out GE130.out))); have n6_ := Aside0.mk (blk_below (g := gb129) (o := .cells #[.int .i64 1, .int .i64 1, .slice Ao28 y123.length co28, .slice none 0 0, .slice none 0 0, .slice none 0 0, .slice none 0 0, .bool false] 31 (0, 0)) (bk_ BK129.out) hb); have n7_ := Aside0.mk (blk_below (g := gb130) (o := .cells #[.int .i64 8, .int .i64 8, .slice Ao29 y126.length co29, .slice none 0 0, .slice none 0 0, .slice none 0 0, .slice none 0 0, .bool false] 31 (0, 0)) (bk_ BK130.out) hb); have n8_ := Aside0.mk (below_step (hb2_ HB.out GE129.out GE130.out) hb); clear HO133 BK129 BK130 HB; have HO133 := n0_; have HO138 := n1_; have HO141 := n2_; have HO144 := n3_; have HO147 := n4_; have HO150 := n5_; have BK129 := n6_; have BK130 := n7_; have HB := n8_; clear n0_ n1_ n2_ n3_ n4_ n5_ n6_ n7_ n8_; (try clear hb); (try clear hb2); (try clear hk); (try clear hi); (try clear ho0); (try clear ho1); (try clear ho2); (try clear ho3); (try clear ho4)) | ((with_reducible refine gate_dst (N := 3) rfl ?_); (try (refine gate_guard (by rfl) ?_; dsimp only)); refine box_event ?hg (N := 3) ?hd (cs := #[.int .i64 0, .int .i64 0, .slice none 0 0, .slice none 0 0, .slice none 0 0, .slice none 0 0, .slice none 0 0, .bool false]) (t := 31) ?hr ?_; (case hd => rfl); (case hg => rfl); (case hr => first | (go_simp; done) | (go_simp; rfl)); intro gb153 hg w46 hbox hb; have n0_ := Aside0.mk (Kd.N_below (Kd.N_elderB (kN_ HO133.out) gb153 (Nat.le_of_eq hg.symm)) hb); have n1_ := Aside0.mk (Kd.R_below (kR_ HO138.out) hb); have n2_ := Aside0.mk (Kd.R_below (kR_ HO141.out) hb); have n3_ := Aside0.mk (Kd.N_below (Kd.N_elderB (kN_ HO144.out) gb153 (Nat.le_of_eq hg.symm)) hb); have n4_ := Aside0.mk (Kd.N_below (Kd.N_elderB (kN_ HO147.out) gb153 (Nat.le_of_eq hg.symm)) hb); have n5_ := Aside0.mk (Kd.R_below (kR_ HO150.out) hb); have n6_ := Aside0.mk (blk_below (g := gb129) (o := .cells #[.int .i64 1, .int .i64 1, .slice Ao28 y123.length co28, .slice none 0 0, .slice none 0 0, .slice none 0 0, .slice none 0 0, .bool false] 31 (0, 0)) (bk_ BK129.out) hb); have n7_ := Aside0.mk (blk_below (g := gb130) (o := .cells #[.int .i64 8, .int .i64 8, .slice Ao29 y126.length co29, .slice none 0 0, .slice none 0 0, .slice none 0 0, .slice none 0 0, .bool false] 31 (0, 0)) (bk_ BK130.out) hb); have n8_ := Aside0.mk (below_step (hb2_ HB.out GE129.out GE130.out) hb); have n9_ := Aside0.mk (hbox); have n10_ := Aside0.mk ((by rw [hg]; exact (below_size (hb2_ HB.out GE129.out GE130.out)) : w.heap.size ≤ gb153)); have n11_ := Aside0.mk ((by rw [hg]; exact (below_size (hb2_ HB.out GE129.out GE130.out)) : w.heap.size ≤ gb153)); have n12_ := Aside0.mk ((by rw [hg]; exact Nat.ne_of_lt (blk_lt (g := gb129) (o := .cells #[.int .i64 1, .int .i64 1, .slice Ao28 y123.length co28, .slice none 0 0, .slice none 0 0, .slice none 0 0, .slice none 0 0, .bool false] 31 (0, 0)) (bk_ BK129.out)) : gb129 ≠ gb153)); have n13_ := Aside0.mk ((by rw [hg]; exact Nat.ne_of_gt (blk_lt (g := gb129) (o := .cells #[.int .i64 1, .int .i64 1, .slice Ao28 y123.length co28, .slice none 0 0, .slice none 0 0, .slice none 0 0, .slice none 0 0, .bool false] 31 (0, 0)) (bk_ BK129.out)) : gb153 ≠ gb129)); have n14_ := Aside0.mk ((by rw [hg]; exact Nat.ne_of_lt (blk_lt (g := gb130) (o := .cells #[.int .i64 8, .int .i64 8, .slice Ao29 y126.length co29, .slice none 0 0, .slice none 0 0, .slice none 0 0, .slice none 0 0, .bool false] 31 (0, 0)) (bk_ BK130.out)) : gb130 ≠ gb153)); have n15_ := Aside0.mk ((by rw [hg]; exact Nat.ne_of_gt (blk_lt (g := gb130) (o := .cells #[.int .i64 8, .int .i64 8, .slice Ao29 y126.length co29, .slice none 0 0, .slice none 0 0, .slice none 0 0, .slice none 0 0, .bool false] 31 (0, 0)) (bk_ BK130.out)) : gb153 ≠ gb130)); clear HO133 HO138 HO141 HO144 HO147 HO150 BK129 BK130 HB; have HO133 := n0_; have HO138 := n1_; have HO141 := n2_; have HO144 := n3_; have HO147 := n4_; have HO150 := n5_; have BK129 := n6_; have BK130 := n7_; have HB := n8_; have BK153 := n9_; have GW153 := n10_; have GE153 := n11_; have NB129_153 := n12_; have NB153_129 := n13_; have NB130_153 := n14_; have NB153_130 := n15_; clear n0_ n1_ n2_ n3_ n4_ n5_ n6_ n7_ n8_ n9_ n10_ n11_ n12_ n13_ n14_ n15_ hb hbox hg; have hnb47 := NB153_129.out; have hnc47 := NB129_153.out; have hnb48 := NB153_130.out; have hnc48 := NB130_153.out; have hcz49_0 : w46.cell? ⟨gb153, 0, none⟩ = some (.int .i64 0) := (blk_cell BK153.out 0).trans rfl; have hcz49_1 : w46.cell? ⟨gb153, 1, none⟩ = some (.int .i64 0) := (blk_cell BK153.out 1).trans rfl; have hcz49_2 : w46.cell? ⟨gb153, 2, none⟩ = some (.slice none 0 0) := (blk_cell BK153.out 2).trans rfl; have hcz49_3 : w46.cell? ⟨gb153, 3, none⟩ = some (.slice none 0 0) := (blk_cell BK153.out 3).trans rfl; have hcz49_4 : w46.cell? ⟨gb153, 4, none⟩ = some (.slice none 0 0) := (blk_cell BK153.out 4).trans rfl; have hcz49_5 : w46.cell? ⟨gb153, 5, none⟩ = some (.slice none 0 0) := (blk_cell BK153.out 5).trans rfl; have hcz49_6 : w46.cell? ⟨gb153, 6, none⟩ = some (.slice none 0 0) := (blk_cell BK153.out 6).trans rfl; have hcz49_7 : w46.cell? ⟨gb153, 7, none⟩ = some (.bool false) := (blk_cell BK153.out 7).trans rfl; have hfz49_0 := blk_frozen BK153.out 0; have hfz49_1 := blk_frozen BK153.out 1; have hfz49_2 := blk_frozen BK153.out 2; have hfz49_3 := blk_frozen BK153.out 3; have hfz49_4 := blk_frozen BK153.out 4; have hfz49_5 := blk_frozen BK153.out 5; have hfz49_6 := blk_frozen BK153.out 6; have hfz49_7 := blk_frozen BK153.out 7; obtain ⟨Ao50, co50, eo50⟩ := Kd.R_slice HO138.out; subst eo50; obtain ⟨Ao51, co51, eo51⟩ := Kd.R_slice HO141.out; subst eo51; obtain ⟨Ao52, co52, eo52⟩ := Kd.N_slice HO144.out; subst eo52; obtain ⟨Ao53, co53, eo53⟩ := Kd.N_slice HO147.out; subst eo53; obtain ⟨Ao54, co54, eo54⟩ := Kd.R_slice HO150.out; subst eo54; have p154 : 0 ≤ (1 : Int) := (by omega); have q154 : 1 < (t139.length : Int) := od_; obtain ⟨ad154, e154, hx154_0⟩ := Kd.at_int (Kd.R_reads' HO141.out).2.2 1 p154 q154; cases e154; (try simp only [show (1 : Int).toNat = 1 from rfl, Nat.reduceMul, Nat.reduceEqDiff, Go.Addr.add, ↓reduceIte] at hx154_0); have qi154 : (1 < t139.length) = True := eq_true (by omega); (try rw [show ((1 : Int)).toNat = 1 from rfl] at hx154_0); have hn154_0 : ad154.block ≠ gb153 := Kd.own_blk (Kd.R_ne HO141.out BK153.out (by decide)); have hn154_1 : ad154.block ≠ gb153 := Kd.own_blk (Kd.R_ne HO141.out BK153.out (by decide)); have hn154_2 : ad154.block ≠ gb153 := Kd.own_blk (Kd.R_ne HO141.out BK153.out (by decide)); have hn154_3 : ad154.block ≠ gb153 := Kd.own_blk (Kd.R_ne HO141.out BK153.out (by decide)); have hn154_4 : ad154.block ≠ gb153 := Kd.own_blk (Kd.R_ne HO141.out BK153.out (by decide)); have hn154_5 : ad154.block ≠ gb153 := Kd.own_blk (Kd.R_ne HO141.out BK153.out (by decide)); have hn154_6 : ad154.block ≠ gb153 := Kd.own_blk (Kd.R_ne HO141.out BK153.out (by decide)); have hn154_7 : ad154.block ≠ gb153 := Kd.own_blk (Kd.R_ne HO141.out BK153.out (by decide)); replace hx154_0 := (cell_far (p := ⟨gb153, 0, none⟩) (by first | (rw [add_block]; exact hn154_0) | (show (Addr.add _ _).block ≠ _; rw [add_block]; exact hn154_0) | exact hn154_0) (.int .i64 t134)).trans hx154_0; replace hx154_0 := (cell_far (p := ⟨gb153, 1, none⟩) (by first | (rw [add_block]; exact hn154_1) | (show (Addr.add _ _).block ≠ _; rw [add_block]; exact hn154_1) | exact hn154_1) (.int .i64 t135)).trans hx154_0; replace hx154_0 := (cell_far (p := ⟨gb153, 2, none⟩) (by first | (rw [add_block]; exact hn154_2) | (show (Addr.add _ _).block ≠ _; rw [add_block]; exact hn154_2) | exact hn154_2) (.slice Ao50 t136.length co50)).trans hx154_0; replace hx154_0 := (cell_far (p := ⟨gb153, 3, none⟩) (by first | (rw [add_block]; exact hn154_3) | (show (Addr.add _ _).block ≠ _; rw [add_block]; exact hn154_3) | exact hn154_3) (.slice (some ad154) t139.length co51)).trans hx154_0; replace hx154_0 := (cell_far (p := ⟨gb153, 4, none⟩) (by first | (rw [add_block]; exact hn154_4) | (show (Addr.add _ _).block ≠ _; rw [add_block]; exact hn154_4) | exact hn154_4) (.slice Ao52 t142.length co52)).trans hx154_0; replace hx154_0 := (cell_far (p := ⟨gb153, 5, none⟩) (by first | (rw [add_block]; exact hn154_5) | (show (Addr.add _ _).block ≠ _; rw [add_block]; exact hn154_5) | exact hn154_5) (.slice Ao53 t145.length co53)).trans hx154_0; replace hx154_0 := (cell_far (p := ⟨gb153, 6, none⟩) (by first | (rw [add_block]; exact hn154_6) | (show (Addr.add _ _).block ≠ _; rw [add_block]; exact hn154_6) | exact hn154_6) (.slice Ao54 t148.length co54)).trans hx154_0; replace hx154_0 := (cell_far (p := ⟨gb153, 7, none⟩) (by first | (rw [add_block]; exact hn154_7) | (show (Addr.add _ _).block ≠ _; rw [add_block]; exact hn154_7) | exact hn154_7) (.bool t151)).trans hx154_0; clear hn154_0 hn154_1 hn154_2 hn154_3 hn154_4 hn154_5 hn154_6 hn154_7; replace p154 := eq_true p154; replace q154 := eq_true q154; have p155 : 0 ≤ (2 : Int) := (by omega); have q155 : 2 < (t139.length : Int) := od_; obtain ⟨ad155, e155, hx155_0⟩ := Kd.at_int (Kd.R_reads' HO141.out).2.2 2 p155 q155; obtain rfl : ad154 = ad155 := (by injection e155); (try simp only [show (2 : Int).toNat = 2 from rfl, Nat.reduceMul, Nat.reduceEqDiff, Go.Addr.add, ↓reduceIte] at hx155_0); have qi155 : (2 < t139.length) = True := eq_true (by omega); (try rw [show ((2 : Int)).toNat = 2 from rfl] at hx155_0); have hn155_0 : ad154.block ≠ gb153 := Kd.own_blk (Kd.R_ne HO141.out BK153.out (by decide)); have hn155_1 : ad154.block ≠ gb153 := Kd.own_blk (Kd.R_ne HO141.out BK153.out (by decide)); have hn155_2 : ad154.block ≠ gb153 := Kd.own_blk (Kd.R_ne HO141.out BK153.out (by decide)); have hn155_3 : ad154.block ≠ gb153 := Kd.own_blk (Kd.R_ne HO141.out BK153.out (by decide)); have hn155_4 : ad154.block ≠ gb153 := Kd.own_blk (Kd.R_ne HO141.out BK153.out (by decide)); have hn155_5 : ad154.block ≠ gb153 := Kd.own_blk (Kd.R_ne HO141.out BK153.out (by decide)); have hn155_6 : ad154.block ≠ gb153 := Kd.own_blk (Kd.R_ne HO141.out BK153.out (by decide)); have hn155_7 : ad154.block ≠ gb153 := Kd.own_blk (Kd.R_ne HO141.out BK153.out (by decide)); replace hx155_0 := (cell_far (p := ⟨gb153, 0, none⟩) (by first | (rw [add_block]; exact hn155_0) | (show (Addr.add _ _).block ≠ _; rw [add_block]; exact hn155_0) | exact hn155_0) (.int .i64 t134)).trans hx155_0; replace hx155_0 := (cell_far (p := ⟨gb153, 1, none⟩) (by first | (rw [add_block]; exact hn155_1) | (show (Addr.add _ _).block ≠ _; rw [add_block]; exact hn155_1) | exact hn155_1) (.int .i64 t135)).trans hx155_0; replace hx155_0 := (cell_far (p := ⟨gb153, 2, none⟩) (by first | (rw [add_block]; exact hn155_2) | (show (Addr.add _ _).block ≠ _; rw [add_block]; exact hn155_2) | exact hn155_2) (.slice Ao50 t136.length co50)).trans hx155_0; replace hx155_0 := (cell_far (p := ⟨gb153, 3, none⟩) (by first | (rw [add_block]; exact hn155_3) | (show (Addr.add _ _).block ≠ _; rw [add_block]; exact hn155_3) | exact hn155_3) (.slice (some ad154) t139.length co51)).trans hx155_0; replace hx155_0 := (cell_far (p := ⟨gb153, 4, none⟩) (by first | (rw [add_block]; exact hn155_4) | (show (Addr.add _ _).block ≠ _; rw [add_block]; exact hn155_4) | exact hn155_4) (.slice Ao52 t142.length co52)).trans hx155_0; replace hx155_0 := (cell_far (p := ⟨gb153, 5, none⟩) (by first | (rw [add_block]; exact hn155_5) | (show (Addr.add _ _).block ≠ _; rw [add_block]; exact hn155_5) | exact hn155_5) (.slice Ao53 t145.length co53)).trans hx155_0; replace hx155_0 := (cell_far (p := ⟨gb153, 6, none⟩) (by first | (rw [add_block]; exact hn155_6) | (show (Addr.add _ _).block ≠ _; rw [add_block]; exact hn155_6) | exact hn155_6) (.slice Ao54 t148.length co54)).trans hx155_0; replace hx155_0 := (cell_far (p := ⟨gb153, 7, none⟩) (by first | (rw [add_block]; exact hn155_7) | (show (Addr.add _ _).block ≠ _; rw [add_block]; exact hn155_7) | exact hn155_7) (.bool t151)).trans hx155_0; clear hn155_0 hn155_1 hn155_2 hn155_3 hn155_4 hn155_5 hn155_6 hn155_7; replace p155 := eq_true p155; replace q155 := eq_true q155) | (go_at_call 28; (with_reducible refine (product_Stride.calls t134 t135 _ _ t136 _ _ t139 _ _ t142 _ _ t145 _ _ t148 t151 t156 _ ?side1 ?side2 ?side3 ?side4 ?side5 ?side6 ?side7 ?side8 ?side9 ?side10 A9.out).mono ?_); (case side1 => refine (Kd.R_reads' (e := 5) (base := w.heap.size) (ok := fun k_ => True) (n := t136.length) (c := co50) ?_).2.2; exact (by (with_reducible repeat (first | apply Kd.R_alloc | apply Kd.R_drewN | apply Kd.R_drew)); exact (Kd.R_mono (Kd.R_far (p := ⟨gb153, 7, none⟩) (Kd.R_far (p := ⟨gb153, 6, none⟩) (Kd.R_far (p := ⟨gb153, 5, none⟩) (Kd.R_far (p := ⟨gb153, 4, none⟩) (Kd.R_far (p := ⟨gb153, 3, none⟩) (Kd.R_far (p := ⟨gb153, 2, none⟩) (Kd.R_far (p := ⟨gb153, 1, none⟩) (Kd.R_far (p := ⟨gb153, 0, none⟩) (Kd.R_types HO138.out BK153.out (by decide)) (fun _ hk => hk.2) (.int .i64 t134)) (fun _ hk => hk.2) (.int .i64 t135)) (fun _ hk => hk.2) (.slice Ao50 t136.length co50)) (fun _ hk => hk.2) (.slice (some ad154) t139.length co51)) (fun _ hk => hk.2) (.slice Ao52 t142.length co52)) (fun _ hk => hk.2) (.slice Ao53 t145.length co53)) (fun _ hk => hk.2) (.slice Ao54 t148.length co54)) (fun _ hk => hk.2) (.bool t151)) (fun _ h_ => h_.1)))); (case side2 => exact (Kd.R_reads' HO138.out).2.1); (case side3 => refine (Kd.R_reads' (e := 3) (base := w.heap.size) (ok := fun k_ => some k_ ≠ (.slice Ao54 t148.length co54 : Value).ownBlock) (n := t139.length) (c := co51) ?_).2.2; exact (by (with_reducible repeat (first | apply Kd.R_alloc | apply Kd.R_drewN | apply Kd.R_drew)); exact (Kd.R_mono (Kd.R_far (p := ⟨gb153, 7, none⟩) (Kd.R_far (p := ⟨gb153, 6, none⟩) (Kd.R_far (p := ⟨gb153, 5, none⟩) (Kd.R_far (p := ⟨gb153, 4, none⟩) (Kd.R_far (p := ⟨gb153, 3, none⟩) (Kd.R_far (p := ⟨gb153, 2, none⟩) (Kd.R_far (p := ⟨gb153, 1, none⟩) (Kd.R_far (p := ⟨gb153, 0, none⟩) (Kd.R_types HO141.out BK153.out (by decide)) (fun _ hk => hk.2) (.int .i64 t134)) (fun _ hk => hk.2) (.int .i64 t135)) (fun _ hk => hk.2) (.slice Ao50 t136.length co50)) (fun _ hk => hk.2) (.slice (some ad154) t139.length co51)) (fun _ hk => hk.2) (.slice Ao52 t142.length co52)) (fun _ hk => hk.2) (.slice Ao53 t145.length co53)) (fun _ hk => hk.2) (.slice Ao54 t148.length co54)) (fun _ hk => hk.2) (.bool t151)) (fun _ h_ => h_.1)))); (case side4 => exact (Kd.R_reads' HO141.out).2.1); (case side5 => refine (Kd.N_reads' (e := 101) (base := w.heap.size) (ok := fun k_ => ((some k_ ≠ (.slice Ao50 t136.length co50 : Value).ownBlock ∧ (some k_ ≠ (.slice (some ad154) t139.length co51 : Value).ownBlock ∧ (some k_ ≠ (.slice Ao53 t145.length co53 : Value).ownBlock ∧ (some k_ ≠ (.slice Ao54 t148.length co54 : Value).ownBlock ∧ (some k_ ≠ (.slice Ao44 y131.length co44 : Value).ownBlock ∧ (k_ ≠ gb129 ∧ k_ ≠ gb130)))))) ∧ k_ ≠ gb153)) (n := t142.length) (c := co52) ?_).2.2; exact (by (with_reducible repeat (first | apply Kd.N_alloc | apply Kd.N_drewN | apply Kd.N_drew)); exact (Kd.N_mono (Kd.N_far (p := ⟨gb153, 7, none⟩) (Kd.N_far (p := ⟨gb153, 6, none⟩) (Kd.N_far (p := ⟨gb153, 5, none⟩) (Kd.N_far (p := ⟨gb153, 4, none⟩) (Kd.N_far (p := ⟨gb153, 3, none⟩) (Kd.N_far (p := ⟨gb153, 2, none⟩) (Kd.N_far (p := ⟨gb153, 1, none⟩) (Kd.N_far (p := ⟨gb153, 0, none⟩) (Kd.N_mono HO144.out (fun k_ hk => (⟨hk, hk.2⟩ : _ ∧ k_ ≠ gb153))) (fun _ hk => hk.2) (.int .i64 t134)) (fun _ hk => hk.2) (.int .i64 t135)) (fun _ hk => hk.2) (.slice Ao50 t136.length co50)) (fun _ hk => hk.2) (.slice (some ad154) t139.length co51)) (fun _ hk => hk.2) (.slice Ao52 t142.length co52)) (fun _ hk => hk.2) (.slice Ao53 t145.length co53)) (fun _ hk => hk.2) (.slice Ao54 t148.length co54)) (fun _ hk => hk.2) (.bool t151)) (fun _ h_ => h_.1)))); (case side6 => exact (Kd.N_reads' HO144.out).2.1); (case side7 => refine (Kd.N_reads' (e := 79) (base := w.heap.size) (ok := fun k_ => ((some k_ ≠ (.slice Ao50 t136.length co50 : Value).ownBlock ∧ (some k_ ≠ (.slice (some ad154) t139.length co51 : Value).ownBlock ∧ (some k_ ≠ (.slice Ao52 t142.length co52 : Value).ownBlock ∧ (some k_ ≠ (.slice Ao54 t148.length co54 : Value).ownBlock ∧ (some k_ ≠ (.slice Ao44 y131.length co44 : Value).ownBlock ∧ (k_ ≠ gb129 ∧ k_ ≠ gb130)))))) ∧ k_ ≠ gb153)) (n := t145.length) (c := co53) ?_).2.2; exact (by (with_reducible repeat (first | apply Kd.N_alloc | apply Kd.N_drewN | apply Kd.N_drew)); exact (Kd.N_mono (Kd.N_far (p := ⟨gb153, 7, none⟩) (Kd.N_far (p := ⟨gb153, 6, none⟩) (Kd.N_far (p := ⟨gb153, 5, none⟩) (Kd.N_far (p := ⟨gb153, 4, none⟩) (Kd.N_far (p := ⟨gb153, 3, none⟩) (Kd.N_far (p := ⟨gb153, 2, none⟩) (Kd.N_far (p := ⟨gb153, 1, none⟩) (Kd.N_far (p := ⟨gb153, 0, none⟩) (Kd.N_mono HO147.out (fun k_ hk => (⟨hk, hk.2⟩ : _ ∧ k_ ≠ gb153))) (fun _ hk => hk.2) (.int .i64 t134)) (fun _ hk => hk.2) (.int .i64 t135)) (fun _ hk => hk.2) (.slice Ao50 t136.length co50)) (fun _ hk => hk.2) (.slice (some ad154) t139.length co51)) (fun _ hk => hk.2) (.slice Ao52 t142.length co52)) (fun _ hk => hk.2) (.slice Ao53 t145.length co53)) (fun _ hk => hk.2) (.slice Ao54 t148.length co54)) (fun _ hk => hk.2) (.bool t151)) (fun _ h_ => h_.1)))); (case side8 => exact (Kd.N_reads' HO147.out).2.1); (case side9 => refine (Kd.R_reads' (e := 3) (base := w.heap.size) (ok := fun k_ => some k_ ≠ (.slice (some ad154) t139.length co51 : Value).ownBlock) (n := t148.length) (c := co54) ?_).2.2; exact (by (with_reducible repeat (first | apply Kd.R_alloc | apply Kd.R_drewN | apply Kd.R_drew)); exact (Kd.R_mono (Kd.R_far (p := ⟨gb153, 7, none⟩) (Kd.R_far (p := ⟨gb153, 6, none⟩) (Kd.R_far (p := ⟨gb153, 5, none⟩) (Kd.R_far (p := ⟨gb153, 4, none⟩) (Kd.R_far (p := ⟨gb153, 3, none⟩) (Kd.R_far (p := ⟨gb153, 2, none⟩) (Kd.R_far (p := ⟨gb153, 1, none⟩) (Kd.R_far (p := ⟨gb153, 0, none⟩) (Kd.R_types HO150.out BK153.out (by decide)) (fun _ hk => hk.2) (.int .i64 t134)) (fun _ hk => hk.2) (.int .i64 t135)) (fun _ hk => hk.2) (.slice Ao50 t136.length co50)) (fun _ hk => hk.2) (.slice (some ad154) t139.length co51)) (fun _ hk => hk.2) (.slice Ao52 t142.length co52)) (fun _ hk => hk.2) (.slice Ao53 t145.length co53)) (fun _ hk => hk.2) (.slice Ao54 t148.length co54)) (fun _ hk => hk.2) (.bool t151)) (fun _ h_ => h_.1)))); (case side10 => exact (Kd.R_reads' HO150.out).2.1); rintro e w55 ⟨rfl, hb⟩; have n0_ := Aside0.mk (Kd.N_below (by (with_reducible repeat (first | apply Kd.N_alloc | apply Kd.N_drewN | apply Kd.N_drew)); exact (Kd.N_mono (Kd.N_far (p := ⟨gb153, 7, none⟩) (Kd.N_far (p := ⟨gb153, 6, none⟩) (Kd.N_far (p := ⟨gb153, 5, none⟩) (Kd.N_far (p := ⟨gb153, 4, none⟩) (Kd.N_far (p := ⟨gb153, 3, none⟩) (Kd.N_far (p := ⟨gb153, 2, none⟩) (Kd.N_far (p := ⟨gb153, 1, none⟩) (Kd.N_far (p := ⟨gb153, 0, none⟩) (Kd.N_mono HO133.out (fun k_ hk => (⟨hk, hk.2⟩ : _ ∧ k_ ≠ gb153))) (fun _ hk => hk.2) (.int .i64 t134)) (fun _ hk => hk.2) (.int .i64 t135)) (fun _ hk => hk.2) (.slice Ao50 t136.length co50)) (fun _ hk => hk.2) (.slice (some ad154) t139.length co51)) (fun _ hk => hk.2) (.slice Ao52 t142.length co52)) (fun _ hk => hk.2) (.slice Ao53 t145.length co53)) (fun _ hk => hk.2) (.slice Ao54 t148.length co54)) (fun _ hk => hk.2) (.bool t151)) (fun _ h_ => h_.1))) hb); have n1_ := Aside0.mk (Kd.R_below (by (with_reducible repeat (first | apply Kd.R_alloc | apply Kd.R_drewN | apply Kd.R_drew)); exact (Kd.R_mono (Kd.R_far (p := ⟨gb153, 7, none⟩) (Kd.R_far (p := ⟨gb153, 6, none⟩) (Kd.R_far (p := ⟨gb153, 5, none⟩) (Kd.R_far (p := ⟨gb153, 4, none⟩) (Kd.R_far (p := ⟨gb153, 3, none⟩) (Kd.R_far (p := ⟨gb153, 2, none⟩) (Kd.R_far (p := ⟨gb153, 1, none⟩) (Kd.R_far (p := ⟨gb153, 0, none⟩) (Kd.R_types HO138.out BK153.out (by decide)) (fun _ hk => hk.2) (.int .i64 t134)) (fun _ hk => hk.2) (.int .i64 t135)) (fun _ hk => hk.2) (.slice Ao50 t136.length co50)) (fun _ hk => hk.2) (.slice (some ad154) t139.length co51)) (fun _ hk => hk.2) (.slice Ao52 t142.length co52)) (fun _ hk => hk.2) (.slice Ao53 t145.length co53)) (fun _ hk => hk.2) (.slice Ao54 t148.length co54)) (fun _ hk => hk.2) (.bool t151)) (fun _ h_ => h_.1))) hb); have n2_ := Aside0.mk (Kd.R_below (by (with_reducible repeat (first | apply Kd.R_alloc | apply Kd.R_drewN | apply Kd.R_drew)); exact (Kd.R_mono (Kd.R_far (p := ⟨gb153, 7, none⟩) (Kd.R_far (p := ⟨gb153, 6, none⟩) (Kd.R_far (p := ⟨gb153, 5, none⟩) (Kd.R_far (p := ⟨gb153, 4, none⟩) (Kd.R_far (p := ⟨gb153, 3, none⟩) (Kd.R_far (p := ⟨gb153, 2, none⟩) (Kd.R_far (p := ⟨gb153, 1, none⟩) (Kd.R_far (p := ⟨gb153, 0, none⟩) (Kd.R_types HO141.out BK153.out (by decide)) (fun _ hk => hk.2) (.int .i64 t134)) (fun _ hk => hk.2) (.int .i64 t135)) (fun _ hk => hk.2) (.slice Ao50 t136.length co50)) (fun _ hk => hk.2) (.slice (some ad154) t139.length co51)) (fun _ hk => hk.2) (.slice Ao52 t142.length co52)) (fun _ hk => hk.2) (.slice Ao53 t145.length co53)) (fun _ hk => hk.2) (.slice Ao54 t148.length co54)) (fun _ hk => hk.2) (.bool t151)) (fun _ h_ => h_.1))) hb); have n3_ := Aside0.mk (Kd.N_below (by (with_reducible repeat (first | apply Kd.N_alloc | apply Kd.N_drewN | apply Kd.N_drew)); exact (Kd.N_mono (Kd.N_far (p := ⟨gb153, 7, none⟩) (Kd.N_far (p := ⟨gb153, 6, none⟩) (Kd.N_far (p := ⟨gb153, 5, none⟩) (Kd.N_far (p := ⟨gb153, 4, none⟩) (Kd.N_far (p := ⟨gb153, 3, none⟩) (Kd.N_far (p := ⟨gb153, 2, none⟩) (Kd.N_far (p := ⟨gb153, 1, none⟩) (Kd.N_far (p := ⟨gb153, 0, none⟩) (Kd.N_mono HO144.out (fun k_ hk => (⟨hk, hk.2⟩ : _ ∧ k_ ≠ gb153))) (fun _ hk => hk.2) (.int .i64 t134)) (fun _ hk => hk.2) (.int .i64 t135)) (fun _ hk => hk.2) (.slice Ao50 t136.length co50)) (fun _ hk => hk.2) (.slice (some ad154) t139.length co51)) (fun _ hk => hk.2) (.slice Ao52 t142.length co52)) (fun _ hk => hk.2) (.slice Ao53 t145.length co53)) (fun _ hk => hk.2) (.slice Ao54 t148.length co54)) (fun _ hk => hk.2) (.bool t151)) (fun _ h_ => h_.1))) hb); have n4_ := Aside0.mk (Kd.N_below (by (with_reducible repeat (first | apply Kd.N_alloc | apply Kd.N_drewN | apply Kd.N_drew)); exact (Kd.N_mono (Kd.N_far (p := ⟨gb153, 7, none⟩) (Kd.N_far (p := ⟨gb153, 6, none⟩) (Kd.N_far (p := ⟨gb153, 5, none⟩) (Kd.N_far (p := ⟨gb153, 4, none⟩) (Kd.N_far (p := ⟨gb153, 3, none⟩) (Kd.N_far (p := ⟨gb153, 2, none⟩) (Kd.N_far (p := ⟨gb153, 1, none⟩) (Kd.N_far (p := ⟨gb153, 0, none⟩) (Kd.N_mono HO147.out (fun k_ hk => (⟨hk, hk.2⟩ : _ ∧ k_ ≠ gb153))) (fun _ hk => hk.2) (.int .i64 t134)) (fun _ hk => hk.2) (.int .i64 t135)) (fun _ hk => hk.2) (.slice Ao50 t136.length co50)) (fun _ hk => hk.2) (.slice (some ad154) t139.length co51)) (fun _ hk => hk.2) (.slice Ao52 t142.length co52)) (fun _ hk => hk.2) (.slice Ao53 t145.length co53)) (fun _ hk => hk.2) (.slice Ao54 t148.length co54)) (fun _ hk => hk.2) (.bool t151)) (fun _ h_ => h_.1))) hb); have n5_ := Aside0.mk (Kd.R_below (by (with_reducible repeat (first | apply Kd.R_alloc | apply Kd.R_drewN | apply Kd.R_drew)); exact (Kd.R_mono (Kd.R_far (p := ⟨gb153, 7, none⟩) (Kd.R_far (p := ⟨gb153, 6, none⟩) (Kd.R_far (p := ⟨gb153, 5, none⟩) (Kd.R_far (p := ⟨gb153, 4, none⟩) (Kd.R_far (p := ⟨gb153, 3, none⟩) (Kd.R_far (p := ⟨gb153, 2, none⟩) (Kd.R_far (p := ⟨gb153, 1, none⟩) (Kd.R_far (p := ⟨gb153, 0, none⟩) (Kd.R_types HO150.out BK153.out (by decide)) (fun _ hk => hk.2) (.int .i64 t134)) (fun _ hk => hk.2) (.int .i64 t135)) (fun _ hk => hk.2) (.slice Ao50 t136.length co50)) (fun _ hk => hk.2) (.slice (some ad154) t139.length co51)) (fun _ hk => hk.2) (.slice Ao52 t142.length co52)) (fun _ hk => hk.2) (.slice Ao53 t145.length co53)) (fun _ hk => hk.2) (.slice Ao54 t148.length co54)) (fun _ hk => hk.2) (.bool t151)) (fun _ h_ => h_.1))) hb); have n6_ := Aside0.mk (blk_below (g := gb129) (o := .cells #[.int .i64 1, .int .i64 1, .slice Ao28 y123.length co28, .slice none 0 0, .slice none 0 0, .slice none 0 0, .slice none 0 0, .bool false] 31 (0, 0)) (bf1_ BK129.out NB129_153.out) hb); have n7_ := Aside0.mk (blk_below (g := gb130) (o := .cells #[.int .i64 8, .int .i64 8, .slice Ao29 y126.length co29, .slice none 0 0, .slice none 0 0, .slice none 0 0, .slice none 0 0, .bool false] 31 (0, 0)) (bf1_ BK130.out NB130_153.out) hb); have n8_ := Aside0.mk (blk_below (g := gb153) (o := .cells #[.int .i64 t134, .int .i64 t135, .slice Ao50 t136.length co50, .slice (some ad154) t139.length co51, .slice Ao52 t142.length co52, .slice Ao53 t145.length co53, .slice Ao54 t148.length co54, .bool t151] 31 (0, 0)) (by (with_reducible repeat (first | refine blk_drewN ?_ _ | refine blk_drew ?_ | refine blk_alloc ?_ _)); refine blk_put (cs := #[.int .i64 t134, .int .i64 t135, .slice Ao50 t136.length co50, .slice (some ad154) t139.length co51, .slice Ao52 t142.length co52, .slice Ao53 t145.length co53, .slice Ao54 t148.length co54, .bool false]) ?_ 7 _ rfl; (with_reducible repeat (first | refine blk_drewN ?_ _ | refine blk_drew ?_ | refine blk_alloc ?_ _)); refine blk_put (cs := #[.int .i64 t134, .int .i64 t135, .slice Ao50 t136.length co50, .slice (some ad154) t139.length co51, .slice Ao52 t142.length co52, .slice Ao53 t145.length co53, .slice none 0 0, .bool false]) ?_ 6 _ rfl; (with_reducible repeat (first | refine blk_drewN ?_ _ | refine blk_drew ?_ | refine blk_alloc ?_ _)); refine blk_put (cs := #[.int .i64 t134, .int .i64 t135, .slice Ao50 t136.length co50, .slice (some ad154) t139.length co51, .slice Ao52 t142.length co52, .slice none 0 0, .slice none 0 0, .bool false]) ?_ 5 _ rfl; (with_reducible repeat (first | refine blk_drewN ?_ _ | refine blk_drew ?_ | refine blk_alloc ?_ _)); refine blk_put (cs := #[.int .i64 t134, .int .i64 t135, .slice Ao50 t136.length co50, .slice (some ad154) t139.length co51, .slice none 0 0, .slice none 0 0, .slice none 0 0, .bool false]) ?_ 4 _ rfl; (with_reducible repeat (first | refine blk_drewN ?_ _ | refine blk_drew ?_ | refine blk_alloc ?_ _)); refine blk_put (cs := #[.int .i64 t134, .int .i64 t135, .slice Ao50 t136.length co50, .slice none 0 0, .slice none 0 0, .slice none 0 0, .slice none 0 0, .bool false]) ?_ 3 _ rfl; (with_reducible repeat (first | refine blk_drewN ?_ _ | refine blk_drew ?_ | refine blk_alloc ?_ _)); refine blk_put (cs := #[.int .i64 t134, .int .i64 t135, .slice none 0 0, .slice none 0 0, .slice none 0 0, .slice none 0 0, .slice none 0 0, .bool false]) ?_ 2 _ rfl; (with_reducible repeat (first | refine blk_drewN ?_ _ | refine blk_drew ?_ | refine blk_alloc ?_ _)); refine blk_put (cs := #[.int .i64 t134, .int .i64 0, .slice none 0 0, .slice none 0 0, .slice none 0 0, .slice none 0 0, .slice none 0 0, .bool false]) ?_ 1 _ rfl; (with_reducible repeat (first | refine blk_drewN ?_ _ | refine blk_drew ?_ | refine blk_alloc ?_ _)); refine blk_put (cs := #[.int .i64 0, .int .i64 0, .slice none 0 0, .slice none 0 0, .slice none 0 0, .slice none 0 0, .slice none 0 0, .bool false]) ?_ 0 _ rfl; (with_reducible repeat (first | refine blk_drewN ?_ _ | refine blk_drew ?_ | refine blk_alloc ?_ _)); exact BK153.out) hb); have n9_ := Aside0.mk (below_step (hb3_ HB.out GE129.out GE130.out GE153.out) hb); clear HO133 HO138 HO141 HO144 HO147 HO150 BK129 BK130 BK153 HB; have HO133 := n0_; have HO138 := n1_; have HO141 := n2_; have HO144 := n3_; have HO147 := n4_; have HO150 := n5_; have BK129 := n6_; have BK130 := n7_; have BK153 := n8_; have HB := n9_; clear n0_ n1_ n2_ n3_ n4_ n5_ n6_ n7_ n8_ n9_; (try clear hb); (try clear hb2); (try clear hk); (try clear hi)))
 go_ret
 exact ⟨by first | rfl | (simp [errW_none, errW_some] <;> rfl) | (simp [*, errW_none, errW_some] <;> rfl), by repeat (first | (with_reducible first | exact HB.out | apply below_alloc | apply pw_below_drewN | apply below_drew1 | refine below_set ?_ GE129.out | refine below_set ?_ GE130.out | refine below_set ?_ GE153.out) | exact HB.out)⟩

end Go.Proofs.Ytpcephbhnbfcmaa.F
