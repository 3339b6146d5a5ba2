-- Written by this session's program fork.py: a Lean function for each Go function and its walk. Not trusted: Lean checks it.
import Derived.Test.YtpcephbhnbfcmaaI0
import Derived.Test.YtpcephbhnbfcmaaI2
namespace Go.Proofs.Ytpcephbhnbfcmaa.I
open Go.RowKit Go.Proofs.YtpcephbhnbfcmaaW.PrintWords Go.Proofs.YtpcephbhnbfcmaaW.PrintLast Go.Proofs.YtpcephbhnbfcmaaW.PrintMore
attribute [local go_sem] max2_int min2_int max_two min_two max_three min_three max_four min_four   -- for this text's walks alone
set_option linter.unusedVariables false
set_option linter.unusedSimpArgs false

/-! ### bits_Mul: function 94 -/
def bits_Mul.f (a0 : Int) (a1 : Int) : Option (Int × Int) := (bits_Mul64.f a0 a1).bind fun bt239 => (some (bt239.1, bt239.2))
set_option maxHeartbeats 8000000 in
set_option maxRecDepth 100000 in
theorem bits_Mul.calls (a0 : Int) (a1 : Int) (r1 : Int) (r2 : Int) (w : World) (h : bits_Mul.f a0 a1 = some (r1, r2)) :
  Calls Try.prog 94 #[.int .u64 a0, .int .u64 a1] w fun e w' => e = .returned (.tuple #[.int .u64 r1, .int .u64 r2]) ∧ Drawn0 w w' := by
 have H : ((bits_Mul64.f a0 a1).bind fun bt239 => (some (bt239.1, bt239.2))) = some (r1, r2) := h; clear h; replace H := Option.bind_eq_some_iff.mp H; obtain ⟨⟨t239, t240⟩, A30, H⟩ := H; (try dsimp only at H); have A3 := Aside0.mk A30; clear A30; simp only [Option.some.injEq, Prod.mk.injEq] at H; obtain ⟨rfl, rfl⟩ := H; go_enter Try.func94, Try.ntmps94
 go_wp2_with (first | ((with_reducible refine gate_callee (f := 98) rfl ?_); refine goesL_ (some 25) rfl rfl Try.func98 (by kernel_rfl) rfl #[.int .u64 a0, .int .u64 a1] rfl lm_ ?_; (with_reducible refine (bits_Mul64.calls a0 a1 t239 t240 _ A3.out).mono ?_); rintro e w' ⟨rfl, ⟨nd, rfl⟩⟩; refine ⟨_, rfl, ?_⟩))
 go_ret2
 exact ⟨rf_, by repeat (first | exact Drawn0.refl _ | apply Drawn0.step)⟩

/-! ### Extend: function 46 (by hand) -/
/-- A row of bytes of the call's own whose block may be longer than its capacity. -/
def ExtRow (w : World) (base : Nat) (v : Value) (xs : List Int) : Prop :=
  ∃ g cap cur, v = .slice (some ⟨g, 0, none⟩) xs.length cap ∧ base ≤ g ∧ w.heap[g]? = some (.cells cur 5 (0, 0)) ∧ xs.length ≤ cap ∧ cap ≤ cur.size ∧ xs.length ≤ 1024 ∧ cur.toList.take xs.length = nums .u8 xs
theorem bits_Mul_one : ∀ n : Fin 1025, bits_Mul.f 1 (n.val : Int) = some (0, (n.val : Int)) := by decide +kernel
theorem splice_take (L : List Value) (b m : Nat) (x : Value) (hL : ∀ j, j < b → L[j]? = some x) (hm : m ≤ b) (hb : b + m ≤ L.length) :
    ∀ j, j < b + m → (splice L b (L.take m))[j]? = some x := by
  intro j hj; unfold splice; rw [List.getElem?_append]; simp only [List.length_take]; split
  · rename_i h
    rw [List.getElem?_take, if_pos (by omega)]; exact hL j (by omega)
  · rename_i h
    rw [List.getElem?_append]; simp only [List.length_take]; rw [if_pos (by omega), List.getElem?_take, if_pos (by omega)]; exact hL _ (by omega)
theorem callNoZero (n : Nat) (hn : n ≤ 1024) (w : World) (nd : Nat) : ∃ cs : Array Value, (callFunc 95 #[.int .i64 (n : Int)]).run Try.prog (w.drewN nd) = .ok (.value (.slice (some ⟨w.heap.size, 0, none⟩) n cs.size)) ((w.alloc (.cells cs 5)).drewN (nd + 2)) ∧ n ≤ cs.size := by
  obtain ⟨cs, hrunM, hle, _⟩ := Lib.run_makeNoZero (P := Try.prog) (w.drewN nd) #[3] 27 5 Try.underlying27 n (by omega); refine ⟨cs, ?_, hle⟩; rw [run_callFunc_extern Try.func95 (by kernel_rfl) (by kernel_rfl) (by kernel_rfl) (e := Extern.BytealgMakeNoZero.makeNoZero #[3] #[27]) (by kernel_rfl), hrunM]; rfl
theorem one_src {W : World} {b o : Nat} {x : Value} (h : W.cell? ⟨b, o, none⟩ = some x) : ∀ j v, [x][j]? = some v → W.cell? ((⟨b, o, none⟩ : Addr).add j) = some v := by
  intro j v hj; rcases j with _ | j
  · simp only [List.getElem?_cons_zero, Option.some.injEq] at hj
    subst hj; simpa [Go.Addr.add] using h
  · simp at hj
theorem cells_one {L : List Value} {k m : Nat} (h : ∀ j, j < k → L[j]? = some (Value.int .u8 255)) (hm : m ≤ k) {v : Value} (hv : v ∈ L.take m) : v.oneCell' = true := by
  obtain ⟨j, hj⟩ := List.mem_iff_getElem?.1 hv; rw [List.getElem?_take] at hj; split at hj
  · rw [h j (by omega)] at hj
    obtain rfl := Option.some.inj hj; rfl
  · cases hj
theorem self_src {W : World} {g : Nat} {L : List Value} (h : W.heap[g]? = some (.cells L.toArray 5 (0, 0))) (m : Nat) : ∀ j v, (L.take m)[j]? = some v → W.cell? ((⟨g, 0, none⟩ : Addr).add j) = some v := by
  intro j v hj; rw [List.getElem?_take] at hj; split at hj
  · rw [add_plain, cell_of_row W g j L.toArray 5 (0, 0) h]
    simpa using hj
  · cases hj
theorem cut1 (g n k : Nat) (h : k < n) (W : World) : (Instr.slice 27 (.slice (some ⟨g, 0, none⟩) n n) (some (.int .i64 (k : Int))) none none).run Try.prog W = .ok (.slice (some ⟨g, k, none⟩) (n - k) (n - k)) W := by
  have hu := Try.underlying27; have h1 : ¬ (n < k) := by omega
  have h2 : ¬ (n = k) := by omega
  have h3 : (k : Int) ≤ (n : Int) := by omega
  have h0 : (0 : Int) ≤ (k : Int) := by omega
  go_simp
theorem cut2 (g n k : Nat) (h : k < n) (hn : n ≤ 1024) (W : World) : (Instr.slice 27 (.slice (some ⟨g, 0, none⟩) n n) none (some (.int .i64 (k : Int))) none).run Try.prog W = .ok (.slice (some ⟨g, 0, none⟩) k n) W := by
  have hu := Try.underlying27; have h3 : (k : Int) ≤ (n : Int) := by omega
  have h0 : (0 : Int) ≤ (k : Int) := by omega
  go_simp
theorem info5s : (Try.prog.info? 5).map (·.size) = some 1 := by kernel_rfl
set_option maxHeartbeats 4000000 in
set_option maxRecDepth 100000 in
theorem Repeat.pos (b o c n : Nat) (hn : n ≤ 1024) (h0 : 0 < n) (w : World) (hc : w.cell? ⟨b, o, none⟩ = some (.int .u8 255)) :
    Calls Try.prog 87 #[.slice (some ⟨b, o, none⟩) 1 c, .int .i64 (n : Int)] w fun e w' => ∃ v, e = .returned v ∧ ExtRow w' w.heap.size v (List.replicate n 255) ∧ Below w.heap.size w w' := by
  have HM := Aside0.mk (bits_Mul_one ⟨n, by omega⟩); have e0 : ((n : Int) == 0) = false := by simp; omega
  have i0 : (0 : Int) ≤ (n : Int) := by omega
  have i2 : (n : Int) ≤ 1024 := by omega
  have hlt0 : decide ((n : Int) < 0) = false := by simp
  go_enter Try.func87, Try.ntmps87
  go_wp2_with (first | (go_at_call 94; (with_reducible refine (bits_Mul.calls 1 (n : Int) 0 (n : Int) _ HM.out).mono ?_); rintro e w' ⟨rfl, ⟨nd, rfl⟩⟩; obtain ⟨cs, hcall, hle⟩ := callNoZero n hn w nd; have i1 : (n : Int) ≤ (cs.size : Int) := (by omega)) | ((with_reducible refine gate_builtin (b := .copy) (xs := #[.tmp 58, .tmp 59]) rfl ?_); refine wpList_copy_splice (by rfl) (.tmp 58) (.tmp 59) 27 27 (by rfl) 5 Try.underlying27 info5s (some ⟨w.heap.size, 0, none⟩) (some ⟨b, o, none⟩) n n 1 c (by rfl) (by rfl) w.heap.size 0 cs.toList 5 ?hg [.int .u8 255] ?hn ?hpos ?hfit ?h1 w.heap.size w ?hb ?hBg ?_; (case hg => exact heap_alloc_new w _); (case hn => show (1 : Nat) = min 1 n; omega); (case hpos => exact fun _ => ⟨rfl, ⟨b, o, none⟩, rfl, one_src ((World.cell?_alloc_lt w (.cells cs 5) ⟨b, o, none⟩ (World.block_lt_of_cell? w _ hc)).trans hc)⟩); (case hfit => simp; omega); (case h1 => simp [Value.oneCell']); (case hb => exact pw_below_drewN ((Below.refl _ _).alloc (Nat.le_refl _) _) _); (case hBg => exact Nat.le_refl _); intro w3 hg3 hb3; have HG3 := Aside0.mk hg3.out; have HB3 := Aside0.mk hb3; clear hg3 hb3))
  have H3 : ∀ j, j < 1 → (splice cs.toList 0 [Value.int .u8 255])[j]? = some (.int .u8 255) := by
    intro j hj; obtain rfl : j = 0 := by omega
    simp [splice]
  have L3 : (splice cs.toList 0 [Value.int .u8 255]).length = cs.size := by
    rw [length_splice _ _ _ (by simp; omega)]; simp
  obtain ⟨LL, hLL⟩ : ∃ LL, splice cs.toList 0 [Value.int .u8 255] = LL := ⟨_, rfl⟩; rw [hLL] at HG3 H3 L3; clear hLL; have HH3 := Aside0.mk H3; have HL3 := Aside0.mk L3; clear H3 L3; go_loopg [10] (n - 1) (fun kq v10 wr => ∃ (k : Nat) (L : List Value), v10 = .int .i64 k ∧ Aside0 (1 ≤ k ∧ k ≤ n ∧ kq = n - k) ∧ Aside0 (L.length = cs.size) ∧ Aside0 (∀ j, j < k → L[j]? = some (.int .u8 255)) ∧ Aside0 (wr.heap[w.heap.size]? = some (.cells L.toArray 5 (0, 0))) ∧ Aside0 (Below w.heap.size w wr))
  case atStart => exact ⟨1, LL, rfl, ⟨by omega, by omega, by omega⟩, HL3, HH3, HG3, HB3⟩
  case round =>
    clear HL3 HH3 HG3 HB3; obtain ⟨k, L, rfl, HK, HL, HH, HG, HB⟩ := hrel; by_cases hkn : k < n
    · have hk1 := HK.out.1
      go_wp2
      have s0 : (0 : Int) ≤ (k : Int) := by omega
      have s1 : (k : Int) ≤ (n : Int) := by omega
      have HC := Aside0.mk hle; obtain ⟨m, hm⟩ : ∃ m, m = min k (n - k) := ⟨_, rfl⟩; have HMM := Aside0.mk hm; have HM1 := Aside0.mk (show m ≤ k by omega); have HM2 := Aside0.mk (show k + m ≤ n by omega); have HM3 := Aside0.mk (show 1 ≤ m by omega); have m0 : (0 : Int) ≤ (m : Int) := by omega
      have m1 : (k : Int) + (m : Int) ≤ 1024 := by omega
      have HLM := Aside0.mk (show (L.take m).length = m by rw [List.length_take]; have := HL.out; omega); have HW := Aside0.mk (show wrap64 ((k : Int) + (m : Int)) = ((k + m : Nat) : Int) by unfold wrap64; omega); clear hm; have hcut1 : ∀ W, (Instr.slice 27 (.slice (some ⟨w.heap.size, 0, none⟩) n n) (some (.int .i64 (k : Int))) none none).run Try.prog W = .ok (.slice (some ⟨w.heap.size, k, none⟩) (n - k) (n - k)) W := cut1 w.heap.size n k hkn; have hcut2 : ∀ W, (Instr.slice 27 (.slice (some ⟨w.heap.size, 0, none⟩) n n) none (some (.int .i64 (k : Int))) none).run Try.prog W = .ok (.slice (some ⟨w.heap.size, 0, none⟩) k n) W := cut2 w.heap.size n k hkn hn; replace HG : Aside0 (wr.drew.heap[w.heap.size]? = some (.cells L.toArray 5 (0, 0))) := ⟨HG.out⟩; replace HB : Aside0 (Below w.heap.size w wr.drew) := ⟨below_drew HB.out⟩; refine start_ (n := 10) (S := fun w' => True) (ds := []) (mk_ 0 10) (by kernel_rfl) rfl rfl trivial (fun hHeld => ?_); generalize wr.drew = w4 at HG HB hHeld ⊢; refine pure_ (i := 0) (N := some 67) (v := ?_) (a' := ?_) (mk_ 1 10) rfl rfl (by kernel_rfl) (fun _ _ _ h => h) (Or.inl ⟨by rfl, ?_⟩) ?_ ?_; rotate_left
      · intro w'
        go_simp
        with_reducible rfl
      rotate_left
      · simp only [Act.put, List.setIfInBounds_toArray, List.set_cons_zero, List.set_cons_succ, i64_w, i32_w]
        rfl
      refine pure_ (i := 1) (N := some 68) (v := ?_) (a' := ?_) (mk_ 2 10) rfl rfl (by kernel_rfl) (fun _ _ _ h => h) (Or.inl ⟨by rfl, ?_⟩) ?_ ?_; rotate_left
      · intro w'
        go_simp
        with_reducible rfl
      rotate_left
      · simp only [Act.put, List.setIfInBounds_toArray, List.set_cons_zero, List.set_cons_succ, i64_w, i32_w]
        rfl
      refine pure_ (i := 2) (N := some 69) (v := ?_) (a' := ?_) (mk_ 3 10) rfl rfl (by kernel_rfl) (fun _ _ _ h => h) (Or.inl ⟨by rfl, ?_⟩) ?_ ?_; rotate_left
      · intro w'
        go_simp
        with_reducible rfl
      rotate_left
      · simp only [Act.put, List.setIfInBounds_toArray, List.set_cons_zero, List.set_cons_succ, i64_w, i32_w]
        rfl
      refine pure_ (i := 3) (N := some 70) (v := ?_) (a' := ?_) (mk_ 4 10) rfl rfl (by kernel_rfl) (fun _ _ _ h => h) (Or.inl ⟨by rfl, ?_⟩) ?_ ?_; rotate_left
      · intro w'
        go_simp
        with_reducible rfl
      rotate_left
      · simp only [Act.put, List.setIfInBounds_toArray, List.set_cons_zero, List.set_cons_succ, i64_w, i32_w]
        rfl
      refine pure_ (i := 4) (N := some 71) (v := ?_) (a' := ?_) (mk_ 5 10) rfl rfl (by kernel_rfl) (fun _ _ _ h => h) (Or.inl ⟨by rfl, ?_⟩) ?_ ?_; rotate_left
      · intro w'
        go_simp
        with_reducible rfl
      rotate_left
      · simp only [Act.put, List.setIfInBounds_toArray, List.set_cons_zero, List.set_cons_succ, i64_w, i32_w]
        rfl
      refine pure_ (i := 5) (N := some 72) (v := ?_) (a' := ?_) (mk_ 6 10) rfl rfl (by kernel_rfl) (fun _ _ _ h => h) (Or.inl ⟨by rfl, ?_⟩) ?_ ?_; rotate_left
      · intro w'
        go_simp
        with_reducible rfl
      rotate_left
      · simp only [Act.put, List.setIfInBounds_toArray, List.set_cons_zero, List.set_cons_succ, i64_w, i32_w]
        rfl
      refine pure_ (i := 6) (N := some 73) (v := ?_) (a' := ?_) (mk_ 7 10) rfl rfl (by kernel_rfl) (fun _ _ _ h => h) (Or.inl ⟨by rfl, ?_⟩) ?_ ?_; rotate_left
      · intro w'
        go_simp
        with_reducible rfl
      rotate_left
      · simp only [Act.put, List.setIfInBounds_toArray, List.set_cons_zero, List.set_cons_succ, i64_w, i32_w]
        rfl
      refine one_ (i := 7) (N := some 74) (mk_ 8 10) rfl rfl (by kernel_rfl) (by decide) (fun K hK => ?_); refine step_copy_splice (by rfl) (.tmp 70) (.tmp 73) 27 27 (by rfl) 5 Try.underlying27 info5s (some ⟨w.heap.size, k, none⟩) (some ⟨w.heap.size, 0, none⟩) (n - k) (n - k) k n (by rfl) (by rfl) w.heap.size k L 5 ?hg (L.take m) ?hn ?hpos ?hfit ?h1 w.heap.size w ?hb ?hBg ?_; (case hg => exact HG.out)
      (case hn => show _ = min k (n - k); rw [HLM.out]; exact HMM.out)
      (case hpos => exact fun _ => ⟨rfl, _, rfl, self_src HG.out _⟩)
      (case hfit => rw [HLM.out]; have := HL.out; have := HC.out; have := HM2.out; omega)
      (case h1 => exact fun v hv => cells_one HH.out HM1.out hv)
      (case hb => exact HB.out)
      (case hBg => exact Nat.le_refl _)
      intro w5 hg5 hb5; have HG5 := Aside0.mk hg5.out; have HB5 := Aside0.mk hb5; clear hg5 hb5; rw [HLM.out]; refine hK.out _ _ trivial (fun hHeld => ?_); clear hK K; refine norm_ (a' := ?_) ?_ ?_; rotate_left
      · show Act.put _ (some 74) _ = _
        simp only [Act.put, List.setIfInBounds_toArray, List.set_cons_zero, List.set_cons_succ, i64_w, i32_w]; rfl
      refine pure_ (i := 8) (N := some 75) (v := ?_) (a' := ?_) (mk_ 9 10) rfl rfl (by kernel_rfl) (fun _ _ _ h => h) (Or.inl ⟨by rfl, ?_⟩) ?_ ?_; rotate_left
      · intro w'
        go_simp
        with_reducible rfl
      rotate_left
      · simp only [Act.put, List.setIfInBounds_toArray, List.set_cons_zero, List.set_cons_succ, i64_w, i32_w]
        rfl
      refine pure_ (i := 9) (N := some 10) (v := ?_) (a' := ?_) (mk_ 10 10) rfl rfl (by kernel_rfl) (fun _ _ _ h => h) (Or.inl ⟨by rfl, ?_⟩) ?_ ?_; rotate_left
      · intro w'
        go_simp
        with_reducible rfl
      rotate_left
      · simp only [Act.put, List.setIfInBounds_toArray, List.set_cons_zero, List.set_cons_succ, i64_w, i32_w]
        rfl
      refine done_ (by kernel_rfl) ?_

      go_wp2
      go_roundg (n - (k + m))
      case measure => have := HK.out; have := HM3.out; have := HM2.out; omega
      case rel => exact ⟨k + m, splice L k (L.take m), by rw [HW.out], ⟨by omega, HM2.out, rfl⟩, ⟨by rw [length_splice _ _ _ (by rw [HLM.out]; have := HL.out; have := HC.out; have := HM2.out; omega)]; exact HL.out⟩, ⟨splice_take L k m _ HH.out HM1.out (by have := HL.out; have := HC.out; have := HM2.out; omega)⟩, HG5, HB5⟩
    · obtain rfl : k = n := by have := HK.out; omega
      clear hkn; have hl : decide (k < k) = false := by simp
      go_wp2
      go_ret
      refine ⟨_, rfl, ⟨w.heap.size, k, L.toArray, by simp, Nat.le_refl _, HG.out, by simp, by simp [HL.out]; omega, by simp; omega, ?_⟩, HB.out⟩; apply List.ext_getElem?
      intro j; have hL := HL.out; by_cases hj : j < k
      · rw [List.getElem?_take, if_pos (by simpa using hj)]
        rw [show L.toArray.toList[j]? = L[j]? from rfl, HH.out j hj]; simp [nums, hj]
      · rw [List.getElem?_eq_none (by simp; omega), List.getElem?_eq_none (by simp [nums]; omega)]
theorem ExtRow_nil (w : World) (g : Nat) (base : Nat) (hb : base ≤ g) (cur : Array Value) (h : w.heap[g]? = some (.cells cur 5 (0, 0))) : ExtRow w base (.slice (some ⟨g, 0, none⟩) 0 0) [] :=
  ⟨g, 0, cur, rfl, hb, h, Nat.le_refl _, Nat.zero_le _, by simp, by simp [nums]⟩
theorem Repeat.zero (b o c : Nat) (w : World) :
    Calls Try.prog 87 #[.slice (some ⟨b, o, none⟩) 1 c, .int .i64 (0 : Int)] w fun e w' => ∃ v, e = .returned v ∧ ExtRow w' w.heap.size v [] ∧ Below w.heap.size w w' := by
  go_enter Try.func87, Try.ntmps87
  go_wp2
  go_ret
  exact ⟨_, rfl, ExtRow_nil _ w.heap.size _ (Nat.le_refl _) _ (heap_alloc_new w _), (Below.refl _ _).alloc (Nat.le_refl _) _⟩
theorem Repeat.all (b o c n : Nat) (hn : n ≤ 1024) (w : World) (hc : w.cell? ⟨b, o, none⟩ = some (.int .u8 255)) :
    Calls Try.prog 87 #[.slice (some ⟨b, o, none⟩) 1 c, .int .i64 (n : Int)] w fun e w' => ∃ v, e = .returned v ∧ ExtRow w' w.heap.size v (List.replicate n 255) ∧ Below w.heap.size w w' := by
  rcases Nat.eq_zero_or_pos n with h | h
  · subst h
    exact Repeat.zero b o c w
  · exact Repeat.pos b o c n hn h w hc
theorem src_of_C {w : World} {A : Option Addr} {n : Nat} {xs : List Int} (h : Kd.C (Kd.int .u8) w A n xs) (hp : 0 < n) : ∃ ad, A = some ad ∧ ∀ j v, (nums .u8 xs)[j]? = some v → w.cell? (ad.add j) = some v := by
  have hl : xs.length = n := h.1; obtain ⟨ad, e, _⟩ := Kd.at_int h 0 (by omega) (by omega); refine ⟨ad, e, fun j v hj => ?_⟩; have hlt : j < xs.length := by
    rcases Nat.lt_or_ge j xs.length with h1 | h1
    · exact h1
    · rw [List.getElem?_eq_none (by simpa [nums] using h1)] at hj
      cases hj
  obtain ⟨ad2, e2, hc⟩ := Kd.at_int h (j : Int) (by omega) (by omega); rw [e] at e2; obtain rfl := Option.some.inj e2; rw [Int.toNat_natCast] at hc; rw [hc, ← hj]; simp [nums, rd, List.getElem?_eq_getElem hlt, List.getD_eq_getElem?_getD]
theorem take_splice0 (cur : List Value) (cs : List Value) (n : Nat) (h : cs.length ≤ n) : (splice cur 0 cs).take n = cs ++ (cur.take n).drop cs.length := by
  unfold splice; simp only [List.take_zero, List.nil_append, Nat.zero_add]; rw [List.take_append, List.take_of_length_le h, List.drop_take]
theorem nums_take_some {k : IntKind} {xs : List Int} {n j : Nat} {v : Value} (h : (nums k (xs.take n))[j]? = some v) : (nums k xs)[j]? = some v := by
  unfold nums at h ⊢; rw [List.map_take, List.getElem?_take] at h; split at h
  · exact h
  · cases h
theorem nums_one {k : IntKind} {xs : List Int} {v : Value} (h : v ∈ nums k xs) : v.oneCell' = true := by
  unfold nums at h; obtain ⟨x, _, rfl⟩ := List.mem_map.1 h; rfl
def ext (l0 : List Int) (a1 : Int) : List Int := l0.take (min (max a1 0) 1024).toNat ++ List.replicate ((min (max a1 0) 1024).toNat - l0.length) 255
theorem ext_n (l0 : List Int) (a1 : Int) (n : Nat) (h : (n : Int) = min (max a1 0) 1024) : ext l0 a1 = l0.take n ++ List.replicate (n - l0.length) 255 := by
  unfold ext; rw [← h]; rfl
theorem ext_row {w : World} {base g cap n : Nat} {cur : Array Value} (l0 : List Int) (hb : base ≤ g) (hn : n ≤ 1024) (hcap : n ≤ cap) (hcur : cap ≤ cur.size) (ht : cur.toList.take n = nums .u8 (List.replicate n 255))
    (h : w.heap[g]? = some (.cells (splice cur.toList 0 (nums .u8 (l0.take n))).toArray 5 (0, 0))) : ExtRow w base (.slice (some ⟨g, 0, none⟩) n cap) (l0.take n ++ List.replicate (n - l0.length) 255) := by
  have hl : (l0.take n ++ List.replicate (n - l0.length) 255).length = n := by simp; omega
  have hcl : (nums .u8 (l0.take n)).length = min n l0.length := by simp [nums]
  refine ⟨g, cap, _, by rw [hl], hb, h, by rw [hl]; exact hcap, ?_, by rw [hl]; exact hn, ?_⟩
  · rw [List.size_toArray, length_splice _ _ _ (by rw [hcl]; simp only [Array.length_toList]; omega), Array.length_toList]
    exact hcur
  · rw [hl]
    show (splice cur.toList 0 (nums .u8 (l0.take n))).take n = _
    rw [take_splice0 _ _ _ (by rw [hcl]; omega), ht, nums_append, hcl]; congr 1
    simp [nums]
    omega
set_option maxHeartbeats 2000000 in
set_option maxRecDepth 100000 in
theorem ExtendS.calls (A0 : Option Addr) (c0 : Nat) (l0 : List Int) (a1 : Int) (w : World) (hr0 : Kd.C (Kd.int .u8) w A0 l0.length l0) :
    Calls Try.prog 46 #[.slice A0 l0.length c0, .int .i64 a1] w fun e w' => ∃ v, e = .returned v ∧ ExtRow w' w.heap.size v (ext l0 a1) ∧ Below w.heap.size w w' := by
  obtain ⟨n, hn⟩ : ∃ n : Nat, (n : Int) = min (max a1 0) 1024 := ⟨(min (max a1 0) 1024).toNat, by omega⟩; rw [ext_n l0 a1 n hn]; have hn1 : n ≤ 1024 := by omega
  obtain ⟨j1, hj1⟩ : ∃ j : Int, (if 1024 < a1 then 1024 else a1) = j := ⟨_, rfl⟩; have hj2 : (if 0 < j1 then j1 else 0) = (n : Int) := by
    split at hj1 <;> split <;> omega
  have HR := Aside0.mk hr0; have HN := Aside0.mk hn1; clear hn hr0 hn1; go_enter Try.func46, Try.ntmps46
  go_wp2_with (first | (go_at_call 87; (with_reducible refine (Repeat.all w.heap.size 0 1 n HN.out _ (by simp)).mono ?_); rintro e w2 ⟨v2, rfl, hx, hb⟩; obtain ⟨g, cap, cur, hv, hg, hh, h1, h2, h3, h4⟩ := hx; rw [List.length_replicate] at hv h1 h3 h4; subst hv; have HB := Aside0.mk hb; have HG := Aside0.mk hg; have HH := Aside0.mk hh; have H1 := Aside0.mk h1; have H2 := Aside0.mk h2; have H4 := Aside0.mk h4; clear hb hg hh h1 h2 h3 h4) | ((with_reducible refine gate_builtin (b := .copy) (xs := #[.tmp 12, .tmp 13]) rfl ?_); refine wpList_copy_splice (by rfl) (.tmp 12) (.tmp 13) 27 27 (by rfl) 5 Try.underlying27 info5s (some ⟨g, 0, none⟩) A0 n cap l0.length c0 (by rfl) (by rfl) g 0 cur.toList 5 ?hg (nums .u8 (l0.take n)) ?hn ?hpos ?hfit ?h1 w.heap.size w ?hb ?hBg ?_; (case hg => exact HH.out); (case hn => show _ = min l0.length n; simp [nums]; omega); (case hpos => intro hp_; have hlp_ : 0 < l0.length := (by rw [nums_length, List.length_take] at hp_; omega); obtain ⟨ad_, ea_, hs_⟩ := src_of_C (Kd.C_below (Kd.C_below HR.out (below_alloc (Below.refl _ _) _)) HB.out) hlp_; exact ⟨rfl, ad_, ea_, fun j v hj => hs_ j v (nums_take_some hj)⟩); (case hfit => rw [nums_length, List.length_take]; have := H1.out; have := H2.out; simp only [Array.length_toList]; omega); (case h1 => exact fun v hv => nums_one hv); (case hb => exact below_step (below_alloc (Below.refl _ _) _) HB.out); (case hBg => have h_ := HG.out; simp only [World.size_alloc] at h_; omega); intro w3 hg3 hb3; have HG3 := Aside0.mk hg3.out; have HB3 := Aside0.mk hb3; clear hg3 hb3))
  go_ret
  exact ⟨_, rfl, ext_row l0 (by have h_ := HG.out; simp only [World.size_alloc] at h_; omega) HN.out H1.out H2.out H4.out HG3.out, HB3.out⟩
theorem ExtRow.toV {w : World} {base : Nat} {v : Value} {xs : List Int} (h : ExtRow w base v xs) : Kd.V (Kd.int .u8) 5 w base (fun k_ => base ≤ k_) v xs := by
  obtain ⟨g, cap, cur, rfl, hb, hh, h1, h2, h3, h4⟩ := h; refine Kd.V_mk h1 ?_; intro W' hW; have hlt : g < w.heap.size := (Array.getElem?_eq_some_iff.1 hh).1; have hg : W'.heap[g]? = some (.cells cur 5 (0, 0)) := (hW g hb hlt).trans hh; refine Kd.C_of_reads (d := (0 : Int)) (h1 := fun _ => rfl) ⟨rfl, by omega, fun hp => ⟨⟨g, 0, none⟩, rfl, fun j hj => ?_⟩⟩; rw [add_plain, cell_of_row W' g j cur 5 (0, 0) hg]; have e : cur.toList[j]? = (nums .u8 xs)[j]? := by
    rw [← h4, List.getElem?_take, if_pos hj]
  rw [← Array.getElem?_toList, e]; simp [nums, List.getElem?_eq_getElem hj, List.getD_eq_getElem?_getD]
def Extend.f (l0 : List Int) (a1 : Int) : Option (List Int) := some (ext l0 a1)
theorem Extend.calls (A0 : Option Addr) (c0 : Nat) (l0 : List Int) (a1 : Int) (r : List Int) (w : World) (hr0 : Kd.C (Kd.int .u8) w A0 l0.length l0) (hc0 : l0.length ≤ c0) (h : Extend.f l0 a1 = some r) :
    Calls Try.prog 46 #[.slice A0 l0.length c0, .int .i64 a1] w fun e w' => ∃ v0_ : Value, e = .returned (v0_) ∧ Kd.V (Kd.int .u8) 5 w' w.heap.size (fun k_ => (w.heap.size ≤ k_)) v0_ r ∧ Below w.heap.size w w' := by
  unfold Extend.f at h; obtain rfl := Option.some.inj h; refine (ExtendS.calls A0 c0 l0 a1 w hr0).mono ?_; rintro e w' ⟨v, rfl, hx, hb⟩; exact ⟨v, rfl, hx.toV, hb⟩

open List (setIfInBounds_toArray set_cons_zero set_cons_succ)
/-! ### mask_And: function 50 -/
def mask_And.l0 : Nat → List Int → List Int → Int → Int → Option (List Int)
 | 0, _, _, _, _ => none
 | k + 1, x1, x5, x16, x17 => if x17 < x16 then (if 0 ≤ x17 then (if x17 < (x5.length : Int) then (if x17 < (x1.length : Int) then (mask_And.l0 k x1 (x5.set (x17 : Int).toNat (Go.bits .and .u8 (rd x5 x17) (rd x1 x17))) x16 (wrap64 (x17 + 1))) else (none)) else (none)) else (none)) else (some x5)
def mask_And.f (k : Nat) (l0 : List Int) (l1 : List Int) : Option (List Int) := if 0 ≤ (mn (l0.length : Int) (l1.length : Int)) then (if (mn (l0.length : Int) (l1.length : Int)) ≤ (l0.length : Int) then ((CloneB.f (l0.take ((mn (l0.length : Int) (l1.length : Int)) : Int).toNat)).bind fun t242 => (mask_And.l0 k l1 t242 (t242.length : Int) 0)) else (none)) else (none)
theorem mask_And.mono_l : ∀ k, (∀ y0 y1 y2 y3, LeO (mask_And.l0 k y0 y1 y2 y3) (mask_And.l0 (k + 1) y0 y1 y2 y3))
 | 0 => fun _ _ _ _ r h => by simp [mask_And.l0] at h
 | k + 1 => by
  have ih0 := mask_And.mono_l k
  ·
   intro y0 y1 y2 y3; unfold mask_And.l0
   repeat' first
   | (with_reducible exact ih0 _ _ _ _)
   | (with_reducible exact LeO.refl _)
   | (with_reducible exact LeO.none _)
   | (with_reducible refine LeO.ite ?_ ?_)
   | (with_reducible refine LeO.bind ?_ (fun _ => ?_))
   | exact ih0 _ _ _ _
   | exact LeO.none _
   | refine LeO.ite ?_ ?_
   | refine LeO.bind ?_ (fun _ => ?_)
theorem mask_And.mono : ∀ a0 a1 k, LeO (mask_And.f k a0 a1) (mask_And.f (k + 1) a0 a1) := by
 intro a0 a1 k; have ih0 := mask_And.mono_l k; unfold mask_And.f
 repeat' first
   | (with_reducible exact ih0 _ _ _ _)
   | (with_reducible exact LeO.refl _)
   | (with_reducible exact LeO.none _)
   | (with_reducible refine LeO.ite ?_ ?_)
   | (with_reducible refine LeO.bind ?_ (fun _ => ?_))
   | exact ih0 _ _ _ _
   | exact LeO.none _
   | refine LeO.ite ?_ ?_
   | refine LeO.bind ?_ (fun _ => ?_)
def mask_And.T5 : Bool × List (List Nat × List Nat) := (true, [([], []), ([], []), ([0, 1], [0, 1]), ([2], [2]), ([], []), ([], []), ([4, 5], [4, 5]), ([6], [6]), ([3, 7], [3, 7]), ([0, 1, 0, 1, 2, 3, 4, 5, 6, 7, 8], [0, 1]), ([9, 8, 0, 1, 2, 3, 4, 5, 6, 7, 8], [8, 9])])
def mask_And.B5 : List Nat := [0, 0, 3, 7, 0, 0, 48, 112, 255, 511, 1023]
theorem mask_And.tab5 : rtab .any (opsOf Try.f50 5) = mask_And.T5 := by kernel_rfl
theorem mask_And.bits5 : waitsOk mask_And.T5.2 mask_And.B5 = true := by kernel_rfl
set_option maxHeartbeats 8000000 in
set_option maxRecDepth 100000 in
theorem mask_And.calls (k : Nat) (A0 : Option Addr) (c0 : Nat) (l0 : List Int) (A1 : Option Addr) (c1 : Nat) (l1 : List Int) (r : List Int) (w : World) (hr0 : Kd.C (Kd.int .u8) w A0 l0.length l0) (hc0 : l0.length ≤ c0) (hr1 : Kd.C (Kd.int .u8) w A1 l1.length l1) (hc1 : l1.length ≤ c1) (h : mask_And.f k l0 l1 = some r) :
  Calls Try.prog 50 #[.slice A0 l0.length c0, .slice A1 l1.length c1] w fun e w' => ∃ v0_ : Value, e = .returned (v0_) ∧ Kd.R (Kd.int .u8) 5 w' w.heap.size (fun _ => True) v0_ r ∧ Below w.heap.size w w' := by
 have HR0 := Aside0.mk hr0; have HC0 := Aside0.mk hc0; clear hr0 hc0; have HR1 := Aside0.mk hr1; have HC1 := Aside0.mk hc1; clear hr1 hc1; have HB := Aside0.mk (Below.refl w.heap.size w); have H : (if 0 ≤ (mn (l0.length : Int) (l1.length : Int)) then (if (mn (l0.length : Int) (l1.length : Int)) ≤ (l0.length : Int) then ((CloneB.f (l0.take ((mn (l0.length : Int) (l1.length : Int)) : Int).toNat)).bind fun t242 => (mask_And.l0 k l1 t242 (t242.length : Int) 0)) else (none)) else (none)) = some r := h; clear h; obtain ⟨ji3, hji3⟩ : ∃ j_ : Int, (mn (l0.length : Int) (l1.length : Int)) = j_ := ⟨_, rfl⟩; replace H : (if 0 ≤ (ji3) then (if (ji3) ≤ (l0.length : Int) then ((CloneB.f (l0.take ((ji3) : Int).toNat)).bind fun t242 => (mask_And.l0 k l1 t242 (t242.length : Int) 0)) else (none)) else (none)) = some r := by first | (rw [hji3] at H; exact H) | (simp only [hji3] at H ⊢; exact H)
 (try (have hji3l : 0 ≤ ji3 := by (rw [← hji3]; unfold mn; (repeat' split) <;> omega)))
 (try (have hji3m : 0 ≤ ji3 := by omega))
 have hji3_ : (if (l1.length : Int) < (l0.length : Int) then (l1.length : Int) else (l0.length : Int)) = ji3 := hji3; have hji3N : (if l1.length < l0.length then (l1.length : Int) else (l0.length : Int)) = ji3 := by simpa only [Int.ofNat_lt] using hji3_
 by_cases c4 : 0 ≤ (ji3)
 ·
  rw [if_pos c4] at H; have c4b0 := eq_true c4; have c4b1 : decide (0 ≤ (ji3)) = true := decide_eq_true c4; clear c4; by_cases c5 : (ji3) ≤ (l0.length : Int)
  rotate_left
  ·
   rw [if_neg c5] at H; exact absurd H (by simp)
  rw [if_pos c5] at H; have c5b0 := eq_true c5; have c5b1 : decide ((ji3) ≤ (l0.length : Int)) = true := decide_eq_true c5; clear c5; replace H := Option.bind_eq_some_iff.mp H; obtain ⟨t242, A60, H⟩ := H; (try dsimp only at H); have A6 := Aside0.mk A60; clear A60; have H' := Aside0.mk H; clear H; obtain ⟨i07, hi07, _, hsz7, _⟩ := info_parts info5; obtain ⟨hcut7, hA7, hC7⟩ := print_take_of (P := Try.prog) (Value.int .u8) 0 27 5 .i64 Try.underlying27 hi07 hsz7 A0 c0 l0 (ji3) od_ od_ HC0.out; have HR241 := Aside0.mk (Kd.C_of_reads (h1 := fun _ => rfl) (hA7 _ (Kd.reads_of_C HR0.out))); have HC241 := Aside0.mk hC7; clear hA7 hC7 hi07 hsz7; go_enter Try.func50, Try.ntmps50
  go_wp2_with (first | ((with_reducible refine gate_callee (f := 81) rfl ?_); refine goesL_ (some 14) rfl rfl Try.func81 (by kernel_rfl) rfl #[.slice A0 (l0.take ((ji3) : Int).toNat).length c0] rfl (by (try simp only [List.map_toArray, List.map_cons, List.map_nil]); first | done | (rw [show (l0.take ((ji3) : Int).toNat).length = (ji3).toNat from (by rw [List.length_take]; have h_ : ((ji3) : Int) ≤ (l0.length : Int) := od_; omega)] <;> rfl) | (simp only [hji3]; rfl) | rfl | (simp only [List.length_drop, List.length_take]; rfl)) ?_; (with_reducible refine (CloneB.calls _ _ (l0.take ((ji3) : Int).toNat) t242 _ ?side1 ?side2 A6.out).mono ?_); (case side1 => exact kD_ HR241.out); (case side2 => exact HC241.out); rintro e w8 ⟨v243, rfl, ho0, hb⟩; refine ⟨_, rfl, ?_⟩; have n0_ := Aside0.mk (Kd.R_lower ho0 (below_size (hb0_ HB.out))); have n1_ := Aside0.mk (below_step (hb0_ HB.out) hb); clear HB; revert n0_ n1_; intro HO244 HB; (try clear hb); (try clear hb2); (try clear hk); (try clear hi); (try clear ho0); obtain ⟨Ao9, co9, eo9⟩ := Kd.R_slice HO244.out; subst eo9))
  go_loopg [17] k (fun kq v17 w' => ∃ (x5_1 : List Int) (x17_1 : Int), v17 = .int .i64 x17_1 ∧ Aside0 (mask_And.l0 kq l1 x5_1 (t242.length : Int) x17_1 = some r) ∧ Aside0 (kq ≤ k) ∧ Aside0 (Kd.R (Kd.int .u8) 5 w' w.heap.size (fun _ => True) (.slice Ao9 t242.length co9) x5_1) ∧ Aside0 (Below w.heap.size w w'))
  case atStart => exact ⟨(t242), (0), rf_, H', ⟨Nat.le_refl _⟩, ⟨by (with_reducible repeat (first | apply Kd.R_alloc | apply Kd.R_drewN | apply Kd.R_drew)); exact HO244.out⟩, ⟨(hb0_ HB.out)⟩⟩
  case round =>
   clear H'; try clear c1
   try clear p2
   try clear c4
   try clear c4b0
   try clear c4b1
   try clear c5
   try clear c5b0
   try clear c5b1
   try clear c8
   obtain ⟨x5_1, x17_1, rfl, HA, HK1, HO_5, HB⟩ := hrel; have hl5_1 := (Kd.R_reads' HO_5.out).1; rw [hl5_1] at HO_5; (try simp only [hl5_1])
   cases gk with
   | zero => exact absurd HA.out (by simp [mask_And.l0])
   | succ k1 =>
    have H := HA.out; clear HA; simp only [mask_And.l0] at H; by_cases c10 : x17_1 < (t242.length : Int)
    ·
     rw [if_pos c10] at H; have c10b0 : decide (x17_1 < (t242.length : Int)) = true := decide_eq_true c10; (try (have c10r0 := c10b0; simp only [hl5_1] at c10r0))
     clear c10; by_cases c11 : 0 ≤ x17_1
     rotate_left
     ·
      rw [if_neg c11] at H; exact absurd H (by simp)
     rw [if_pos c11] at H; have c11b0 : decide (0 ≤ x17_1) = true := decide_eq_true c11; clear c11; by_cases c12 : x17_1 < (x5_1.length : Int)
     rotate_left
     ·
      rw [if_neg c12] at H; exact absurd H (by simp)
     rw [if_pos c12] at H; have c12b0 : decide (x17_1 < (x5_1.length : Int)) = true := decide_eq_true c12; (try (have c12r0 := c12b0; simp only [hl5_1] at c12r0))
     clear c12; by_cases c13 : x17_1 < (l1.length : Int)
     rotate_left
     ·
      rw [if_neg c13] at H; exact absurd H (by simp)
     rw [if_pos c13] at H; have c13b0 : decide (x17_1 < (l1.length : Int)) = true := decide_eq_true c13; (try (have c13r0 := c13b0; simp only [hl5_1] at c13r0))
     clear c13; obtain ⟨y247, hy247⟩ : ∃ y_ : List Int, y_ = (x5_1.set (x17_1 : Int).toNat (Go.bits .and .u8 (rd x5_1 x17_1) (rd l1 x17_1))) := ⟨_, rfl⟩; replace H : (mask_And.l0 k1 l1 y247 (t242.length : Int) (wrap64 (x17_1 + 1))) = some r := by first | (rw [hy247]; with_reducible exact H) | (have H2_ := (Option.bind_some _ _).symm.trans H; rw [hy247]; with_reducible exact H2_) | (have H2_ := (Option.bind_some _ _).symm.trans H; with_reducible exact H2_) | with_reducible exact H | (rw [hy247]; exact H) | exact H
     have Ny247 := Aside0.mk hy247; clear hy247; have H' := Aside0.mk H; clear H; try go_wp2
     have n0_ := Aside0.mk (Kd.R_drew HO_5.out); have n1_ := Aside0.mk (below_drew1 HB.out); clear HO_5; clear HB; revert n0_ n1_; intro HO_5 HB; have p245 : 0 ≤ (x17_1 : Int) := od_; have q245 : x17_1 < (x5_1.length : Int) := od_; obtain ⟨ad245, e245, hx245_0⟩ := Kd.at_int (Kd.R_reads' HO_5.out).2.2 x17_1 p245 q245; cases e245; replace p245 := eq_true p245; replace q245 := eq_true q245; have p246 : 0 ≤ (x17_1 : Int) := od_; have q246 : x17_1 < (l1.length : Int) := od_; obtain ⟨ad246, e246, hx246_0⟩ := Kd.at_int HR1.out x17_1 p246 q246; have hw246_0 := hx246_0; cases e246; replace hx246_0 := (HB.out.cell (World.block_lt_of_cell? w _ hx246_0)).trans hx246_0; replace p246 := eq_true p246; replace q246 := eq_true q246; have p14 : 0 ≤ (x17_1 : Int) := od_; have q14 : (x17_1 : Int) < ((x5_1.length : Int) : Int) := od_; obtain ⟨go14, co14, eo14, gb14, gl14, cl14, HG14⟩ := Kd.R_form HO_5.out (by omega); (first | cases eo14 | (injection eo14 with ea_ en_ ec_; (first | subst ea_ | (injection ea_ with ea_; subst ea_)); subst ec_; clear en_))
     have GB14 := Aside0.mk gb14; have GG14 := Aside0.mk HG14; clear gb14 gl14 HG14; (first | simp only [add_plain] at hx245_0 | skip)
     obtain ⟨hx14_0, hf14_0⟩ := Kd.R_celln 0 HO_5.out (x17_1 : Int) p14 q14; replace p14 := eq_true p14; replace q14 := eq_true q14; have HP16 := Kd.R_putn HO_5.out (x17_1 : Int) (Go.bits .and .u8 (rd x5_1 x17_1) (rd l1 x17_1)); rw [← Ny247.out] at HP16; have HQ16 := Aside0.mk HP16; clear HP16; refine start_ (n := 11) (S := fun w' => w'.cell? ⟨go14, (x17_1).toNat, none⟩ = some (.int .u8 (rd x5_1 x17_1)) ∧ w'.cell? (ad246.add (x17_1).toNat) = some (.int .u8 (rd l1 x17_1))) (ds := [10]) (mk_ 0 11) (by kernel_rfl) rfl rfl ⟨hx245_0, ((HB.out.cell (World.block_lt_of_cell? w _ hw246_0)).trans hw246_0)⟩ (fun hHeld => ?_); refine with_tabW mask_And.tab5 mask_And.bits5 (fun HT_ HW_ => ?_); generalize wr.drew = w15 at HO_5 HB GG14 HQ16 hf14_0 hx14_0 hx245_0 hx246_0 hHeld ⊢; refine pu_ 0 (some 20) (mk_ 1 11) HT_ ?_; refine pu_ 1 (some 21) (mk_ 2 11) HT_ ?_; refine pu_ 2 (some 22) (mk_ 3 11) HT_ ?_; refine pu_ 4 (some 24) (bm_ 11 23) HT_ ?_; refine pu_ 5 (some 25) (bm_ 11 55) HT_ ?_; refine pu_ 6 (some 26) (bm_ 11 119) HT_ ?_; refine take_ (i := 3) (N := some 23) (v := ?_) (a' := ?_) (mk_ 7 11) rfl rfl (take_ofW HT_.out HW_.out (by kernel_rfl)) (fun _ _ _ h => h) (Or.inl ⟨by rfl, ?_⟩) hHeld ?_ ?_; rotate_left
     ·
      rintro w' ⟨s0, s1⟩; go_simp
      with_reducible rfl
     rotate_left
     ·
      simp only [Act.put, setIfInBounds_toArray, set_cons_zero, set_cons_succ, i64_w, i32_w]; rfl
     refine take_ (i := 7) (N := some 27) (v := ?_) (a' := ?_) (mk_ 8 11) rfl rfl (take_ofW HT_.out HW_.out (by kernel_rfl)) (fun _ _ _ h => h) (Or.inl ⟨by rfl, ?_⟩) hHeld ?_ ?_; rotate_left
     ·
      rintro w' ⟨s0, s1⟩; go_simp
      with_reducible rfl
     rotate_left
     ·
      simp only [Act.put, setIfInBounds_toArray, set_cons_zero, set_cons_succ, i64_w, i32_w]; rfl
     refine pu_ 8 (some 28) (mk_ 9 11) HT_ ?_; refine pu_ 9 (some 29) (mk_ 10 11) HT_ ?_; refine last_ (i := 10) (N := none) (mk_ 11 11) rfl rfl (one_of HT_.out (by kernel_rfl)) (by decide) (fun K hK => ?_); refine skip_ (w1 := ?_) (by rfl) rfl ?_ ?_; rotate_left
     ·
      go_simp
      rfl
     refine hK.out _ _ ?_; clear hK K; refine done_ (done_of HT_.out (by kernel_rfl)) ?_; try go_wp2
     (try simp only [← hl5_1])
     go_roundg k1
     case measure => have := HK1.out; omega
     case rel => exact ⟨(y247), (wrap64 (x17_1 + 1)), rf_, H', ⟨by have := HK1.out; omega⟩, ⟨by (try simp only [hl5_1]); (with_reducible repeat (first | apply Kd.R_alloc | apply Kd.R_drewN | apply Kd.R_drew)); exact HQ16.out⟩, ⟨(hb1_ HB.out GB14.out)⟩⟩
    ·
     rw [if_neg c10] at H; have c10b0 : decide (x17_1 < (t242.length : Int)) = false := decide_eq_false c10; (try (have c10r0 := c10b0; simp only [hl5_1] at c10r0))
     clear c10; obtain rfl := Option.some.inj H; go_wp2
     go_ret
     exact ⟨_, by first | rfl | (simp [errW_none, errW_some] <;> rfl) | (simp only [← hji3]; first | rfl | (simp [errW_none, errW_some] <;> rfl)) | (simp [*, errW_none, errW_some] <;> rfl), by (with_reducible repeat (first | apply Kd.R_alloc | apply Kd.R_drewN | apply Kd.R_drew)); exact HO_5.out, (hb0_ HB.out)⟩
 ·
  rw [if_neg c4] at H; exact absurd H (by simp)

/-! ### sum_common: function 79 (by hand) -/
def sum_common.l0 : Nat → Int → List Int → Bool → List (S31) → Int → Int → Option (List Int)
 | 0, _, _, _, _, _, _ => none
 | k + 1, x1, x5, x6, x11, x12, x13 => if x13 < x12 then (if 0 ≤ x13 then (if x13 < (x11.length : Int) then (if ((rd_T31 x11 x13).f0) > 0 then ((Extend.f ((rd_T31 x11 x13).f2) x1).bind fun t144 => ((mask_And.f k x5 t144).bind fun t147 => (sum_common.l0 k x1 t147 true x11 x12 (wrap64 (x13 + 1))))) else (sum_common.l0 k x1 x5 x6 x11 x12 (wrap64 (x13 + 1)))) else (none)) else (none)) else (if x6 = true then (some x5) else (if 0 ≤ x1 then (if (x1 : Int).toNat ≤ 281474976710656 then (some (List.replicate (x1 : Int).toNat 0)) else (none)) else (none)))
def sum_common.f (k : Nat) (l0 : List (S31)) (a1 : Int) : Option (List Int) := (Extend.f ([] : List Int) a1).bind fun t136 => (sum_common.l0 k a1 t136 false l0 (l0.length : Int) 0)
theorem sum_common.mono_l : ∀ k, (∀ y0 y1 y2 y3 y4 y5, LeO (sum_common.l0 k y0 y1 y2 y3 y4 y5) (sum_common.l0 (k + 1) y0 y1 y2 y3 y4 y5))
 | 0 => fun _ _ _ _ _ _ r h => by simp [sum_common.l0] at h
 | k + 1 => by
  have ih0 := sum_common.mono_l k
  ·
   intro y0 y1 y2 y3 y4 y5; unfold sum_common.l0
   repeat' first
   | (with_reducible exact ih0 _ _ _ _ _ _)
   | (with_reducible exact mask_And.mono _ _ _)
   | (with_reducible exact LeO.refl _)
   | (with_reducible exact LeO.none _)
   | (with_reducible refine LeO.ite ?_ ?_)
   | (with_reducible refine LeO.bind ?_ (fun _ => ?_))
   | exact ih0 _ _ _ _ _ _
   | exact mask_And.mono _ _ _
   | exact LeO.none _
   | refine LeO.ite ?_ ?_
   | refine LeO.bind ?_ (fun _ => ?_)
theorem sum_common.mono : ∀ a0 a1 k, LeO (sum_common.f k a0 a1) (sum_common.f (k + 1) a0 a1) := by
 intro a0 a1 k; have ih0 := sum_common.mono_l k; unfold sum_common.f
 repeat' first
   | (with_reducible exact ih0 _ _ _ _ _ _)
   | (with_reducible exact mask_And.mono _ _ _)
   | (with_reducible exact LeO.refl _)
   | (with_reducible exact LeO.none _)
   | (with_reducible refine LeO.ite ?_ ?_)
   | (with_reducible refine LeO.bind ?_ (fun _ => ?_))
   | exact ih0 _ _ _ _ _ _
   | exact mask_And.mono _ _ _
   | exact LeO.none _
   | refine LeO.ite ?_ ?_
   | refine LeO.bind ?_ (fun _ => ?_)
set_option maxHeartbeats 8000000 in
set_option maxRecDepth 100000 in
theorem sum_common.calls (k : Nat) (A0 : Option Addr) (c0 : Nat) (l0 : List (S31)) (a1 : Int) (r : List Int) (w : World) (hr0 : Kd.C k31 w A0 l0.length l0) (hc0 : l0.length ≤ c0) (h : sum_common.f k l0 a1 = some r) :
  Calls Try.prog 79 #[.slice A0 l0.length c0, .int .i64 a1] w fun e w' => ∃ v0_ : Value, e = .returned (v0_) ∧ Kd.R (Kd.int .u8) 5 w' w.heap.size (fun _ => True) v0_ r ∧ Below w.heap.size w w' := by
 have hu31 := Try.underlying31; have HR0 := Aside0.mk hr0; have HC0 := Aside0.mk hc0; clear hr0 hc0; have HB := Aside0.mk (Below.refl w.heap.size w); have H : ((Extend.f ([] : List Int) a1).bind fun t136 => (sum_common.l0 k a1 t136 false l0 (l0.length : Int) 0)) = some r := h; clear h; replace H := Option.bind_eq_some_iff.mp H; obtain ⟨t136, A30, H⟩ := H; (try dsimp only at H); have A3 := Aside0.mk A30; clear A30; have H' := Aside0.mk H; clear H; go_enter Try.func79, Try.ntmps79
 go_wp2_with (first | ((with_reducible refine gate_callee (f := 46) rfl ?_); refine goesL_ (some 10) rfl rfl Try.func46 (by kernel_rfl) rfl #[.slice none 0 0, .int .i64 a1] rfl lm_ ?_; (refine (Extend.calls _ _ ([] : List Int) a1 t136 _ ?side1 ?side2 A3.out).mono ?_); (case side1 => exact Kd.C_nil _ _); (case side2 => exact Nat.le_refl _); rintro e w4 ⟨v137, rfl, ho0, hb⟩; refine ⟨_, rfl, ?_⟩; have n0_ := Aside0.mk (Kd.V_lower (Kd.V_mono (ok' := fun k_ => (w.heap.size ≤ k_)) ho0 (fun k_ hk_ => (Nat.le_trans (below_size (hb0_ HB.out)) hk_))) (below_size (hb0_ HB.out))); have n1_ := Aside0.mk (below_step (hb0_ HB.out) hb); clear HB; revert n0_ n1_; intro HO138 HB; (try clear hb); (try clear hb2); (try clear hk); (try clear hi); (try clear ho0)))
 go_loopg [5, 6, 13] k (fun kq v5 v6 v13 w' => ∃ (x5_1 : List Int) (x6_1 : Bool) (x13_1 : Int), v6 = .bool x6_1 ∧ v13 = .int .i64 x13_1 ∧ Aside0 (sum_common.l0 kq a1 x5_1 x6_1 l0 (l0.length : Int) x13_1 = some r) ∧ Aside0 (kq ≤ k) ∧ Aside0 (Kd.V (Kd.int .u8) 5 w' w.heap.size (fun k_ => (w.heap.size ≤ k_)) v5 x5_1) ∧ Aside0 (Below w.heap.size w w') ∧ Aside0 (x6_1 = true → Kd.R (Kd.int .u8) 5 w' w.heap.size (fun _ => True) v5 x5_1))
 case atStart => exact ⟨(t136), (false), (0), rf_, rf_, H', ⟨Nat.le_refl _⟩, ⟨by (with_reducible repeat (first | apply Kd.V_alloc | apply Kd.V_drewN | apply Kd.V_drew)); exact HO138.out⟩, ⟨(hb0_ HB.out)⟩, ⟨fun h_ => by cases h_⟩⟩
 case round =>
  clear H'; try clear p2
  try clear c4
  obtain ⟨x5_1, x6_1, x13_1, rfl, rfl, HA, HK1, HO_5, HB, HS_5⟩ := hrel; cases gk with
  | zero => exact absurd HA.out (by simp [sum_common.l0])
  | succ k1 =>
   have H := HA.out; clear HA; simp only [sum_common.l0] at H; by_cases c5 : x13_1 < (l0.length : Int)
   ·
    rw [if_pos c5] at H; have c5b0 : decide (x13_1 < (l0.length : Int)) = true := decide_eq_true c5; clear c5; by_cases c6 : 0 ≤ x13_1
    rotate_left
    ·
     rw [if_neg c6] at H; exact absurd H (by simp)
    rw [if_pos c6] at H; have c6b0 : decide (0 ≤ x13_1) = true := decide_eq_true c6; clear c6; by_cases c7 : x13_1 < (l0.length : Int)
    rotate_left
    ·
     rw [if_neg c7] at H; exact absurd H (by simp)
    rw [if_pos c7] at H; have c7b0 : decide (x13_1 < (l0.length : Int)) = true := decide_eq_true c7; clear c7; by_cases c8 : ((rd_T31 l0 x13_1).f0) > 0
    ·
     rw [if_pos c8] at H; have c8b0 : decide (0 < ((rd_T31 l0 x13_1).f0)) = true := decide_eq_true c8; clear c8; replace H := Option.bind_eq_some_iff.mp H; obtain ⟨t144, A90, H⟩ := H; (try dsimp only at H); have A9 := Aside0.mk A90; clear A90; replace H := Option.bind_eq_some_iff.mp H; obtain ⟨t147, A100, H⟩ := H; (try dsimp only at H); have A10 := Aside0.mk A100; clear A100; have H' := Aside0.mk H; clear H; have p142 : 0 ≤ (x13_1 : Int) := od_; have q142 : x13_1 < (l0.length : Int) := od_; obtain ⟨ad142, A142_2, c142_2, A142_3, c142_3, A142_4, c142_4, A142_5, c142_5, A142_6, c142_6, e142, hx142_0, hx142_1, hx142_2, hx142_3, hx142_4, hx142_5, hx142_6, hx142_7, hl142_2, hi142_2, hl142_3, hi142_3, hl142_4, hi142_4, hl142_5, hi142_5, hl142_6, hi142_6⟩ := at_T31 HR0.out x13_1 p142 q142; cases e142; replace hx142_0 := (HB.out.cell (World.block_lt_of_cell? w _ hx142_0)).trans hx142_0; replace hx142_1 := (HB.out.cell (World.block_lt_of_cell? w _ hx142_1)).trans hx142_1; replace hx142_2 := (HB.out.cell (World.block_lt_of_cell? w _ hx142_2)).trans hx142_2; replace hx142_3 := (HB.out.cell (World.block_lt_of_cell? w _ hx142_3)).trans hx142_3; replace hx142_4 := (HB.out.cell (World.block_lt_of_cell? w _ hx142_4)).trans hx142_4; replace hx142_5 := (HB.out.cell (World.block_lt_of_cell? w _ hx142_5)).trans hx142_5; replace hx142_6 := (HB.out.cell (World.block_lt_of_cell? w _ hx142_6)).trans hx142_6; replace hx142_7 := (HB.out.cell (World.block_lt_of_cell? w _ hx142_7)).trans hx142_7; have HR142_2 := Aside0.mk hi142_2; have HC142_2 := Aside0.mk hl142_2; clear hi142_2 hl142_2; have HR142_3 := Aside0.mk hi142_3; have HC142_3 := Aside0.mk hl142_3; clear hi142_3 hl142_3; have HR142_4 := Aside0.mk hi142_4; have HC142_4 := Aside0.mk hl142_4; clear hi142_4 hl142_4; have HR142_5 := Aside0.mk hi142_5; have HC142_5 := Aside0.mk hl142_5; clear hi142_5 hl142_5; have HR142_6 := Aside0.mk hi142_6; have HC142_6 := Aside0.mk hl142_6; clear hi142_6 hl142_6; replace p142 := eq_true p142; replace q142 := eq_true q142; go_wp2_with (first | ((with_reducible refine gate_dst (N := 8) rfl ?_); refine box_event ?hg (N := 8) ?hd (cs := #[.int .i64 0, .int .i64 0, .slice none 0 0, .slice none 0 0, .slice none 0 0, .slice none 0 0, .slice none 0 0, .bool false]) (t := 31) ?hr ?_; (case hd => rfl); (case hg => rfl); (case hr => first | (go_simp; done) | (go_simp; rfl)); intro gb143 hg w11 hbox hb; have n0_ := Aside0.mk (Kd.V_below (Kd.V_elderB (kV_ HO_5.out) gb143 (Nat.le_of_eq hg.symm)) hb); have n1_ := Aside0.mk (below_step (hb0_ HB.out) hb); have n2_ := Aside0.mk (hbox); have n3_ := Aside0.mk ((by rw [hg]; exact (below_size (hb0_ HB.out)) : w.heap.size ≤ gb143)); have n4_ := Aside0.mk ((by rw [hg]; exact (below_size (hb0_ HB.out)) : w.heap.size ≤ gb143)); clear HO_5 HB; revert n0_ n1_ n2_ n3_ n4_; intro HO_5 HB BK143 GW143 GE143; clear hb hbox hg; obtain ⟨hcz12_0, hcz12_1, hcz12_2, hcz12_3, hcz12_4, hcz12_5, hcz12_6, hcz12_7, hfz12_0, hfz12_1, hfz12_2, hfz12_3, hfz12_4, hfz12_5, hfz12_6, hfz12_7⟩ := bx8_ BK143.out) | ((with_reducible refine gate_callee (f := 46) rfl ?_); refine goesL_ (some 24) rfl rfl Try.func46 (by kernel_rfl) rfl #[.slice A142_2 ((rd_T31 l0 x13_1).f2).length c142_2, .int .i64 a1] rfl lm_ ?_; (with_reducible refine (Extend.calls _ _ ((rd_T31 l0 x13_1).f2) a1 t144 _ ?side1 ?side2 A9.out).mono ?_); (case side1 => exact Kd.C_below HR142_2.out (hb1_ HB.out GE143.out)); (case side2 => exact HC142_2.out); rintro e w13 ⟨v145, rfl, ho0, hb⟩; refine ⟨_, rfl, ?_⟩; have n0_ := Aside0.mk (Kd.V_below (by (with_reducible repeat (first | apply Kd.V_alloc | apply Kd.V_drewN | apply Kd.V_drew)); exact (Kd.V_mono (far8V_ (Kd.V_mono HO_5.out (fun k_ hk => (⟨hk, hk.2⟩ : _ ∧ k_ ≠ gb143))) _ _ _ _ _ _ _ _ fun _ hk => hk.2) (fun _ h_ => h_.1))) hb); have n1_ := Aside0.mk (Kd.V_lower (Kd.V_mono (ok' := fun k_ => (w.heap.size ≤ k_) ∧ k_ ≠ gb143) ho0 (fun k_ hk_ => ⟨(Nat.le_trans (below_size (hb1_ HB.out GE143.out)) hk_), (Kd.freshB (g := gb143) (o := .cells #[.int .i64 ((rd_T31 l0 x13_1).f0), .int .i64 ((rd_T31 l0 x13_1).f1), .slice A142_2 ((rd_T31 l0 x13_1).f2).length c142_2, .slice A142_3 ((rd_T31 l0 x13_1).f3).length c142_3, .slice A142_4 ((rd_T31 l0 x13_1).f4).length c142_4, .slice A142_5 ((rd_T31 l0 x13_1).f5).length c142_5, .slice A142_6 ((rd_T31 l0 x13_1).f6).length c142_6, .bool ((rd_T31 l0 x13_1).f7)] 31 (0, 0)) ((p8_ BK143.out)) k_ hk_)⟩)) (below_size (hb1_ HB.out GE143.out))); have n2_ := Aside0.mk (blk_below (g := gb143) (o := .cells #[.int .i64 ((rd_T31 l0 x13_1).f0), .int .i64 ((rd_T31 l0 x13_1).f1), .slice A142_2 ((rd_T31 l0 x13_1).f2).length c142_2, .slice A142_3 ((rd_T31 l0 x13_1).f3).length c142_3, .slice A142_4 ((rd_T31 l0 x13_1).f4).length c142_4, .slice A142_5 ((rd_T31 l0 x13_1).f5).length c142_5, .slice A142_6 ((rd_T31 l0 x13_1).f6).length c142_6, .bool ((rd_T31 l0 x13_1).f7)] 31 (0, 0)) ((p8_ BK143.out)) hb); have n3_ := Aside0.mk (below_step (hb1_ HB.out GE143.out) hb); clear HO_5 BK143 HB; revert n0_ n1_ n2_ n3_; intro HO_5 HO146 BK143 HB; (try clear hb); (try clear hb2); (try clear hk); (try clear hi); (try clear ho0); obtain ⟨Ao14, co14, eo14⟩ := Kd.V_slice HO_5.out; subst eo14; obtain ⟨Ao15, co15, eo15⟩ := Kd.V_slice HO146.out; subst eo15) | ((with_reducible refine gate_callee (f := 50) rfl ?_); refine goesL_ (some 25) rfl rfl Try.func50 (by kernel_rfl) rfl #[.slice Ao14 x5_1.length co14, .slice Ao15 t144.length co15] rfl lm_ ?_; (with_reducible refine (mask_And.calls k1 _ _ x5_1 _ _ t144 t147 _ ?side1 ?side2 ?side3 ?side4 A10.out).mono ?_); (case side1 => exact kD_ (Kd.V_reads' HO_5.out).2.2); (case side2 => exact (Kd.V_reads' HO_5.out).2.1); (case side3 => exact kD_ (Kd.V_reads' HO146.out).2.2); (case side4 => exact (Kd.V_reads' HO146.out).2.1); rintro e w16 ⟨v148, rfl, ho0, hb⟩; refine ⟨_, rfl, ?_⟩; have n0_ := Aside0.mk (Kd.V_elder' (kV_ HO_5.out) (Kd.R_base ho0) hb); have n1_ := Aside0.mk (Kd.V_elder' (kV_ HO146.out) (Kd.R_base ho0) hb); have n2_ := Aside0.mk (Kd.R_lower (Kd.R_newM (M := fun k_ => (w.heap.size ≤ k_)) ho0 (below_size (hb1_ HB.out GE143.out)) (fun k_ h_ => h_)) (below_size (hb1_ HB.out GE143.out))); have n3_ := Aside0.mk (bb_ BK143.out hb); have n4_ := Aside0.mk (below_step (hb1_ HB.out GE143.out) hb); clear HO_5 HO146 BK143 HB; revert n0_ n1_ n2_ n3_ n4_; intro HO_5 HO146 HO149 BK143 HB; (try clear hb); (try clear hb2); (try clear hk); (try clear hi); (try clear ho0)))
     go_roundg k1
     case measure => have := HK1.out; omega
     case rel => exact ⟨(t147), (true), (wrap64 (x13_1 + 1)), rf_, rf_, H', ⟨by have := HK1.out; omega⟩, ⟨Kd.R_V (by (with_reducible repeat (first | apply Kd.R_alloc | apply Kd.R_drewN | apply Kd.R_drew)); exact Kd.R_mono HO149.out (fun _ hk => hk.1))⟩, ⟨(hb1_ HB.out GE143.out)⟩, ⟨fun _ => by (with_reducible repeat (first | apply Kd.R_alloc | apply Kd.R_drewN | apply Kd.R_drew)); exact Kd.R_mono HO149.out (fun _ _ => trivial)⟩⟩
    ·
     rw [if_neg c8] at H; have c8b0 : decide (0 < ((rd_T31 l0 x13_1).f0)) = false := decide_eq_false c8; clear c8; have H' := Aside0.mk H; clear H; have p142 : 0 ≤ (x13_1 : Int) := od_; have q142 : x13_1 < (l0.length : Int) := od_; obtain ⟨ad142, A142_2, c142_2, A142_3, c142_3, A142_4, c142_4, A142_5, c142_5, A142_6, c142_6, e142, hx142_0, hx142_1, hx142_2, hx142_3, hx142_4, hx142_5, hx142_6, hx142_7, hl142_2, hi142_2, hl142_3, hi142_3, hl142_4, hi142_4, hl142_5, hi142_5, hl142_6, hi142_6⟩ := at_T31 HR0.out x13_1 p142 q142; cases e142; replace hx142_0 := (HB.out.cell (World.block_lt_of_cell? w _ hx142_0)).trans hx142_0; replace hx142_1 := (HB.out.cell (World.block_lt_of_cell? w _ hx142_1)).trans hx142_1; replace hx142_2 := (HB.out.cell (World.block_lt_of_cell? w _ hx142_2)).trans hx142_2; replace hx142_3 := (HB.out.cell (World.block_lt_of_cell? w _ hx142_3)).trans hx142_3; replace hx142_4 := (HB.out.cell (World.block_lt_of_cell? w _ hx142_4)).trans hx142_4; replace hx142_5 := (HB.out.cell (World.block_lt_of_cell? w _ hx142_5)).trans hx142_5; replace hx142_6 := (HB.out.cell (World.block_lt_of_cell? w _ hx142_6)).trans hx142_6; replace hx142_7 := (HB.out.cell (World.block_lt_of_cell? w _ hx142_7)).trans hx142_7; have HR142_2 := Aside0.mk hi142_2; have HC142_2 := Aside0.mk hl142_2; clear hi142_2 hl142_2; have HR142_3 := Aside0.mk hi142_3; have HC142_3 := Aside0.mk hl142_3; clear hi142_3 hl142_3; have HR142_4 := Aside0.mk hi142_4; have HC142_4 := Aside0.mk hl142_4; clear hi142_4 hl142_4; have HR142_5 := Aside0.mk hi142_5; have HC142_5 := Aside0.mk hl142_5; clear hi142_5 hl142_5; have HR142_6 := Aside0.mk hi142_6; have HC142_6 := Aside0.mk hl142_6; clear hi142_6 hl142_6; replace p142 := eq_true p142; replace q142 := eq_true q142; go_wp2_with (first | ((with_reducible refine gate_dst (N := 8) rfl ?_); refine box_event ?hg (N := 8) ?hd (cs := #[.int .i64 0, .int .i64 0, .slice none 0 0, .slice none 0 0, .slice none 0 0, .slice none 0 0, .slice none 0 0, .bool false]) (t := 31) ?hr ?_; (case hd => rfl); (case hg => rfl); (case hr => first | (go_simp; done) | (go_simp; rfl)); intro gb143 hg w17 hbox hb; have HS9 := Aside0.mk (fun h_ : x6_1 = true => Kd.R_below (kR_ (HS_5.out h_)) hb); have n0_ := Aside0.mk (Kd.V_below (Kd.V_elderB (kV_ HO_5.out) gb143 (Nat.le_of_eq hg.symm)) hb); have n1_ := Aside0.mk (below_step (hb0_ HB.out) hb); have n2_ := Aside0.mk (hbox); have n3_ := Aside0.mk ((by rw [hg]; exact (below_size (hb0_ HB.out)) : w.heap.size ≤ gb143)); have n4_ := Aside0.mk ((by rw [hg]; exact (below_size (hb0_ HB.out)) : w.heap.size ≤ gb143)); clear HO_5 HB; revert n0_ n1_ n2_ n3_ n4_; intro HO_5 HB BK143 GW143 GE143; clear hb hbox hg; obtain ⟨hcz18_0, hcz18_1, hcz18_2, hcz18_3, hcz18_4, hcz18_5, hcz18_6, hcz18_7, hfz18_0, hfz18_1, hfz18_2, hfz18_3, hfz18_4, hfz18_5, hfz18_6, hfz18_7⟩ := bx8_ BK143.out))
     go_roundg k1
     case measure => have := HK1.out; omega
     case rel => exact ⟨(x5_1), (x6_1), (wrap64 (x13_1 + 1)), rf_, rf_, H', ⟨by have := HK1.out; omega⟩, ⟨by (with_reducible repeat (first | apply Kd.V_alloc | apply Kd.V_drewN | apply Kd.V_drew)); exact Kd.V_mono (far8V_ (Kd.V_mono HO_5.out (fun k_ hk => (⟨hk, hk.2⟩ : _ ∧ k_ ≠ gb143))) _ _ _ _ _ _ _ _ fun _ hk => hk.2) (fun _ hk => hk.1.1)⟩, ⟨(hb1_ HB.out GE143.out)⟩, ⟨fun h_ => by (with_reducible repeat (first | apply Kd.R_alloc | apply Kd.R_drewN | apply Kd.R_drew)); exact Kd.R_mono (far8R_ (Kd.R_mono (Kd.R_types (HS9.out h_) BK143.out (by decide)) (fun k_ hk => (⟨hk, hk.2⟩ : _ ∧ k_ ≠ gb143))) _ _ _ _ _ _ _ _ fun _ hk => hk.2) (fun _ _ => trivial)⟩⟩
   ·
    rw [if_neg c5] at H; have c5b0 : decide (x13_1 < (l0.length : Int)) = false := decide_eq_false c5; clear c5; by_cases c19 : x6_1 = true
    ·
     subst c19; have H1 : (some x5_1) = some r := by rw [if_pos rfl] at H; exact H
     clear H; have H := H1; clear H1; obtain rfl := Option.some.inj H; go_wp2
     go_ret
     exact ⟨_, by first | rfl | (simp [errW_none, errW_some] <;> rfl) | (simp [*, errW_none, errW_some] <;> rfl), by (with_reducible repeat (first | apply Kd.R_alloc | apply Kd.R_drewN | apply Kd.R_drew)); first | exact HS_5.out rfl | exact HS_5.out trivial, (hb0_ HB.out)⟩
    ·
     replace c19 := Bool.eq_false_iff.mpr c19; subst c19; have H1 : (if 0 ≤ a1 then (if (a1 : Int).toNat ≤ 281474976710656 then (some (List.replicate (a1 : Int).toNat 0)) else (none)) else (none)) = some r := by rw [if_neg (show ¬ (false = true) by decide)] at H; exact H
     clear H; have H := H1; clear H1; by_cases c20 : 0 ≤ a1
     ·
      rw [if_pos c20] at H; have c20b0 := eq_true c20; have c20b1 : decide (0 ≤ a1) = true := decide_eq_true c20; clear c20; by_cases c21 : (a1 : Int).toNat ≤ 281474976710656
      rotate_left
      ·
       rw [if_neg c21] at H; exact absurd H (by simp)
      rw [if_pos c21] at H; have c21b0 := eq_true c21; have c21b1 : decide ((a1 : Int).toNat ≤ 281474976710656) = true := decide_eq_true c21; clear c21; obtain ⟨y139, hy139⟩ : ∃ y_ : List Int, y_ = (List.replicate (a1 : Int).toNat 0) := ⟨_, rfl⟩; replace H : (some y139) = some r := by first | (rw [hy139]; with_reducible exact H) | (have H2_ := (Option.bind_some _ _).symm.trans H; rw [hy139]; with_reducible exact H2_) | (have H2_ := (Option.bind_some _ _).symm.trans H; with_reducible exact H2_) | with_reducible exact H | (rw [hy139]; exact H) | exact H
      have Ny139 := Aside0.mk hy139; clear hy139; obtain rfl := Option.some.inj H; go_wp2_with (first | ((with_reducible refine gate_dst (N := 30) rfl ?_); refine Kd.R_make (Kd.int .u8) _ 5 rfl (N := 30) rfl 27 _ _ rfl a1 rfl rfl Try.underlying27 (.int .u8 0) 1 info5 rfl (by decide) (by omega) 0 (ok := fun _ => True) (okp := fun _ => True) rfl (fun _ hk => hk) trivial od_ (Nat.le_trans (Nat.mul_le_mul_right _ (od_ : a1.toNat ≤ 281474976710656)) (by omega)) (Below.refl _ _) (Nat.le_refl _) ?_; intro v140 w22 ho23 hb hg_ hnew_; clear hg_ hnew_; (first | rw [← Ny139.out] at ho23 | (simp only [Int.reduceToNat] at ho23; rw [← Ny139.out] at ho23)); have n0_ := Aside0.mk (Kd.V_elder' (kV_ HO_5.out) (Kd.R_base ho23) hb); have n1_ := Aside0.mk (Kd.R_lower (Kd.R_newM (M := fun k_ => (w.heap.size ≤ k_)) ho23 (below_size (hb0_ HB.out)) (fun k_ h_ => h_)) (below_size (hb0_ HB.out))); have n2_ := Aside0.mk (below_step (hb0_ HB.out) hb); clear HO_5 HB; revert n0_ n1_ n2_; intro HO_5 HO141 HB; clear hb ho23))
      go_ret
      exact ⟨_, by first | rfl | (simp [errW_none, errW_some] <;> rfl) | (simp [*, errW_none, errW_some] <;> rfl), (by (with_reducible repeat (first | apply Kd.R_alloc | apply Kd.R_drewN | apply Kd.R_drew)); exact Kd.R_mono HO141.out (fun _ _ => trivial)), (hb0_ HB.out)⟩
     ·
      rw [if_neg c20] at H; exact absurd H (by simp)

-- NOT PRINTED: function 36 (sum_Lay)

end Go.Proofs.Ytpcephbhnbfcmaa.I
