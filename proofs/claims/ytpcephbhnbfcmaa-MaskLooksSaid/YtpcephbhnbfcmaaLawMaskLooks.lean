/- The row MaskLooks: proved over the printed functions and the plain law, for every value that the row's types allow. -/
import Derived.Test.YtpcephbhnbfcmaaRows
import Derived.Test.YtpcephbhnbfcmaaPureMaskLooks
import Derived.Test.YtpcephbhnbfcmaaMO
import Derived.WalkKit
import Derived.ProofKit
import Derived.OpenShut
import Derived.ShutString
import Derived.ChangeOld
import Derived.Below
import Derived.SizedLaws
namespace Go.Proofs.Ytpcephbhnbfcmaa.maskLooks
open Go.ChangeShapes Go.WideShapes Go.ChangeAt Go.RowKit
open Go.ChangeMaps (open_string shut_string)
open Go.Proofs.YtpcephbhnbfcmaaW.PrintWords
set_option linter.unusedVariables false
theorem own : ownKnob Try.prog.godebug = none := by kernel_rfl
theorem laidOut : laidOutB Try.prog = true := by kernel_rfl
set_option maxRecDepth 100000 in
theorem lifted (os : Os) (started : os.Started) (H : Type) (enc : TypeId × Value → H) :
    ReturnsInHanded {} Try.checked os 11 .any (Rows.maskLooksSpec.pre6 enc Try.prog Try.f11 Rows.maskLooksRow.domain false) (Rows.maskLooksSpec.post enc Try.prog Try.f11 false true false false) := by
  refine returnsInHanded_of_change_sized (C := Try.checked) own started (by kernel_rfl) Try.func11
    (ChangeSpec.witness6 (enc := enc) (C := Try.checked) false ⟨#[], #[.slice none 0 0, .slice none 0 0, .slice none 0 0, .int .i64 0, .int .i64 0, .agg #[.int .i64 0, .int .i64 0, .slice none 0 0, .slice none 0 0, .slice none 0 0, .slice none 0 0, .slice none 0 0, .bool false]], []⟩ 8 (by kernel_rfl) (by kernel_rfl) (by kernel_rfl) (by kernel_rfl)) ?_
  intro W base args ds gs before hval0 hW hcnd hsz0 _
  have hval : ∀ (j : Nat) t v, Try.f11.params[j]? = some t → args[j]? = some v → Value.okWide Try.prog W .any base t v := hval0
  have hW' := hW
  obtain ⟨p, q, hA0, hV, rfl, hfz, hnd⟩ := hW
  have hA : DataW.TrodAll enc Try.prog W 0 (fun _ => true) true Try.f11.params.toList args.toList ds p := hA0
  rw [Try.params11] at hA hval
  obtain ⟨v0, vs0, d0, ds0, p0, q0, hargs, rfl, rfl, h0, r0⟩ := trodAll_cons hA
  obtain ⟨v1, vs1, d1, ds1, p1, q1, rfl, rfl, rfl, h1, r1⟩ := trodAll_cons r0
  obtain ⟨v2, vs2, d2, ds2, p2, q2, rfl, rfl, rfl, h2, r2⟩ := trodAll_cons r1
  obtain ⟨v3, vs3, d3, ds3, p3, q3, rfl, rfl, rfl, h3, r3⟩ := trodAll_cons r2
  obtain ⟨v4, vs4, d4, ds4, p4, q4, rfl, rfl, rfl, h4, r4⟩ := trodAll_cons r3
  obtain ⟨v5, vs5, d5, ds5, p5, q5, rfl, rfl, rfl, h5, r5⟩ := trodAll_cons r4
  obtain ⟨rfl, rfl, rfl⟩ := trodAll_nil r5
  obtain rfl : args = #[v0, v1, v2, v3, v4, v5] := by cases args; simp_all
  obtain ⟨rfl, rfl⟩ := trodVars_none hV
  obtain ⟨a0, len0, cap0, rfl⟩ := okWide_slice Try.underlying27 (hval 0 27 v0 rfl rfl)
  have k0 := h0
  have lt0 : ∀ x ∈ p0, x.block < W.heap.size := by obtain ⟨m, hm⟩ := k0; exact DataW.trod_lt m _ _ _ hm
  obtain ⟨fuel0, hf0⟩ := h0
  obtain ⟨A0, c0, l0, e0, hl0, hC0, hw0⟩ := M.open_nums Try.underlying27 Try.underlying5 (by kernel_rfl) hf0
  simp only [Value.cells, List.cons.injEq, Value.slice.injEq, and_true] at e0
  obtain ⟨rfl, rfl, rfl⟩ := e0
  obtain ⟨a1, len1, cap1, rfl⟩ := okWide_slice Try.underlying27 (hval 1 27 v1 rfl rfl)
  have k1 := h1
  have lt1 : ∀ x ∈ p1, x.block < W.heap.size := by obtain ⟨m, hm⟩ := k1; exact DataW.trod_lt m _ _ _ hm
  obtain ⟨fuel1, hf1⟩ := h1
  obtain ⟨A1, c1, l1, e1, hl1, hC1, hw1⟩ := M.open_nums Try.underlying27 Try.underlying5 (by kernel_rfl) hf1
  simp only [Value.cells, List.cons.injEq, Value.slice.injEq, and_true] at e1
  obtain ⟨rfl, rfl, rfl⟩ := e1
  obtain ⟨a2, len2, cap2, rfl⟩ := okWide_slice Try.underlying23 (hval 2 23 v2 rfl rfl)
  have k2 := h2
  have lt2 : ∀ x ∈ p2, x.block < W.heap.size := by obtain ⟨m, hm⟩ := k2; exact DataW.trod_lt m _ _ _ hm
  obtain ⟨fuel2, hf2⟩ := h2
  obtain ⟨A2, c2, l2, e2, hl2, hC2, hw2⟩ := M.open_nums Try.underlying23 Try.underlying3 (by kernel_rfl) hf2
  simp only [Value.cells, List.cons.injEq, Value.slice.injEq, and_true] at e2
  obtain ⟨rfl, rfl, rfl⟩ := e2
  obtain ⟨a3, rfl, rfl, rfl, w3⟩ := open_int Try.underlying3 (hval 3 3 v3 rfl rfl) h3
  obtain ⟨a4, rfl, rfl, rfl, w4⟩ := open_int Try.underlying3 (hval 4 3 v4 rfl rfl) h4
  have k5 := h5
  have lt5 : ∀ x ∈ p5, x.block < W.heap.size := by obtain ⟨m, hm⟩ := k5; exact DataW.trod_lt m _ _ _ hm
  obtain ⟨cs5, rfl⟩ := M.okWide_agg Try.underlying31 (hval 5 31 v5 rfl rfl)
  obtain ⟨fuel5, hf5⟩ := h5
  obtain ⟨s5, b5, A5_2, c5_2, l5_2, A5_3, c5_3, l5_3, A5_4, c5_4, l5_4, A5_5, c5_5, l5_5, A5_6, c5_6, l5_6, f5, e5, C5_2, g5_2, C5_3, g5_3, C5_4, g5_4, C5_5, g5_5, C5_6, g5_6, w5_0, w5_1, w5_2, w5_3, w5_6⟩ := M.open31 _ _ _ hf5
  obtain rfl : cs5 = #[.int .i64 s5, .int .i64 b5, .slice A5_2 l5_2.length c5_2, .slice A5_3 l5_3.length c5_3, .slice A5_4 l5_4.length c5_4, .slice A5_5 l5_5.length c5_5, .slice A5_6 l5_6.length c5_6, .bool f5] := by apply Array.ext'; exact e5
  clear hA0 hval0 hsz0
  obtain ⟨k, h⟩ := Pure.MaskLooks l0 l1 l2 a3 a4 s5 b5 l5_2 l5_3 l5_4 l5_5 l5_6 f5 hw0 hw1 hw2
  refine (M.law15_MaskLooks.calls k a0 cap0 l0 a1 cap1 l1 (fun k_ => k_ < W.heap.size) a2 cap2 l2 a3 a4 s5 b5 A5_2 c5_2 l5_2 A5_3 c5_3 l5_3 A5_4 c5_4 l5_4 A5_5 c5_5 l5_5 A5_6 c5_6 l5_6 f5 true W hC0 hl0 hC1 hl1 (Kd.V_mk hl2 (Kd.C_F (Kd.heap_int _) hC2)) C5_2 g5_2 C5_3 g5_3 C5_4 g5_4 C5_5 g5_5 C5_6 g5_6 h rfl).mono fun e W' ⟨he, bel⟩ => ?_
  subst he
  exact ⟨_, rfl, _, _, _, [], _, [], hW', trodAll_mk1 (shut_bool Try.underlying4 _), (trodAll_cons_mk (Below.trod laidOut (by kernel_rfl) (of_decide_eq_true (by kernel_rfl)) k0 bel lt0) (trodAll_cons_mk (Below.trod laidOut (by kernel_rfl) (of_decide_eq_true (by kernel_rfl)) k1 bel lt1) (trodAll_cons_mk (Below.trod laidOut (by kernel_rfl) (of_decide_eq_true (by kernel_rfl)) k2 bel lt2) (trodAll_cons_mk (shut_int Try.underlying3 w3) (trodAll_cons_mk (shut_int Try.underlying3 w4) (trodAll_cons_mk (Below.trod laidOut (by kernel_rfl) (of_decide_eq_true (by kernel_rfl)) k5 bel lt5) trodAll_mk0)))))), rfl, bel.frame _, fun h => by cases h⟩
theorem over : Rows.maskLooksRow.holds Try.pinned (OpenSpec.ofChange Rows.maskLooksSpec) :=
  OpenClaim.holds_of_wide 11 Try.f11 rfl rfl rfl rfl rfl rfl rfl ⟨rfl, rfl, rfl, rfl, rfl⟩ rfl rfl rfl rfl rfl (by kernel_rfl) Try.func11 (by kernel_rfl)
    (of_decide_eq_true (by kernel_rfl)) (by unfold Func.isWrapper; first | (rw [if_pos (by decide +kernel)]; kernel_rfl) | (rw [if_neg (by decide +kernel)]; exact ⟨rfl, rfl⟩))
    (fun os started H enc _ => lifted os started H enc)
theorem proved : Rows.MaskLooksSaid := over
#print axioms proved
end Go.Proofs.Ytpcephbhnbfcmaa.maskLooks
namespace Go.Proofs.Ytpcephbhnbfcmaa
/-- The row, under a short name, for the claim. -/
theorem maskLooks_holds : Rows.MaskLooksSaid := maskLooks.proved
end Go.Proofs.Ytpcephbhnbfcmaa
