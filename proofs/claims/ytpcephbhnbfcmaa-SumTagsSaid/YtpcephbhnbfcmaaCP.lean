-- The plain law SumTags_pure: what the printed functions compute, with no program in sight.
import Derived.Test.YtpcephbhnbfcmaaC0
import Derived.Test.YtpcephbhnbfcmaaC1
import Derived.Test.YtpcephbhnbfcmaaC10
import Derived.Test.YtpcephbhnbfcmaaC11
import Derived.Test.YtpcephbhnbfcmaaC12
import Derived.Test.YtpcephbhnbfcmaaC2
import Derived.Test.YtpcephbhnbfcmaaC3
import Derived.Test.YtpcephbhnbfcmaaC4
import Derived.Test.YtpcephbhnbfcmaaC5
import Derived.Test.YtpcephbhnbfcmaaC6
import Derived.Test.YtpcephbhnbfcmaaC7
import Derived.Test.YtpcephbhnbfcmaaC8
import Derived.Test.YtpcephbhnbfcmaaC9
namespace Go.Proofs.Ytpcephbhnbfcmaa.C
open Go.RowKit Go.Proofs.YtpcephbhnbfcmaaW.PrintWords Go.Proofs.YtpcephbhnbfcmaaW.PrintLast Go.Proofs.YtpcephbhnbfcmaaW.PrintMore
set_option linter.unusedVariables false
set_option linter.unusedSimpArgs false
theorem tags_f (k : Nat) (a b : Int) (m : Int) (h : Int.tmod a 11 = m) (hm : Int.tmod m 11 = m) : law17_SumTags.f k a b = law17_SumTags.f k m b := by
  unfold law17_SumTags.f
  rw [h, hm]
theorem tags_all : ∀ m : Fin 11, ∀ b : Fin 256, law17_SumTags.f 60 (m.val : Int) (b.val : Int) = some true := by decide +kernel
theorem u8_wf {x : Int} (h : (Lit.int .u8 x).wf = true) : 0 ≤ x ∧ x < 256 := by
  simp only [Lit.wf, Bool.and_eq_true, decide_eq_true_eq] at h
  have e1 : IntKind.u8.min = 0 := by decide
  have e2 : IntKind.u8.max = 255 := by decide
  rw [e1, e2] at h
  omega
theorem SumTags_pure : law17_SumTags.Pure := by
  intro a b ha hb
  have h1 := u8_wf ha
  have h2 := u8_wf hb
  refine ⟨60, ?_⟩
  have e1 : Int.tmod a 11 = ((a.toNat % 11 : Nat) : Int) := by rw [Int.tmod_eq_emod_of_nonneg (by omega)]; omega
  rw [tags_f 60 a b _ e1 (by rw [Int.tmod_eq_emod_of_nonneg (by omega)]; omega)]
  have h := tags_all ⟨a.toNat % 11, Nat.mod_lt _ (by omega)⟩ ⟨b.toNat, by omega⟩
  rw [show ((b.toNat : Nat) : Int) = b by omega] at h
  exact h
end Go.Proofs.Ytpcephbhnbfcmaa.C
