-- The plain law SumNests_pure: what the printed functions compute, with no program in sight.
import Derived.Test.YtpcephbhnbfcmaaG0
import Derived.Test.YtpcephbhnbfcmaaG1
import Derived.Test.YtpcephbhnbfcmaaG10
import Derived.Test.YtpcephbhnbfcmaaG11
import Derived.Test.YtpcephbhnbfcmaaG12
import Derived.Test.YtpcephbhnbfcmaaG13
import Derived.Test.YtpcephbhnbfcmaaG2
import Derived.Test.YtpcephbhnbfcmaaG3
import Derived.Test.YtpcephbhnbfcmaaG4
import Derived.Test.YtpcephbhnbfcmaaG5
import Derived.Test.YtpcephbhnbfcmaaG6
import Derived.Test.YtpcephbhnbfcmaaG7
import Derived.Test.YtpcephbhnbfcmaaG8
import Derived.Test.YtpcephbhnbfcmaaG9
namespace Go.Proofs.Ytpcephbhnbfcmaa.G
open Go.RowKit Go.Proofs.YtpcephbhnbfcmaaW.PrintWords Go.Proofs.YtpcephbhnbfcmaaW.PrintLast Go.Proofs.YtpcephbhnbfcmaaW.PrintMore
set_option linter.unusedVariables false
set_option linter.unusedSimpArgs false
theorem u8_wf {x : Int} (h : (Lit.int .u8 x).wf = true) : 0 ≤ x ∧ x < 256 := by
  simp only [Lit.wf, Bool.and_eq_true, decide_eq_true_eq] at h
  have e1 : IntKind.u8.min = 0 := by decide
  have e2 : IntKind.u8.max = 255 := by decide
  rw [e1, e2] at h
  omega
theorem nests_f (k : Nat) (a : Int) (m : Int) (h : Int.tmod a 40 = m) (hm : Int.tmod m 40 = m) : law17_SumNests.f k a = law17_SumNests.f k m := by
  unfold law17_SumNests.f
  rw [h, hm]
theorem nests_all : ∀ m : Fin 40, law17_SumNests.f 400 (m.val : Int) = some true := by decide +kernel
theorem SumNests_pure : law17_SumNests.Pure := by
  intro a ha
  have h1 := u8_wf ha
  refine ⟨400, ?_⟩
  have e1 : Int.tmod a 40 = ((a.toNat % 40 : Nat) : Int) := by rw [Int.tmod_eq_emod_of_nonneg (by omega)]; omega
  rw [nests_f 400 a _ e1 (by rw [Int.tmod_eq_emod_of_nonneg (by omega)]; omega)]
  exact nests_all ⟨a.toNat % 40, Nat.mod_lt _ (by omega)⟩
end Go.Proofs.Ytpcephbhnbfcmaa.G
