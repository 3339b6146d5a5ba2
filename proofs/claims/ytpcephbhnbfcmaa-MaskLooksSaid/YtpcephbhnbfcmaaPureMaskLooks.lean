/- The plain law of MaskLooks: what the printed functions compute answers true, for all values that the row's types allow. -/
import Derived.Test.YtpcephbhnbfcmaaMP
namespace Go.Proofs.Ytpcephbhnbfcmaa.Pure
theorem MaskLooks : M.law15_MaskLooks.Pure := M.MaskLooks_pure
end Go.Proofs.Ytpcephbhnbfcmaa.Pure
