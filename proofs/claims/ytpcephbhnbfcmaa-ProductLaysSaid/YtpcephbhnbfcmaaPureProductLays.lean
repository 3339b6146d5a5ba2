/- The plain law of ProductLays: what the printed functions compute answers true, for all values that the row's types allow. -/
import Derived.Test.YtpcephbhnbfcmaaLP
namespace Go.Proofs.Ytpcephbhnbfcmaa.Pure
theorem ProductLays : L.law16_ProductLays.Pure := L.ProductLays_pure
end Go.Proofs.Ytpcephbhnbfcmaa.Pure
