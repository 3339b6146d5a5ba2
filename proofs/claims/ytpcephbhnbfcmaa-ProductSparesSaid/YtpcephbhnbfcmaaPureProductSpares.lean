/- The plain law of ProductSpares: what the printed functions compute answers true, for all inputs within the lengths that the row allows. -/
import Derived.Test.YtpcephbhnbfcmaaEP
namespace Go.Proofs.Ytpcephbhnbfcmaa.Pure
open Go.RowKit Go.Proofs.Ytpcephbhnbfcmaa.E Go.Proofs.YtpcephbhnbfcmaaW.PrintWords Go.Proofs.YtpcephbhnbfcmaaW.PrintLast
theorem ProductSpares : E.law16_ProductSpares.Pure := E.ProductSpares_pure
end Go.Proofs.Ytpcephbhnbfcmaa.Pure
