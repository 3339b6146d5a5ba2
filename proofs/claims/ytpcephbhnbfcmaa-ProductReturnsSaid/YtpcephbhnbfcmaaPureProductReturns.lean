/- The plain law of ProductReturns: what the printed functions compute answers true, for all inputs within the lengths that the row allows. -/
import Derived.Test.YtpcephbhnbfcmaaRP
namespace Go.Proofs.Ytpcephbhnbfcmaa.Pure
open Go.RowKit Go.Proofs.Ytpcephbhnbfcmaa.R Go.Proofs.YtpcephbhnbfcmaaW.PrintWords Go.Proofs.YtpcephbhnbfcmaaW.PrintLast
theorem ProductReturns : R.law16_ProductReturns.Pure := R.ProductReturns_pure
end Go.Proofs.Ytpcephbhnbfcmaa.Pure
