/- The plain law of ProductSingle: what the printed functions compute answers true, for all inputs within the lengths that the row allows. -/
import Derived.Test.YtpcephbhnbfcmaaFP
namespace Go.Proofs.Ytpcephbhnbfcmaa.Pure
open Go.RowKit Go.Proofs.Ytpcephbhnbfcmaa.F Go.Proofs.YtpcephbhnbfcmaaW.PrintWords Go.Proofs.YtpcephbhnbfcmaaW.PrintLast
theorem ProductSingle : F.law16_ProductSingle.Pure := F.ProductSingle_pure
end Go.Proofs.Ytpcephbhnbfcmaa.Pure
