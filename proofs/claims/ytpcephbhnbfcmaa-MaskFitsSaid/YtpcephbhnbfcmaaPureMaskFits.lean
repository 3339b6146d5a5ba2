/- The plain law of MaskFits: what the printed functions compute answers true, for all inputs within the lengths that the row allows. -/
import Derived.Test.YtpcephbhnbfcmaaDP
namespace Go.Proofs.Ytpcephbhnbfcmaa.Pure
open Go.RowKit Go.Proofs.Ytpcephbhnbfcmaa.D Go.Proofs.YtpcephbhnbfcmaaW.PrintWords Go.Proofs.YtpcephbhnbfcmaaW.PrintLast
theorem MaskFits : D.libevolutionlaw15_MaskFits.Pure := D.MaskFits_pure
end Go.Proofs.Ytpcephbhnbfcmaa.Pure
