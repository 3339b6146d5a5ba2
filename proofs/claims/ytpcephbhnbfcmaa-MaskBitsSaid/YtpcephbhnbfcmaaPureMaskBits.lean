/- The plain law of MaskBits: what the printed functions compute answers true, for all inputs within the lengths that the row allows. -/
import Derived.Test.YtpcephbhnbfcmaaAP
namespace Go.Proofs.Ytpcephbhnbfcmaa.Pure
open Go.RowKit Go.Proofs.Ytpcephbhnbfcmaa.A Go.Proofs.YtpcephbhnbfcmaaW.PrintWords Go.Proofs.YtpcephbhnbfcmaaW.PrintLast
theorem MaskBits : A.libevolutionlaw15_MaskBits.Pure := A.MaskBits_pure
end Go.Proofs.Ytpcephbhnbfcmaa.Pure
