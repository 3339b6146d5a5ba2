/- The plain law of MaskNumbers: what the printed functions compute answers true, for all inputs within the lengths that the row allows. -/
import Derived.Test.YtpcephbhnbfcmaaBP
namespace Go.Proofs.Ytpcephbhnbfcmaa.Pure
open Go.RowKit Go.Proofs.Ytpcephbhnbfcmaa.B Go.Proofs.YtpcephbhnbfcmaaW.PrintWords Go.Proofs.YtpcephbhnbfcmaaW.PrintLast
theorem MaskNumbers : B.libevolutionlaw15_MaskNumbers.Pure := B.MaskNumbers_pure
end Go.Proofs.Ytpcephbhnbfcmaa.Pure
