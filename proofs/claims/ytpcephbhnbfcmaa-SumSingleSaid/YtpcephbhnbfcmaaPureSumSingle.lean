/- The plain law of SumSingle: what the printed functions compute answers true, for all inputs within the lengths that the row allows. -/
import Derived.Test.YtpcephbhnbfcmaaIP
namespace Go.Proofs.Ytpcephbhnbfcmaa.Pure
open Go.RowKit Go.Proofs.Ytpcephbhnbfcmaa.I Go.Proofs.YtpcephbhnbfcmaaW.PrintWords Go.Proofs.YtpcephbhnbfcmaaW.PrintLast
theorem SumSingle : I.law17_SumSingle.Pure := I.SumSingle_pure
end Go.Proofs.Ytpcephbhnbfcmaa.Pure
