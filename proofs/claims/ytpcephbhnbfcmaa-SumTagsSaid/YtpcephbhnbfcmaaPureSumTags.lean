/- The plain law of SumTags: what the printed functions compute answers true, for all inputs within the lengths that the row allows. -/
import Derived.Test.YtpcephbhnbfcmaaCP
namespace Go.Proofs.Ytpcephbhnbfcmaa.Pure
open Go.RowKit Go.Proofs.Ytpcephbhnbfcmaa.C Go.Proofs.YtpcephbhnbfcmaaW.PrintWords Go.Proofs.YtpcephbhnbfcmaaW.PrintLast
theorem SumTags : C.law17_SumTags.Pure := C.SumTags_pure
end Go.Proofs.Ytpcephbhnbfcmaa.Pure
