/- When no more lives than the capacity, at most so many segments as the reserve are free and one is the head, some other segment is found. No conditions. -/
import Derived.Test.YtnbgljphdkfmpaaCChooserSpread
namespace Go.Proofs.Ytnbgljphdkfmpaa.Pure
theorem ChooserSpread : Go.Proofs.Ytnbgljphdkfmpaa.PChooserSpread.stopcocklaw12_ChooserSpread.Pure := Go.Proofs.Ytnbgljphdkfmpaa.CChooserSpread.pure
end Go.Proofs.Ytnbgljphdkfmpaa.Pure
