/- The given program draws mixed orders; no condition. -/
import Derived.Test.YtglilmcfhkedbaaProg
import Derived.Test.YtglilmcfhkedbaaRd
namespace Go.Proofs.Ytglilmcfhkedbaa
open Go Go.RowKit
theorem hmix : Try.prog.follows .mixedOrders = true := by kernel_rfl
end Go.Proofs.Ytglilmcfhkedbaa
