/- The document on order: Top, nothing told as nil. No condition. -/
import Derived.Test.YtgpikmonklainaaXGYa
import Derived.Test.YtgpikmonklainaaXR5
set_option maxRecDepth 20000
namespace Go.Proofs.Ytgpikmonklainaa
open Go Go.Vc
open Go.Vl Go.Od
end Go.Proofs.Ytgpikmonklainaa
