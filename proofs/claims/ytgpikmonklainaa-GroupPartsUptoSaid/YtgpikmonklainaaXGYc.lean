/- The document on groups: Rows. No condition. -/
import Derived.Test.YtgpikmonklainaaXGYb
set_option maxRecDepth 20000
namespace Go.Proofs.Ytgpikmonklainaa
open Go Go.Vc
open Go.Vl Go.Od
end Go.Proofs.Ytgpikmonklainaa
