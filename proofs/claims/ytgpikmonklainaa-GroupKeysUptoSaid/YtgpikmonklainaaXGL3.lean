/- group: the law of parts. No condition. -/
import Derived.Test.YtgpikmonklainaaXGL3a
set_option maxRecDepth 20000
namespace Go.Proofs.Ytgpikmonklainaa
open Go Go.Vc
open Go.Vl Go.Od
end Go.Proofs.Ytgpikmonklainaa
