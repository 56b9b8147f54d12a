/- group: the law of telling. No condition. -/
import Derived.Test.YtgpikmonklainaaXGZb
import Derived.Test.YtgpikmonklainaaXGAsk
set_option maxRecDepth 20000
namespace Go.Proofs.Ytgpikmonklainaa
open Go Go.Vc
open Go.Vl Go.Od
end Go.Proofs.Ytgpikmonklainaa
