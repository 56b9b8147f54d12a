/- slices.Clone of a row: new memory. No condition. -/
import Derived.Test.YtgpikmonklainaaXA
import Derived.Test.YtgpikmonklainaaXG5
set_option maxRecDepth 20000
namespace Go.Proofs.Ytgpikmonklainaa
open Go Go.Vc
open Go.Vl Go.Od
theorem v3_len (v : V3) : v.cells.length = 3 := rfl
theorem v3_one (x : V3) : ∀ u ∈ x.cells, u.oneCell' = true := fun u hu => by
  simp only [V3.cells, List.mem_cons, List.not_mem_nil, or_false] at hu
  rcases hu with rfl | rfl | rfl <;> rfl
end Go.Proofs.Ytgpikmonklainaa
