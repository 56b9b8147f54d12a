/- group: the law of the whole. No condition. -/
import Derived.Test.YtgpikmonklainaaXGL1
set_option maxRecDepth 20000
namespace Go.Proofs.Ytgpikmonklainaa
open Go Go.Vc
open Go.Vl Go.Od
abbrev nul4 : List V3 := [v30, v30, v30, v30]
def kd4 : List Int := [20, 21, 22, 23]
def wK (k : Nat) : List (List V3) := List.replicate k []
def wA (k : Nat) : List (List V3) := List.replicate k nul4
def wR (k : Nat) (whole : Bool) : List (List V3) := if k == 0 && !whole then [] else [[nV 0, v30, v30, v30]]
theorem ddP_rep : ∀ k, ddP [] (List.replicate k []) = []
  | 0 => rfl
  | k + 1 => by
    rw [List.replicate_succ]
    show (if rowsC [] [] == 0 then ddP [] (List.replicate k []) else _) = _
    rw [rself, if_pos (by decide), ddP_rep k]
theorem keysD_w (k : Nat) (whole : Bool) : keysD (wK k) whole = if k == 0 && !whole then [] else [[]] := by
  unfold keysD wK
  have h1 : srt ltR (List.replicate k ([] : List V3)) = List.replicate k [] := List.perm_replicate.1 (srt_perm _)
  cases k with
  | zero => cases whole <;> rfl
  | succ k =>
    rw [h1, List.replicate_succ]
    show (if (whole && false) = true then _ else dd ([] :: List.replicate k [])) = _
    rw [Bool.and_false, if_neg (by decide)]
    show [] :: ddP [] (List.replicate k []) = _
    rw [ddP_rep]
    rfl
def wC (k : Nat) (ps : List RV) : List Value := ps.map RV.v ++ List.replicate (k - ps.length) (.slice none 0 0)
end Go.Proofs.Ytgpikmonklainaa
