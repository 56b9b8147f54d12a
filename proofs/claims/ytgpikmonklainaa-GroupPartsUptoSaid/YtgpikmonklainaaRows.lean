/-
  No cell of these rows narrows 'for every input' (looked for: loops, veiled, ifaces, maps, wideKeys, modest, calm, conditions, laid).
  DERIVED. THE GIVEN ROWS OF THIS SEAT. 7 by the template 'for every input the law returns true; each argument reads behind the call as it read before'; 0 by the template 'total and deterministic' (their statements: YtgpikmonklainaaTotals.lean).
  GIVEN WITH THE SEED: the statements are not yours to turn. If you find one false, say at which input.
  Laid BY PROGRAM, IN A SANDBOX (cutbox-rows.mjs): the forced cells as the released guide's own fill.sh prints them over the translation 819b32614efcb584… (all of the seat's roots in one cut). By AI agents, Wed Nov 11 2026. No macro, syntax, notation, axiom, sorry.
-/
import Derived.Test.YtgpikmonklainaaChecked
import GoSem.Claim
import GoSem.ClaimJoined
import GoSem.ClaimMapViews
import Derived.JoinedTies
import Derived.KernelRfl
namespace Go.Proofs.Ytgpikmonklainaa
/- THE CELL 'sum', in the pinned program and in every row, IS THE sha256 OF THE DUMP (.gsa) THAT YtgpikmonklainaaProg.lean LOADS. Nothing in Lean hashes anything: it is a label: what it is worth is what the hold of that sum in a sandbox is worth. -/
noncomputable def Try.pinned : Pinned := { name := "ytgpikmonklainaa", sum := "819b32614efcb58448faf96625ca06cca6631e3c11cc1ba94462bbb204acff14", checked := Try.checked }
namespace Rows
def none {H : Type} : Left H := { results := [], args := [] }

/-- 'cadastrelaw15.OrderSorts': WHATEVER THE INPUT: true; the input reads as it did. -/
def orderSortsSpec : ChangeSpec := { name := "orderSorts", fn := fun _ => fun
  | [d] => { results := [.lit (.bool true)], args := [d] }
  | _ => none }
def orderSortsRow : OpenClaim := { program := "ytgpikmonklainaa", sum := "819b32614efcb58448faf96625ca06cca6631e3c11cc1ba94462bbb204acff14", func := "cadastre/cadastrelaw15.OrderSorts", spec := "orderSorts", unfollowed := true, recurses := true, apart := false }
def OrderSortsSaid : Prop := orderSortsRow.holds Try.pinned (OpenSpec.ofChange orderSortsSpec)

/-- ITS FALSE NEIGHBOUR: 'it returns false'. Refute it at one input. -/
def orderSortsWrong : ChangeSpec := { name := "orderSorts", fn := fun _ => fun
  | [d] => { results := [.lit (.bool false)], args := [d] }
  | _ => none }
def OrderSortsWrongFalsely : Prop := orderSortsRow.holds Try.pinned (OpenSpec.ofChange orderSortsWrong)

/-- 'cadastrelaw15.OrderTop': WHATEVER THE INPUT: true; the input reads as it did. -/
def orderTopSpec : ChangeSpec := { name := "orderTop", fn := fun _ => fun
  | [d1, d2] => { results := [.lit (.bool true)], args := [d1, d2] }
  | _ => none }
def orderTopRow : OpenClaim := { program := "ytgpikmonklainaa", sum := "819b32614efcb58448faf96625ca06cca6631e3c11cc1ba94462bbb204acff14", func := "cadastre/cadastrelaw15.OrderTop", spec := "orderTop", unfollowed := true, recurses := true, apart := false }
def OrderTopSaid : Prop := orderTopRow.holds Try.pinned (OpenSpec.ofChange orderTopSpec)

/-- ITS FALSE NEIGHBOUR: 'it returns false'. Refute it at one input. -/
def orderTopWrong : ChangeSpec := { name := "orderTop", fn := fun _ => fun
  | [d1, d2] => { results := [.lit (.bool false)], args := [d1, d2] }
  | _ => none }
def OrderTopWrongFalsely : Prop := orderTopRow.holds Try.pinned (OpenSpec.ofChange orderTopWrong)

/-- 'cadastrelaw15.OrderAgain': WHATEVER THE INPUT: true; the input reads as it did. -/
def orderAgainSpec : ChangeSpec := { name := "orderAgain", fn := fun _ => fun
  | [d] => { results := [.lit (.bool true)], args := [d] }
  | _ => none }
def orderAgainRow : OpenClaim := { program := "ytgpikmonklainaa", sum := "819b32614efcb58448faf96625ca06cca6631e3c11cc1ba94462bbb204acff14", func := "cadastre/cadastrelaw15.OrderAgain", spec := "orderAgain", unfollowed := true, recurses := true, apart := false }
def OrderAgainSaid : Prop := orderAgainRow.holds Try.pinned (OpenSpec.ofChange orderAgainSpec)

/-- ITS FALSE NEIGHBOUR: 'it returns false'. Refute it at one input. -/
def orderAgainWrong : ChangeSpec := { name := "orderAgain", fn := fun _ => fun
  | [d] => { results := [.lit (.bool false)], args := [d] }
  | _ => none }
def OrderAgainWrongFalsely : Prop := orderAgainRow.holds Try.pinned (OpenSpec.ofChange orderAgainWrong)

/-- 'cadastrelaw16.GroupTells': WHATEVER THE INPUT: true; the input reads as it did. -/
def groupTellsSpec : ChangeSpec := { name := "groupTells", fn := fun _ => fun
  | [d1, d2] => { results := [.lit (.bool true)], args := [d1, d2] }
  | _ => none }
def groupTellsRow : OpenClaim := { program := "ytgpikmonklainaa", sum := "819b32614efcb58448faf96625ca06cca6631e3c11cc1ba94462bbb204acff14", func := "cadastre/cadastrelaw16.GroupTells", spec := "groupTells", unfollowed := true, recurses := true, apart := false }
def GroupTellsSaid : Prop := groupTellsRow.holds Try.pinned (OpenSpec.ofChange groupTellsSpec)

/-- ITS FALSE NEIGHBOUR: 'it returns false'. Refute it at one input. -/
def groupTellsWrong : ChangeSpec := { name := "groupTells", fn := fun _ => fun
  | [d1, d2] => { results := [.lit (.bool false)], args := [d1, d2] }
  | _ => none }
def GroupTellsWrongFalsely : Prop := groupTellsRow.holds Try.pinned (OpenSpec.ofChange groupTellsWrong)

/-- 'cadastrelaw16.GroupParts': WHATEVER THE INPUT: true; the input reads as it did. -/
def groupPartsSpec : ChangeSpec := { name := "groupParts", fn := fun _ => fun
  | [d1, d2] => { results := [.lit (.bool true)], args := [d1, d2] }
  | _ => none }
def groupPartsRow : OpenClaim := { program := "ytgpikmonklainaa", sum := "819b32614efcb58448faf96625ca06cca6631e3c11cc1ba94462bbb204acff14", func := "cadastre/cadastrelaw16.GroupParts", spec := "groupParts", unfollowed := true, recurses := true, apart := false }
def GroupPartsSaid : Prop := groupPartsRow.holds Try.pinned (OpenSpec.ofChange groupPartsSpec)

/-- ITS FALSE NEIGHBOUR: 'it returns false'. Refute it at one input. -/
def groupPartsWrong : ChangeSpec := { name := "groupParts", fn := fun _ => fun
  | [d1, d2] => { results := [.lit (.bool false)], args := [d1, d2] }
  | _ => none }
def GroupPartsWrongFalsely : Prop := groupPartsRow.holds Try.pinned (OpenSpec.ofChange groupPartsWrong)

/-- 'cadastrelaw16.GroupKeys': WHATEVER THE INPUT: true; the input reads as it did. -/
def groupKeysSpec : ChangeSpec := { name := "groupKeys", fn := fun _ => fun
  | [d] => { results := [.lit (.bool true)], args := [d] }
  | _ => none }
def groupKeysRow : OpenClaim := { program := "ytgpikmonklainaa", sum := "819b32614efcb58448faf96625ca06cca6631e3c11cc1ba94462bbb204acff14", func := "cadastre/cadastrelaw16.GroupKeys", spec := "groupKeys", unfollowed := true, recurses := true, apart := false }
def GroupKeysSaid : Prop := groupKeysRow.holds Try.pinned (OpenSpec.ofChange groupKeysSpec)

/-- ITS FALSE NEIGHBOUR: 'it returns false'. Refute it at one input. -/
def groupKeysWrong : ChangeSpec := { name := "groupKeys", fn := fun _ => fun
  | [d] => { results := [.lit (.bool false)], args := [d] }
  | _ => none }
def GroupKeysWrongFalsely : Prop := groupKeysRow.holds Try.pinned (OpenSpec.ofChange groupKeysWrong)

/-- 'cadastrelaw16.GroupWhole': WHATEVER THE INPUT: true; the input reads as it did. -/
def groupWholeSpec : ChangeSpec := { name := "groupWhole", fn := fun _ => fun
  | [d1, d2] => { results := [.lit (.bool true)], args := [d1, d2] }
  | _ => none }
def groupWholeRow : OpenClaim := { program := "ytgpikmonklainaa", sum := "819b32614efcb58448faf96625ca06cca6631e3c11cc1ba94462bbb204acff14", func := "cadastre/cadastrelaw16.GroupWhole", spec := "groupWhole", unfollowed := true, recurses := true, apart := false }
def GroupWholeSaid : Prop := groupWholeRow.holds Try.pinned (OpenSpec.ofChange groupWholeSpec)

/-- ITS FALSE NEIGHBOUR: 'it returns false'. Refute it at one input. -/
def groupWholeWrong : ChangeSpec := { name := "groupWhole", fn := fun _ => fun
  | [d1, d2] => { results := [.lit (.bool false)], args := [d1, d2] }
  | _ => none }
def GroupWholeWrongFalsely : Prop := groupWholeRow.holds Try.pinned (OpenSpec.ofChange groupWholeWrong)

/- THE SECOND FORM. 'bulk': how many values and letters a reading holds, each counted each time it is reached (what is shared counts as often as it is met; a slice's spare places count too). A statement '..UptoSaid' is the law's where the arguments, and the package variables that the reading takes, are together of bulk at most 1048576: NARROWER than '..Said'. Prove '..Said' where nothing that the law and all that it calls make is longer than what came in: it says more and counts as full. Else prove '..UptoSaid'. A law counts once. -/
mutual
def uptoBulk {H : Type} : DataW H → Nat
  | .lit (.string bytes) => bytes.length + 1
  | .lit _ => 1
  | .nil => 1
  | .ptr d => uptoBulk d + 1
  | .slice elems spare => uptoBulkAll elems + uptoBulkAll spare + 1
  | .agg parts => uptoBulkAll parts + 1
  | .iface _ d => uptoBulk d + 1
  | .map entries => uptoBulkEntries entries + 1
  | .held _ => 1
def uptoBulkAll {H : Type} : List (DataW H) → Nat
  | [] => 0
  | d :: r => uptoBulk d + uptoBulkAll r
def uptoBulkEntries {H : Type} : List (Lit × DataW H) → Nat
  | [] => 0
  | x :: r => uptoBulkEntry x + uptoBulkEntries r
def uptoBulkEntry {H : Type} : Lit × DataW H → Nat
  | (.string bytes, d) => bytes.length + uptoBulk d + 1
  | (_, d) => uptoBulk d + 1
 end
def uptoSmall : (H : Type) → List (DataW H) → Bool := fun _ ds => decide (uptoBulkAll ds ≤ 1048576)
def OpenSpec.upto (s : _root_.Go.ChangeSpec) : _root_.Go.OpenSpec := { _root_.Go.OpenSpec.ofChange s with cond := some uptoSmall }

/-- 'cadastrelaw15.OrderSorts', WHERE WHAT IT READS IS OF BULK AT MOST 1048576: true; the input reads as it did. -/
def orderSortsUptoRow : OpenClaim := { program := "ytgpikmonklainaa", sum := "819b32614efcb58448faf96625ca06cca6631e3c11cc1ba94462bbb204acff14", func := "cadastre/cadastrelaw15.OrderSorts", spec := "orderSorts", unfollowed := true, recurses := true, apart := false, narrowed := true }
def OrderSortsUptoSaid : Prop := orderSortsUptoRow.holds Try.pinned (OpenSpec.upto orderSortsSpec)

/-- 'cadastrelaw15.OrderTop', WHERE WHAT IT READS IS OF BULK AT MOST 1048576: true; the input reads as it did. -/
def orderTopUptoRow : OpenClaim := { program := "ytgpikmonklainaa", sum := "819b32614efcb58448faf96625ca06cca6631e3c11cc1ba94462bbb204acff14", func := "cadastre/cadastrelaw15.OrderTop", spec := "orderTop", unfollowed := true, recurses := true, apart := false, narrowed := true }
def OrderTopUptoSaid : Prop := orderTopUptoRow.holds Try.pinned (OpenSpec.upto orderTopSpec)

/-- 'cadastrelaw15.OrderAgain', WHERE WHAT IT READS IS OF BULK AT MOST 1048576: true; the input reads as it did. -/
def orderAgainUptoRow : OpenClaim := { program := "ytgpikmonklainaa", sum := "819b32614efcb58448faf96625ca06cca6631e3c11cc1ba94462bbb204acff14", func := "cadastre/cadastrelaw15.OrderAgain", spec := "orderAgain", unfollowed := true, recurses := true, apart := false, narrowed := true }
def OrderAgainUptoSaid : Prop := orderAgainUptoRow.holds Try.pinned (OpenSpec.upto orderAgainSpec)

/-- 'cadastrelaw16.GroupTells', WHERE WHAT IT READS IS OF BULK AT MOST 1048576: true; the input reads as it did. -/
def groupTellsUptoRow : OpenClaim := { program := "ytgpikmonklainaa", sum := "819b32614efcb58448faf96625ca06cca6631e3c11cc1ba94462bbb204acff14", func := "cadastre/cadastrelaw16.GroupTells", spec := "groupTells", unfollowed := true, recurses := true, apart := false, narrowed := true }
def GroupTellsUptoSaid : Prop := groupTellsUptoRow.holds Try.pinned (OpenSpec.upto groupTellsSpec)

/-- 'cadastrelaw16.GroupParts', WHERE WHAT IT READS IS OF BULK AT MOST 1048576: true; the input reads as it did. -/
def groupPartsUptoRow : OpenClaim := { program := "ytgpikmonklainaa", sum := "819b32614efcb58448faf96625ca06cca6631e3c11cc1ba94462bbb204acff14", func := "cadastre/cadastrelaw16.GroupParts", spec := "groupParts", unfollowed := true, recurses := true, apart := false, narrowed := true }
def GroupPartsUptoSaid : Prop := groupPartsUptoRow.holds Try.pinned (OpenSpec.upto groupPartsSpec)

/-- 'cadastrelaw16.GroupKeys', WHERE WHAT IT READS IS OF BULK AT MOST 1048576: true; the input reads as it did. -/
def groupKeysUptoRow : OpenClaim := { program := "ytgpikmonklainaa", sum := "819b32614efcb58448faf96625ca06cca6631e3c11cc1ba94462bbb204acff14", func := "cadastre/cadastrelaw16.GroupKeys", spec := "groupKeys", unfollowed := true, recurses := true, apart := false, narrowed := true }
def GroupKeysUptoSaid : Prop := groupKeysUptoRow.holds Try.pinned (OpenSpec.upto groupKeysSpec)

/-- 'cadastrelaw16.GroupWhole', WHERE WHAT IT READS IS OF BULK AT MOST 1048576: true; the input reads as it did. -/
def groupWholeUptoRow : OpenClaim := { program := "ytgpikmonklainaa", sum := "819b32614efcb58448faf96625ca06cca6631e3c11cc1ba94462bbb204acff14", func := "cadastre/cadastrelaw16.GroupWhole", spec := "groupWhole", unfollowed := true, recurses := true, apart := false, narrowed := true }
def GroupWholeUptoSaid : Prop := groupWholeUptoRow.holds Try.pinned (OpenSpec.upto groupWholeSpec)

end Rows
end Go.Proofs.Ytgpikmonklainaa
