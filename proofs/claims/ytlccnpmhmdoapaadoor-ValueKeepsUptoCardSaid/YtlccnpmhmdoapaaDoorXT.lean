/- What the rows' last steps need: the variable that is read holds a number; what is known of an argument. No condition. -/
import Derived.Test.YtlccnpmhmdoapaaDoorXK
import Derived.Test.YtlccnpmhmdoapaaDoorXA
import Derived.Test.YtlccnpmhmdoapaaDoorXG4
import Derived.Shelf.Vars
import Derived.JoinedCond
import Derived.ChangeMaps5
import Derived.Test.YtlccnpmhmdoapaaDoorCards
import Derived.Test.YtlccnpmhmdoapaaDoorTie
set_option maxRecDepth 100000
namespace Go.Proofs.YtlccnpmhmdoapaaDoor
open Go Go.Vc Go.Vl Go.ChangeShapes Go.WideShapes Go.ChangeAt Go.RowKit
theorem gf_shaped {W : World} (h : W.ShapedOpen Tryd.prog) : GF W :=
  cell_of_shapedOpen_int (zero := #[.int .i64 0]) (t := 3) h (of_decide_eq_true (by kernel_rfl)) (by kernel_rfl) rfl (by kernel_rfl) (by kernel_rfl) Tryd.underlying3
theorem pers_cell {W : World} {a : Addr} {v : Value} (h : W.cell? a = some v) : ∀ w', Keeps noX W w' → w'.cell? a = some v := fun w' hk => by
  unfold World.cell? at h ⊢
  cases hb : W.heap[a.block]? with
  | none => rw [hb] at h; simp at h
  | some o =>
    rw [hk.get hb (fun h => h)]
    rw [hb] at h
    exact h
theorem pers_gf {W : World} (h : GF W) : Pers noX W GF := fun w' hk => by
  obtain ⟨m, hm⟩ := h
  exact ⟨m, pers_cell hm w' hk⟩
theorem valTy : ValTy Tryd.prog ty_api_Value ty_int ty_int64 ty_string := ⟨by kernel_rfl, by kernel_rfl, by kernel_rfl, by kernel_rfl, by kernel_rfl, by kernel_rfl, by kernel_rfl, by kernel_rfl, by kernel_rfl⟩
theorem rd_v : Tryd.prog.readableRec ty_api_Value = true ∧ ty_api_Value < Tryd.prog.types.size := ⟨by kernel_rfl, of_decide_eq_true (by kernel_rfl)⟩
theorem rd_vs : Tryd.prog.readableRec ty_sl_api_Value = true ∧ ty_sl_api_Value < Tryd.prog.types.size := ⟨by kernel_rfl, of_decide_eq_true (by kernel_rfl)⟩
theorem rd_bs : Tryd.prog.readableRec ty_sl_uint8 = true ∧ ty_sl_uint8 < Tryd.prog.types.size := ⟨by kernel_rfl, of_decide_eq_true (by kernel_rfl)⟩
theorem rd_u8 : Tryd.prog.readableRec ty_uint8 = true ∧ ty_uint8 < Tryd.prog.types.size := ⟨by kernel_rfl, of_decide_eq_true (by kernel_rfl)⟩
theorem hVs : Tryd.prog.underlying ty_sl_api_Value = some (.slice ty_api_Value) := by kernel_rfl
theorem hBs : Tryd.prog.underlying ty_sl_uint8 = some (.slice ty_uint8) := by kernel_rfl
section
variable {H : Type} {enc : TypeId × Value → H}
theorem read_valV {W : World} {v : Value} {d : DataW H} {ps : List MemPlace} (h : DataW.Trod enc Tryd.prog W 0 (fun _ => true) true ty_api_Value v d ps) : v = .agg (v3Of d).cells.toArray ∧ (v3Of d).rng := by
  obtain ⟨n, hn⟩ := h
  obtain ⟨h1, h2⟩ := read_val valTy hn
  refine ⟨?_, h2⟩
  cases v with
  | agg cs =>
    have : cs.toList = (v3Of d).cells := h1
    rw [← this]
  | _ => exact absurd (congrArg List.length h1) (by simp [Value.cells, V3.cells])
def u8Of : DataW H → UInt8
  | .lit (.int _ n) => UInt8.ofNat n.toNat
  | _ => 0
theorem read_u8 {w : World} {base : Nat} {spare : Nat → Bool} {held : Bool} {n : Nat} {cs : List Value} {x : DataW H × List MemPlace} (h : DataW.trod enc Tryd.prog w base spare held n ty_uint8 cs = some x) : cs = bC (u8Of x.1) ∧ True := by
  obtain ⟨k, rfl, rfl, hw⟩ := DataW.trod_int un_uint8 h
  have := wf_u8 hw
  refine ⟨?_, trivial⟩
  show _ = [Value.int .u8 ((UInt8.ofNat k.toNat).toNat : Int)]
  rw [show (UInt8.ofNat k.toNat).toNat = k.toNat from UInt8.toNat_ofNat_of_lt' (by show k.toNat < 256; omega)]
  rw [show ((k.toNat : Nat) : Int) = k by omega]
abbrev bsOf (d : DataW H) : List UInt8 := slOf u8Of d
theorem pers_bs {W : World} {v : Value} {d : DataW H} {ps : List MemPlace} (h : DataW.Trod enc Tryd.prog W 0 (fun _ => true) true ty_sl_uint8 v d ps) (hlt : ∀ p ∈ ps, p.block < W.heap.size) (hag : ∀ cs, v ≠ .agg cs) : Pers noX W (SlC bC 1 (bsOf d) v) := by
  have h1 := (pers_slD (of := u8Of) (rng := fun _ => True) (by kernel_rfl : Tryd.prog.cellsOf ty_uint8 = 1) (by omega) (fun w base spare held n cs x => read_u8) hBs laidOut rd_bs h hlt hag).1
  have hc : ∃ a len cap, v = .slice a len cap ∧ len ≤ cap := by
    obtain ⟨n, hn⟩ := h
    rcases DataW.trod_slice hBs hn with ⟨g5, _⟩ | ⟨a, len, cap, _, _, _, _, g5, _, _, hlc, _⟩
    · cases v <;> simp [Value.cells] at g5
      · obtain ⟨rfl, rfl, rfl⟩ := g5; exact ⟨none, 0, 0, rfl, Nat.le_refl _⟩
      · exact absurd rfl (hag _)
    · cases v <;> simp [Value.cells] at g5
      · obtain ⟨_, g2, g3⟩ := g5; exact ⟨_, _, _, rfl, by rw [g2, g3]; exact hlc⟩
      · exact absurd rfl (hag _)
  obtain ⟨a, len, cap, rfl, hlc⟩ := hc
  intro w' hk
  obtain ⟨a', len', cap', e, hr⟩ := h1 w' hk
  injection e with q1 q2 q3
  subst q1 q2 q3
  exact ⟨_, _, _, rfl, hlc, hr⟩
end
theorem ty1 {a t : TypeId} {ps : Array TypeId} (h : t ∈ ps) (e : ps = #[a]) {p : TypeId → Prop} (ha : p a) : p t := by subst e; simp at h; subst h; exact ha
theorem ty2 {a b t : TypeId} {ps : Array TypeId} (h : t ∈ ps) (e : ps = #[a, b]) {p : TypeId → Prop} (ha : p a) (hb : p b) : p t := by subst e; simp at h; rcases h with rfl | rfl <;> assumption
theorem ty3 {a b c t : TypeId} {ps : Array TypeId} (h : t ∈ ps) (e : ps = #[a, b, c]) {p : TypeId → Prop} (ha : p a) (hb : p b) (hc : p c) : p t := by subst e; simp at h; rcases h with rfl | rfl | rfl <;> assumption
end Go.Proofs.YtlccnpmhmdoapaaDoor
