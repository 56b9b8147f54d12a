/- Columns as arguments; an expression's own parts. No condition. -/
import Derived.Test.YtjlojkchgfeenaaXVc29
namespace Go.Vc
open Go
structure C3 where
  t : ByteArray
  n : ByteArray
  ty : Int
def C3.cells (c : C3) : List Value := [.string c.t, .string c.n, .int .i64 c.ty]
theorem C3.len (c : C3) : c.cells.length = 3 := rfl
def c3D : C3 := ⟨⟨#[]⟩, ⟨#[]⟩, 0⟩
theorem c3_one : ∀ x : C3, ∀ u ∈ x.cells, u.oneCell' = true := fun x u hu => by
  simp [C3.cells] at hu
  rcases hu with rfl | rfl | rfl <;> rfl
structure ColTy (P : Program) (tV tS tI : TypeId) : Prop where
  hV : P.underlying tV = some (.struct (P.fieldsOf tV))
  fV : (P.fieldsOf tV).map (fun f => (f.type, f.offset)) = #[(tS, 0), (tS, 1), (tI, 2)]
  hI : P.underlying tI = some (.int .i64)
  hS : P.underlying tS = some .string
  cV : P.cellsOf tV = 3
  cI : P.cellsOf tI = 1
  cS : P.cellsOf tS = 1
def c3Of {H : Type} : DataW H → C3
  | .agg [.lit (.string t), .lit (.string n), .lit (.int _ k)] => ⟨⟨t.toArray⟩, ⟨n.toArray⟩, k⟩
  | _ => c3D
def slOf {H α : Type} (of : DataW H → α) : DataW H → List α
  | .slice es _ => es.map of
  | _ => []
section
variable {H : Type} {enc : TypeId × Value → H} {P : Program} {w : World} {base : Nat} {spare : Nat → Bool} {held : Bool}
theorem read_col {tV tS tI : TypeId} (T : ColTy P tV tS tI) {n : Nat} {cs : List Value} {x : DataW H × List MemPlace} (h : DataW.trod enc P w base spare held n tV cs = some x) :
    cs = (c3Of x.1).cells ∧ I64 (c3Of x.1).ty := by
  obtain ⟨xs, m, rfl, rfl, hl, hn, hf⟩ := DataW.trod_struct T.hV h
  obtain ⟨f0, a0, b0, c0⟩ := field_at T.fV (i := 0) rfl
  obtain ⟨f1, a1, b1, c1⟩ := field_at T.fV (i := 1) rfl
  obtain ⟨f2, a2, b2, c2⟩ := field_at T.fV (i := 2) rfl
  have e0 := hf 0 f0 a0
  have e1 := hf 1 f1 a1
  have e2 := hf 2 f2 a2
  have hsz : (P.fieldsOf tV).size = 3 := by have := congrArg Array.size T.fV; simpa using this
  rw [b0, c0, T.cS] at e0
  rw [b1, c1, T.cS] at e1
  rw [b2, c2, T.cI] at e2
  rw [hsz] at hn
  rw [T.cV] at hl
  match xs, hn with
  | [x0, x1, x2], _ =>
    obtain ⟨k, g0, q0, r0⟩ := DataW.trod_string T.hS (x := x0) e0
    obtain ⟨l, g1, q1, r1⟩ := DataW.trod_string T.hS (x := x1) e1
    obtain ⟨s, g2, q2, r2⟩ := DataW.trod_int T.hI (x := x2) e2
    match cs, hl with
    | [y0, y1, y2], _ =>
      simp at g0 g1 g2
      subst g0 g1 g2 q0 q1 q2
      exact ⟨rfl, wf_i64 r2⟩
theorem pers_slD {α : Type} {en : α → List Value} {of : DataW H → α} {rng : α → Prop} {tVs tV : TypeId} {sz : Nat} (hsz : P.cellsOf tV = sz) (hp : 0 < sz)
    (hel : ∀ (w : World) (base : Nat) (spare : Nat → Bool) (held : Bool) (n : Nat) (cs : List Value) (x : DataW H × List MemPlace), DataW.trod enc P w base spare held n tV cs = some x → cs = en (of x.1) ∧ rng (of x.1))
    (hVs : P.underlying tVs = some (.slice tV)) (hl : laidOutB P = true) (hr : P.readableRec tVs = true ∧ tVs < P.types.size) {W : World} {v : Value} {d : DataW H} {ps : List MemPlace}
    (h : DataW.Trod enc P W 0 (fun _ => true) true tVs v d ps) (hlt : ∀ p ∈ ps, p.block < W.heap.size) (hag : ∀ cs, v ≠ .agg cs) : Pers noX W (SlG en sz (slOf of d) v) ∧ ∀ y ∈ slOf of d, rng y := by
  obtain ⟨n, hn⟩ := h
  have key : ∀ (w : World) (spare : Nat → Bool), DataW.trod enc P w 0 spare true n tVs v.cells.toList = some (d, ps) → SlG en sz (slOf of d) v w ∧ ∀ y ∈ slOf of d, rng y := fun w spare h => by
    obtain ⟨xs, h1, h2, h3⟩ := read_sl hsz hp (fun n cs x => hel w 0 spare true n cs x) hVs h hag
    have e : slOf of d = xs := by
      rcases h1 with ⟨h1, rfl⟩ | ⟨es, sp, h1, rfl⟩
      · have h1' : d = .nil := h1
        rw [h1']; rfl
      · have h1' : d = .slice es sp := h1
        rw [h1']; rfl
    rw [e]
    exact ⟨h2, h3⟩
  refine ⟨fun W' hk => ?_, (key W _ hn).2⟩
  have := DataW.trod_stays (sp' := fun _ => true) (kids_book hl hr.1) (book_sized hr.1) (fun h => by cases h) ⟨hr.2, book_self tVs⟩ hn (fun x hx => hk.below.same (hlt x hx)) (fun _ _ => rfl)
  exact (key W' _ this).1
theorem read_colV {tV tS tI : TypeId} (T : ColTy P tV tS tI) {W : World} {v : Value} {d : DataW H} {ps : List MemPlace} (h : DataW.Trod enc P W 0 (fun _ => true) true tV v d ps) : v = .agg (c3Of d).cells.toArray ∧ I64 (c3Of d).ty := by
  obtain ⟨n, hn⟩ := h
  obtain ⟨h1, h2⟩ := read_col T hn
  refine ⟨?_, h2⟩
  cases v with
  | agg cs => 
    have : cs.toList = (c3Of d).cells := h1
    rw [← this]
  | _ => exact absurd (congrArg List.length h1) (by simp [Value.cells, C3.cells])
end
def Ex.K : Ex → Int | .mk k _ _ _ _ _ _ _ => k
def Ex.VK : Ex → Int | .mk _ k _ _ _ _ _ _ => k
def Ex.VN : Ex → Int | .mk _ _ k _ _ _ _ _ => k
def Ex.VS : Ex → ByteArray | .mk _ _ _ k _ _ _ _ => k
def Ex.TB : Ex → ByteArray | .mk _ _ _ _ k _ _ _ => k
def Ex.NM : Ex → ByteArray | .mk _ _ _ _ _ k _ _ => k
def Ex.SL : Ex → Int | .mk _ _ _ _ _ _ k _ => k
def Ex.KS : Ex → List Ex | .mk _ _ _ _ _ _ _ k => k
theorem Ex.eta (x : Ex) : x = .mk x.K x.VK x.VN x.VS x.TB x.NM x.SL x.KS := by cases x; rfl
section
variable {P : Program} {c : Ctx} {K : List (Nat × Ty)} {L : List Own} {Φ : List (World → Prop)} {Q : Exit → Act → World → Prop}
theorem JO.openA {ops : Array Oper} {l : List Oper} {s : Nat} {x : Ex} (h : look K s = some (.rep (ExR x)))
    (hj : ∀ a len cap b o, x.KS.length = len → (len ≠ 0 → a = some ⟨b, o, none⟩) → JO P c ((s, .is (.agg (exCells x.K x.VK x.VN x.VS x.TB x.NM x.SL a len cap).toArray)) :: K) L (KidsR x.KS a len :: ExR x (.agg (exCells x.K x.VK x.VN x.VS x.TB x.NM x.SL a len cap).toArray) :: Φ) ops l Q) : JO P c K L Φ ops l Q := by
  cases x with
  | mk k vk vn vs tb nm sl kids => exact JO.openEx h hj
theorem J.openA {x' : Code} {s : Nat} {x : Ex} (h : look K s = some (.rep (ExR x)))
    (hj : ∀ a len cap b o, x.KS.length = len → (len ≠ 0 → a = some ⟨b, o, none⟩) → J P c ((s, .is (.agg (exCells x.K x.VK x.VN x.VS x.TB x.NM x.SL a len cap).toArray)) :: K) L (KidsR x.KS a len :: ExR x (.agg (exCells x.K x.VK x.VN x.VS x.TB x.NM x.SL a len cap).toArray) :: Φ) x' Q) : J P c K L Φ x' Q := by
  cases x with
  | mk k vk vn vs tb nm sl kids => exact J.openEx h hj
theorem JX.slO {α : Type} {en : α → List Value} {sz : Nat} {d cap : Nat} {e : TypeId} {xs : List α} {st : Option (Nat × List Value)} {K0 : List (Nat × Ty)} (hsz : ∀ x, (en x).length = sz) (hG : Grows en sz xs st cap) (h0 : ∀ q, ¬ c.X0 q) (hd : look K d = some (.is (sliceO st xs.length cap)))
    (hK : K.all (fun p => p.2.out) = true) (hL : L.all (fun o => o.T.out) = true) (ss : List Nat) (hs : Sel K ss K0) :
    JX c K (ownO st e L) Φ .normal (Exit.then (fun a w => ∃ E, SA c ((d, .rep (SlG en sz xs)) :: K0) L Φ E a w) Q) := by
  cases st with
  | none =>
    have hx : xs = [] := hG
    subst hx
    exact JX.slNone (cap := 0) hd ss hs
  | some p =>
    obtain ⟨b, cs⟩ := p
    exact JX.slOwn hsz h0 hd rfl hG.2.2 hK hL ss hs
end
end Go.Vc
namespace Go.Vc
open Go
theorem JO.dropF {P : Program} {c : Ctx} {K : List (Nat × Ty)} {L : List Own} {Φ : List (World → Prop)} {Q : Exit → Act → World → Prop} {ops : Array Oper} {l : List Oper} {F : World → Prop} (h : JO P c K L Φ ops l Q) : JO P c K L (F :: Φ) ops l Q :=
  ⟨fun E a w hs => h.out E a w (hs.sub (fun _ _ => id) (fun _ => id) hs.ld (fun _ h => List.mem_cons_of_mem _ h))⟩
theorem J.dropF {P : Program} {c : Ctx} {K : List (Nat × Ty)} {L : List Own} {Φ : List (World → Prop)} {Q : Exit → Act → World → Prop} {x : Code} {F : World → Prop} (h : J P c K L Φ x Q) : J P c K L (F :: Φ) x Q :=
  ⟨fun E a w hs => h.out E a w (hs.sub (fun _ _ => id) (fun _ => id) hs.ld (fun _ h => List.mem_cons_of_mem _ h))⟩
end Go.Vc
namespace Go.Vc
open Go
section
variable {P : Program} {L : List Own} {Φ : List (World → Prop)} {H : Know} {dst : Option Nat} {ty : TypeId} {pos : String} {after : Array Edge} {g : Option (Nat × Bool)} {xt yt : TypeId} {x y : Operand} {a b : Int}
theorem Sub.rowO {vals : List V3} {cap : Nat} {st : Option (Nat × List Value)} (hG : Grows V3.cells 3 vals st cap) (h : RowG V3.cells 3 vals (adO st) vals.length ∈ Φ) : Sub L Φ (.is (sliceO st vals.length cap)) (.rep (RowS vals)) := Sub.slO hG h
end
theorem drop_rev {α : Type} {l : List α} {m : Nat} (d : α) (h0 : 0 < m) (h : m ≤ l.length) : (l.drop m).reverse ++ [l.getD (m - 1) d] = (l.drop (m - 1)).reverse := by
  have hlt : m - 1 < l.length := by omega
  rw [List.drop_eq_getElem_cons hlt, List.reverse_cons, show m - 1 + 1 = m by omega]
  simp [hlt]
end Go.Vc
