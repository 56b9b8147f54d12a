/- A structure with a number, an expression, a row, a truth. No condition. -/
import Derived.Test.YtjlojkchgfeenaaXVc18
namespace Go.Vc
open Go
def nullCells (op : Int) (xc : List Value) (rv : Value) (left : Bool) : List Value := .int .u8 op :: (xc ++ [rv, .bool left])
def NullR (op : Int) (x : Ex) (vals : List V3) (left : Bool) (v : Value) (w : World) : Prop := ∃ xc rv, xc.length = 8 ∧ v = .agg (nullCells op xc rv left).toArray ∧ ExR x (.agg xc.toArray) w ∧ RowS vals rv w
section
variable {P : Program} {c : Ctx} {K : List (Nat × Ty)} {L : List Own} {Φ : List (World → Prop)} {Q : Exit → Act → World → Prop}
theorem J.openNull {x : Code} {s : Nat} {op : Int} {k vk vn : Int} {vs tb nm : ByteArray} {sl : Int} {kids : List Ex} {vals : List V3} {left : Bool} (h : look K s = some (.rep (NullR op (.mk k vk vn vs tb nm sl kids) vals left)))
    (hj : ∀ a len cap ra rl rc, J P c ((s, .is (.agg (nullCells op (exCells k vk vn vs tb nm sl a len cap) (.slice ra rl rc) left).toArray)) :: K) L
      (RowS vals (.slice ra rl rc) :: ExR (.mk k vk vn vs tb nm sl kids) (.agg (exCells k vk vn vs tb nm sl a len cap).toArray) :: NullR op (.mk k vk vn vs tb nm sl kids) vals left (.agg (nullCells op (exCells k vk vn vs tb nm sl a len cap) (.slice ra rl rc) left).toArray) :: Φ) x Q) : J P c K L Φ x Q := by
  refine J.open_ h ?_
  rintro v ⟨w, xc, rv, h8, rfl, hx, hr⟩
  obtain ⟨a, len, cap, e, _⟩ := exR_mk.1 hx
  have e' := agg_inj e
  subst e'
  obtain ⟨ra, rl, rc, rfl, _⟩ := hr
  have inj : ∀ {xc : List Value} {rv : Value}, xc.length = 8 → Value.agg (nullCells op (exCells k vk vn vs tb nm sl a len cap) (.slice ra rl rc) left).toArray = .agg (nullCells op xc rv left).toArray → xc = exCells k vk vn vs tb nm sl a len cap ∧ rv = .slice ra rl rc := by
    intro xc rv h8 he
    have h1 := agg_inj he
    simp only [nullCells, List.cons.injEq, true_and] at h1
    obtain ⟨h2, h3⟩ := List.append_inj h1 (by rw [h8]; rfl)
    simp only [List.cons.injEq, and_true] at h3
    exact ⟨h2.symm, h3.symm⟩
  refine J.fact (ExR (.mk k vk vn vs tb nm sl kids) (.agg (exCells k vk vn vs tb nm sl a len cap).toArray)) (fun E w hG _ => fun w' hk => ?_) (J.fact (RowS vals (.slice ra rl rc)) (fun E w hG _ => fun w' hk => ?_) (hj a len cap ra rl rc))
  · obtain ⟨xc, rv, h8, he, hx', hr'⟩ := hG _ List.mem_cons_self w' hk
    obtain ⟨rfl, rfl⟩ := inj h8 he
    exact hx'
  · obtain ⟨xc, rv, h8, he, hx', hr'⟩ := hG _ (List.mem_cons_of_mem _ List.mem_cons_self) w' hk
    obtain ⟨rfl, rfl⟩ := inj h8 he
    exact hr'
end
section
variable {P : Program} {L : List Own} {Φ : List (World → Prop)} {H : Know} {o : Oper}
theorem Ob.rep {V : Value} {R : Value → World → Prop} (h : Ob P L Φ H o (.is V)) (hF : R V ∈ Φ) : Ob P L Φ H o (.rep R) := fun E w ρ hp =>
  Runs.mono (h E w ρ hp) fun v w' ⟨hk, e⟩ => ⟨hk, by rw [show v = V from e]; exact (hp.f _ hF).keepE hk⟩
end
structure NullTy (P : Program) (tN tE tEs tVs tV tI tJ tS tU tB : TypeId) : Prop extends ExTy P tE tEs tV tI tJ tS where
  hN : P.underlying tN = some (.struct (P.fieldsOf tN))
  fN : (P.fieldsOf tN).map (fun f => (f.type, f.offset)) = #[(tU, 0), (tE, 1), (tVs, 9), (tB, 10)]
  hVs : P.underlying tVs = some (.slice tV)
  hU : P.underlying tU = some (.int .u8)
  hB : P.underlying tB = some .bool
  cN : P.cellsOf tN = 11
  cVs : P.cellsOf tVs = 1
  cU : P.cellsOf tU = 1
  cB : P.cellsOf tB = 1
def opOf {H : Type} : DataW H → Int
  | .lit (.int _ n) => n
  | _ => 0
def boolOf {H : Type} : DataW H → Bool
  | .lit (.bool b) => b
  | _ => false
def nullOf {H : Type} (n : Nat) : DataW H → Int × Ex × List V3 × Bool
  | .agg [a, b, c, d] => (opOf a, exOf n b, rowOf c, boolOf d)
  | _ => (0, .mk 0 0 0 ⟨#[]⟩ ⟨#[]⟩ ⟨#[]⟩ 0 [], [], false)
section
variable {H : Type} {enc : TypeId × Value → H} {P : Program} {w : World} {base : Nat} {spare : Nat → Bool} {held : Bool}
theorem read_null {tN tE tEs tVs tV tI tJ tS tU tB : TypeId} (T : NullTy P tN tE tEs tVs tV tI tJ tS tU tB) {n : Nat} {cs : List Value} {x : DataW H × List MemPlace} (h : DataW.trod enc P w base spare held (n + 1) tN cs = some x) :
    cs.length = 11 ∧ (0 ≤ (nullOf n x.1).1 ∧ (nullOf n x.1).1 < 256) ∧ exRng (nullOf n x.1).2.1 ∧ (∀ v ∈ (nullOf n x.1).2.2.1, v.rng) ∧ NullR (nullOf n x.1).1 (nullOf n x.1).2.1 (nullOf n x.1).2.2.1 (nullOf n x.1).2.2.2 (.agg cs.toArray) w := by
  obtain ⟨xs, m, hm, rfl, hl, hn, hf⟩ := DataW.trod_struct T.hN h
  obtain rfl : n = m := by omega
  obtain ⟨f0, a0, b0, c0⟩ := field_at T.fN (i := 0) rfl
  obtain ⟨f1, a1, b1, c1⟩ := field_at T.fN (i := 1) rfl
  obtain ⟨f2, a2, b2, c2⟩ := field_at T.fN (i := 2) rfl
  obtain ⟨f3, a3, b3, c3⟩ := field_at T.fN (i := 3) rfl
  have e0 := hf 0 f0 a0
  have e1 := hf 1 f1 a1
  have e2 := hf 2 f2 a2
  have e3 := hf 3 f3 a3
  have hsz : (P.fieldsOf tN).size = 4 := by have := congrArg Array.size T.fN; simpa using this
  rw [b0, c0, T.cU] at e0
  rw [b1, c1, T.cE] at e1
  rw [b2, c2, T.cVs] at e2
  rw [b3, c3, T.cB] at e3
  rw [hsz] at hn
  rw [T.cN] at hl
  match xs, hn with
  | [x0, x1, x2, x3], _ =>
    obtain ⟨k, g0, q0, r0⟩ := DataW.trod_int T.hU (x := x0) e0
    obtain ⟨h8, hx, hxr⟩ := read_ex T.toExTy n _ x1 e1
    obtain ⟨b, g3, q3⟩ := DataW.trod_bool T.hB (x := x3) e3
    match cs, hl with
    | [y0, y1, y2, y3, y4, y5, y6, y7, y8, y9, y10], _ =>
      simp at g0 g3
      subst g0 g3 q0 q3
      have hy9 : ([y9] : List Value) = y9.cells.toList ∧ ∀ cs, y9 ≠ .agg cs := by
        rcases DataW.trod_slice T.hVs (x := x2) e2 with ⟨g5, _⟩ | ⟨_, _, _, _, _, _, _, g5, _⟩
        · simp at g5; subst g5; exact ⟨rfl, fun cs e => by cases e⟩
        · simp at g5; subst g5; exact ⟨rfl, fun cs e => by cases e⟩
      have e2' : DataW.trod enc P w base spare held n tVs y9.cells.toList = some x2 := by
        rw [← hy9.1]
        simpa using e2
      obtain ⟨hr, hrr⟩ := read_row T.toValTy T.hVs e2' hy9.2
      exact ⟨rfl, wf_u8 r0, hxr, hrr, [y1, y2, y3, y4, y5, y6, y7, y8], y9, rfl, rfl, hx, hr⟩
theorem pers_null {tN tE tEs tVs tV tI tJ tS tU tB : TypeId} (T : NullTy P tN tE tEs tVs tV tI tJ tS tU tB) (hl : laidOutB P = true) (hr : P.readableRec tN = true ∧ tN < P.types.size) {W : World} {v : Value} {d : DataW H} {ps : List MemPlace}
    (h : DataW.Trod enc P W 0 (fun _ => true) true tN v d ps) (hlt : ∀ p ∈ ps, p.block < W.heap.size) : ∃ op x vals left, Pers noX W (NullR op x vals left v) ∧ (0 ≤ op ∧ op < 256) ∧ exRng x ∧ ∀ y ∈ vals, y.rng := by
  obtain ⟨n, hn⟩ := h
  cases n with
  | zero => simp [DataW.trod] at hn
  | succ n =>
    obtain ⟨h11, h0, h1, h2, h3⟩ := read_null T hn
    have hv : ∃ cs, v = .agg cs := by
      cases v with
      | agg cs => exact ⟨cs, rfl⟩
      | _ => simp [Value.cells] at h11
    obtain ⟨cs, rfl⟩ := hv
    refine ⟨_, _, _, (nullOf n d).2.2.2, fun W' hk => ?_, h0, h1, h2⟩
    have := DataW.trod_stays (sp' := fun _ => true) (kids_book hl hr.1) (book_sized hr.1) (fun h => by cases h) ⟨hr.2, book_self tN⟩ hn (fun x hx => hk.below.same (hlt x hx)) (fun _ _ => rfl)
    obtain ⟨_, _, _, _, h3'⟩ := read_null T this
    simpa [Value.cells] using h3'
end
end Go.Vc
namespace Go.Vc
open Go
theorem ob_exNil {P : Program} {L : List Own} {Φ : List (World → Prop)} {H : Know} {o : Oper} {k vk vn : Int} {vs tb nm : ByteArray} {sl : Int} {cap : Nat} {a : Option Addr} (h : Ob P L Φ H o (.is (.agg (exCells k vk vn vs tb nm sl a 0 cap).toArray))) : Ob P L Φ H o (.rep (ExR (.mk k vk vn vs tb nm sl []))) := fun E w ρ hp =>
  Runs.mono (h E w ρ hp) fun v w' ⟨hk, e⟩ => ⟨hk, by rw [show v = _ from e]; exact fun w'' _ => exR_mk.2 ⟨a, 0, cap, rfl, rfl, fun h => absurd rfl h⟩⟩
end Go.Vc
