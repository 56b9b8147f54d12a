/- The program logic, part 4. No condition. -/
import Derived.Test.YtgpikmonklainaaXG2
import Derived.MapKept
import Derived.Below
import Derived.Laws.IdiomStrings
import Derived.Laws.Strings3
namespace Go.Vc
open Go
theorem keeps_claim {E E0 : Nat → Prop} {w w0 : World} {b : Nat} (h : Pers E w (Keeps E0 w0)) (hb : w0.heap.size ≤ b) : Pers (fun q => E q ∨ q = b) w (Keeps E0 w0) := by
  intro w' hk
  have hn := h.now
  refine ⟨hk.os.trans hn.os, hk.tape.trans hn.tape, hk.output.trans hn.output, Nat.le_trans hn.size hk.size, fun q hq hx => ?_, fun q cs t fr hq => ?_⟩
  · have hqw : q < w.heap.size := Nat.lt_of_lt_of_le hq hn.size
    have hqw' : q < w'.heap.size := Nat.lt_of_lt_of_le hqw hk.size
    by_cases he : E q
    ·
      have h1 := h { w with heap := w.heap.set q w'.heap[q] hqw } ⟨rfl, rfl, rfl, by simp, fun r hr hne => by
        have : q ≠ r := fun e => hne (e ▸ he)
        simp [Array.getElem?_set, this], fun r cs t fr hr => by
        by_cases e : q = r
        · subst e
          obtain ⟨cs', h2, h3⟩ := hk.shp q cs t fr hr
          refine ⟨cs', ?_, h3⟩
          rw [Array.getElem?_eq_getElem hqw'] at h2
          simpa using h2
        · exact ⟨cs, by simp [Array.getElem?_set, e, hr], rfl⟩⟩
      have h2 := h1.blk q hq hx
      rw [← h2, Array.getElem?_eq_getElem hqw']
      simp
    · have hne : ¬ (E q ∨ q = b) := fun h => h.elim he (fun e => by omega)
      exact (hk.blk q hqw hne).trans (hn.blk q hq hx)
  · obtain ⟨cs1, h1, e1⟩ := hn.shp q cs t fr hq
    obtain ⟨cs2, h2, e2⟩ := hk.shp q cs1 t fr h1
    exact ⟨cs2, h2, e2.trans e1⟩
def Ty.isIs : Ty → Bool
  | .is _ => true
  | _ => false
def Fresh (N : Nat) (e : TypeId) (a : Option Addr) (n sz : Nat) (w : World) : Prop := n ≠ 0 → ∃ b cs, a = some ⟨b, 0, none⟩ ∧ N ≤ b ∧ w.heap[b]? = some (.cells cs e (0, 0)) ∧ n * sz ≤ cs.size
theorem look_is : ∀ {K : List (Nat × Ty)}, K.all (fun p => p.2.isIs) = true → ∀ s T, look K s = some T → ∃ v, T = .is v
  | [], _, s, T, h => by cases h
  | (t, U) :: K, ha, s, T, h => by
    simp only [List.all_cons, Bool.and_eq_true] at ha
    unfold look at h
    cases hb : Nat.beq t s
    · rw [hb] at h
      exact look_is ha.2 s T h
    · rw [hb] at h
      injection h with h
      subst h
      cases U with
      | is v => exact ⟨v, rfl⟩
      | _ => simp [Ty.isIs] at ha
section
variable {P : Program} {c : Ctx} {K K' : List (Nat × Ty)} {L L' : List Own} {Φ Φ0 : List (World → Prop)} {Q : Exit → Act → World → Prop}
theorem J.mark {x : Code} (h : ∀ (E0 : Nat → Prop) (w0 : World), c.W0.heap.size ≤ w0.heap.size → (∀ F ∈ Φ, Pers E0 w0 F) → J P c K L ((fun w => w0.heap.size ≤ w.heap.size) :: Keeps E0 w0 :: Φ) x Q) : J P c K L Φ x Q :=
  ⟨fun E a w hs => (h E w hs.keeps.size hs.f).out E a w ⟨hs.n, hs.d, hs.wf, hs.k, hs.l, hs.ld, fun F hF => by
    rcases List.mem_cons.1 hF with rfl | hF
    · exact fun w' hk => hk.size
    · rcases List.mem_cons.1 hF with rfl | hF
      · exact fun w' hk => hk
      · exact hs.f F hF, hs.x, hs.xs, hs.keeps, hs.may⟩⟩
theorem J.coer {x : Code} {s : Nat} {T T' : Ty} (h : look K s = some T) (hS : Sub L Φ T T') (hj : J P c ((s, T') :: K) L Φ x Q) : J P c K L Φ x Q :=
  ⟨fun E a w hs => hj.out E a w ⟨hs.n, hs.d, hs.wf, fun s' U hl => by
    simp only [look] at hl
    cases hq : Nat.beq s s' with
    | true =>
      rw [hq, cond_true] at hl
      injection hl with hl
      subst hl
      rw [← Nat.eq_of_beq_eq_true hq]
      exact hS E _ w ⟨hs.l, hs.f⟩ (hs.k s T h)
    | false => rw [hq, cond_false] at hl; exact hs.k s' U hl, hs.l, hs.ld, hs.f, hs.x, hs.xs, hs.keeps, hs.may⟩⟩
end
section
variable {P : Program} {fn : Func} {R : Ty} {n : Nat}
end
def FExR (N : Nat) (tE : TypeId) (x : Ex) (v : Value) (w : World) : Prop := ExR x v w ∧ ∃ a len cap, v = .agg (exCells x.K x.VK x.VN x.VS x.TB x.NM x.SL a len cap).toArray ∧ Fresh N tE a len 8 w
def NExR (N : Nat) (x : Ex) (v : Value) (w : World) : Prop := N ≤ w.heap.size ∧ ExR x v w
section
variable {L : List Own} {Φ : List (World → Prop)}
end
section
variable {P : Program} {c : Ctx} {K : List (Nat × Ty)} {L : List Own} {Φ : List (World → Prop)} {Q : Exit → Act → World → Prop}
end
end Go.Vc
namespace Go.Vc
open Go
section
variable {P : Program} {c : Ctx} {K : List (Nat × Ty)} {L : List Own} {Φ : List (World → Prop)} {Q : Exit → Act → World → Prop}
end
end Go.Vc

namespace Go.Vc
open Go
section
variable {P : Program} {c : Ctx} {K : List (Nat × Ty)} {L : List Own} {Φ : List (World → Prop)} {Q : Exit → Act → World → Prop}
structure JM (P : Program) (c : Ctx) (K : List (Nat × Ty)) (L : List Own) (Φ : List (World → Prop)) (r : Nat) (es : Array MapEntry) (cl : Nat) (ops : Array Oper) (l : List Oper) (Q : Exit → Act → World → Prop) : Prop where
  out : ∀ E a w, SA c K L Φ E a w → r = w.heap.size → wpList P ops Q l a (w.alloc (.map es cl))
variable {ops : Array Oper} {rest : List Oper} {d : Nat} {ty t : TypeId} {pos : String} {after : Array Edge} {r cl : Nat} {es : Array MapEntry}
end
end Go.Vc
namespace Go.Vc
open Go
structure C4 where
  n : ByteArray
  ty : Int
  nn : Bool
  un : Bool
def C4.cells (c : C4) : List Value := [.string c.n, .int .i64 c.ty, .bool c.nn, .bool c.un]
def c4D : C4 := ⟨⟨#[]⟩, 0, false, false⟩
structure I4 where
  n : ByteArray
  t : ByteArray
  col : Int
  h : Bool
def I4.cells (c : I4) : List Value := [.string c.n, .string c.t, .int .i64 c.col, .bool c.h]
def i4D : I4 := ⟨⟨#[]⟩, ⟨#[]⟩, 0, false⟩
def TabR (nm : ByteArray) (cols : List C4) (v : Value) (w : World) : Prop := ∃ a len cap, v = .agg [.string nm, .slice a len cap].toArray ∧ RowG C4.cells 4 cols a len w
section
variable {P : Program} {c : Ctx} {K : List (Nat × Ty)} {L : List Own} {Φ : List (World → Prop)} {Q : Exit → Act → World → Prop}
end
section
variable {P : Program} {L : List Own} {Φ : List (World → Prop)} {H : Know} {dst : Option Nat} {ty : TypeId} {pos : String} {after : Array Edge} {g : Option (Nat × Bool)}
end
end Go.Vc
namespace Go.Vc
open Go
section
variable {P : Program} {K : List (Nat × Ty)} {L : List Own} {Φ : List (World → Prop)} {fn : Func} {n : Nat} {X : Nat → Prop} {W : World}
end
end Go.Vc

namespace Go.Vc
open Go
section
variable {P : Program}
structure REq (P : Program) (t tv ti tj ts : TypeId) : Prop extends VEq P tv ti tj ts where
  rt : P.underlying t = some (.struct (P.fieldsOf t))
  rp : P.stoodInHeld t = false
  rg : P.eqGuardType P.depth t = false
  rf : (P.fieldsOf t).toList.map (fun f => (f.name == "_", f.type, f.offset)) = [(false, ts, 0), (false, ti, 1), (false, tv, 2), (false, tv, 5)]
  rs : (P.info? tv).map (·.size) = some 3
variable {L : List Own} {Φ : List (World → Prop)} {H : Know} {dst : Option Nat} {ty : TypeId} {pos : String} {after : Array Edge} {g : Option (Nat × Bool)} {yt : TypeId} {x y : Operand}
end
end Go.Vc

namespace Go.Vc
open Go
section
variable {P : Program} {L : List Own} {Φ : List (World → Prop)} {H : Know} {dst : Option Nat} {ty : TypeId} {pos : String} {after : Array Edge} {g : Option (Nat × Bool)}
theorem ob_sliceHi {t e : TypeId} {x hi : Operand} {a : Option Addr} {len cap sz : Nat} {k : IntKind} {n : Int} (hu : P.underlying t = some (.slice e)) (hs : elSize P t = some sz) (hx : H x (.is (.slice a len cap))) (hh : H hi (.is (.int k n))) (h0 : 0 ≤ n) (h1 : n ≤ cap) :
    Ob P L Φ H ⟨dst, .slice t x none (some hi) none, ty, pos, after, g⟩ (.is (.slice a n.toNat cap)) :=
  ob_is fun E w ρ hp => by
    have e1 : ρ x = .slice a len cap := hp.x x _ (by simp [Op.operands]) hx
    have e2 : ρ hi = .int k n := hp.x hi _ (by simp [Op.operands]) hh
    have hel : P.elem t = e := by unfold Program.elem; rw [hu]
    have hu' : P.underlying t = some (.slice (P.elem t)) := by rw [hel]; exact hu
    have hsz : (sizeOf (P.elem t)).run P w = .ok sz w := by
      unfold elSize at hs
      rw [hu] at hs
      rw [hel]
      simp only at hs
      cases hi' : P.info? e with
      | none => rw [hi'] at hs; cases hs
      | some i => rw [hi', Option.map_some, Option.some.injEq] at hs; simp [Go.sizeOf, typeInfo, hi', hs]
    have ha : (if cap = 0 then a else a.map (·.add (0 * sz))) = a := by
      split
      · rfl
      · cases a with
        | none => rfl
        | some p => simp [add_0]
    simp only [execOp, e1, e2, Option.map_some, Option.map_none]
    have h := run_slice_h (P := P) w t a len cap hu' k n h0 h1
    have hsl : (Instr.sliceAt t (.slice a len cap) none (some (.int k n)) none).run P w = .ok (.slice a n.toNat cap) w := by
      rw [run_sliceAt_slice (P := P) w t _ _ _ _ hu', h, hsz, Result.andThen_ok]
      simp only [sliced, Nat.sub_zero]
      rw [ha]
    simp [hsl]
end
structure Rd where
  t : ByteArray
  col : Int
  lo : V3
  hi : V3
abbrev rdV (r : Rd) : Value := .agg #[.string r.t, .int .i64 r.col, .int .i64 r.lo.k, .int .i64 r.lo.n, .string r.lo.s, .int .i64 r.hi.k, .int .i64 r.hi.n, .string r.hi.s]
def wideCells (r : Rd) (lo hi : V3) (rv : Value) : List Value := [.string r.t, .int .i64 r.col, .int .i64 r.lo.k, .int .i64 r.lo.n, .string r.lo.s, .int .i64 r.hi.k, .int .i64 r.hi.n, .string r.hi.s, .int .i64 lo.k, .int .i64 lo.n, .string lo.s, .int .i64 hi.k, .int .i64 hi.n, .string hi.s, rv]
def WideR (r : Rd) (lo hi : V3) (vals : List V3) (v : Value) (w : World) : Prop := ∃ a len cap, v = .agg (wideCells r lo hi (.slice a len cap)).toArray ∧ len ≤ cap ∧ RowR vals a len w
section
variable {P : Program} {c : Ctx} {K : List (Nat × Ty)} {L : List Own} {Φ : List (World → Prop)} {Q : Exit → Act → World → Prop}
end
section
variable {L : List Own} {Φ : List (World → Prop)}
end
end Go.Vc

namespace Go.Vc
open Go
structure WideTy (P : Program) (tW tR tVs tV tI tJ tS : TypeId) : Prop extends ValTy P tV tI tJ tS where
  hR : P.underlying tR = some (.struct (P.fieldsOf tR))
  fR : (P.fieldsOf tR).map (fun f => (f.type, f.offset)) = #[(tS, 0), (tI, 1), (tV, 2), (tV, 5)]
  cR : P.cellsOf tR = 8
  hW : P.underlying tW = some (.struct (P.fieldsOf tW))
  fW : (P.fieldsOf tW).map (fun f => (f.type, f.offset)) = #[(tR, 0), (tV, 8), (tV, 11), (tVs, 14)]
  cW : P.cellsOf tW = 15
  hVs : P.underlying tVs = some (.slice tV)
  cVs : P.cellsOf tVs = 1
def rdOf {H : Type} : DataW H → Rd
  | .agg [.lit (.string t), .lit (.int _ c), a, b] => ⟨⟨t.toArray⟩, c, v3Of a, v3Of b⟩
  | _ => ⟨⟨#[]⟩, 0, ⟨0, 0, ⟨#[]⟩⟩, ⟨0, 0, ⟨#[]⟩⟩⟩
def wideOf {H : Type} : DataW H → Rd × V3 × V3 × List V3
  | .agg [r, a, b, row] => (rdOf r, v3Of a, v3Of b, rowOf row)
  | _ => (⟨⟨#[]⟩, 0, ⟨0, 0, ⟨#[]⟩⟩, ⟨0, 0, ⟨#[]⟩⟩⟩, ⟨0, 0, ⟨#[]⟩⟩, ⟨0, 0, ⟨#[]⟩⟩, [])
section
variable {H : Type} {enc : TypeId × Value → H} {P : Program} {w : World} {base : Nat} {spare : Nat → Bool} {held : Bool}
end
end Go.Vc

namespace Go.Vc
open Go Go.RowKit
section
variable {P : Program} {K : List (Nat × Ty)} {L : List Own} {Φ : List (World → Prop)} {fn : Func} {n : Nat} {X : Nat → Prop} {W : World}
theorem JX.ret2sub {t u : Nat} {T T' A B : Ty} (hres : fn.results = #[.tmp t, .tmp u]) (ho : (Ty.tup2 A B).out = true) (h : look K t = some T) (hS : Sub L Φ T A) (h' : look K u = some T') (hS' : Sub L Φ T' B) : JX ⟨n, X, noX, W⟩ K L Φ .ret (bodyPost P fn (Post X W (.tup2 A B))) :=
  JX.retOf ho fun _ _ _ hs => ⟨_, results_tmp2 hres _ _ _, _, _, rfl, hS _ _ _ ⟨hs.l, hs.f⟩ (hs.k t _ h), hS' _ _ _ ⟨hs.l, hs.f⟩ (hs.k u _ h')⟩
theorem Sub.isEq {V V' : Value} (h : V = V') : Sub L Φ (.is V) (.is V') := h ▸ Sub.rfl'
end
end Go.Vc

namespace Go.Vc
open Go
def AskR (nm : ByteArray) (cols : List C4) (ixs : List I4) (v : Value) (w : World) : Prop :=
  ∃ wa wl wc a len cap ia il ic, v = .agg [.slice wa wl wc, .string nm, .slice a len cap, .slice ia il ic].toArray ∧ RowG C4.cells 4 cols a len w ∧ RowG I4.cells 4 ixs ia il w
section
variable {P : Program} {c : Ctx} {K : List (Nat × Ty)} {L : List Own} {Φ : List (World → Prop)} {Q : Exit → Act → World → Prop}
end
structure AskTy (P : Program) (tA tX tT tC tI tCs tIs tS tN tB : TypeId) : Prop where
  hA : P.underlying tA = some (.struct (P.fieldsOf tA))
  fA : (P.fieldsOf tA).map (fun f => (f.type, f.offset)) = #[(tX, 0), (tT, 1), (tIs, 3)]
  cA : P.cellsOf tA = 4
  hX : ∃ e, P.underlying tX = some (.slice e)
  cX : P.cellsOf tX = 1
  hT : P.underlying tT = some (.struct (P.fieldsOf tT))
  fT : (P.fieldsOf tT).map (fun f => (f.type, f.offset)) = #[(tS, 0), (tCs, 1)]
  cT : P.cellsOf tT = 2
  hCs : P.underlying tCs = some (.slice tC)
  cCs : P.cellsOf tCs = 1
  hIs : P.underlying tIs = some (.slice tI)
  cIs : P.cellsOf tIs = 1
  hC : P.underlying tC = some (.struct (P.fieldsOf tC))
  fC : (P.fieldsOf tC).map (fun f => (f.type, f.offset)) = #[(tS, 0), (tN, 1), (tB, 2), (tB, 3)]
  cC : P.cellsOf tC = 4
  hI : P.underlying tI = some (.struct (P.fieldsOf tI))
  fI : (P.fieldsOf tI).map (fun f => (f.type, f.offset)) = #[(tS, 0), (tS, 1), (tN, 2), (tB, 3)]
  cI : P.cellsOf tI = 4
  hS : P.underlying tS = some .string
  cS : P.cellsOf tS = 1
  hN : P.underlying tN = some (.int .i64)
  cN : P.cellsOf tN = 1
  hB : P.underlying tB = some .bool
  cB : P.cellsOf tB = 1
def c4Of {H : Type} : DataW H → C4
  | .agg [.lit (.string n), .lit (.int _ t), .lit (.bool a), .lit (.bool b)] => ⟨⟨n.toArray⟩, t, a, b⟩
  | _ => c4D
def i4Of {H : Type} : DataW H → I4
  | .agg [.lit (.string n), .lit (.string t), .lit (.int _ c), .lit (.bool b)] => ⟨⟨n.toArray⟩, ⟨t.toArray⟩, c, b⟩
  | _ => i4D
def askOf {H : Type} : DataW H → ByteArray × DataW H × DataW H
  | .agg [_, .agg [.lit (.string n), cs], is] => (⟨n.toArray⟩, cs, is)
  | _ => (⟨#[]⟩, .nil, .nil)
section
variable {H : Type} {enc : TypeId × Value → H} {P : Program} {w : World} {base : Nat} {spare : Nat → Bool} {held : Bool}
end
end Go.Vc

namespace Go.Vc
open Go
def sb (s : ByteArray) (i : Nat) : Int := ((s.data.toList.getD i 0).toNat : Int)
def bC (b : UInt8) : List Value := [.int .u8 b.toNat]
section
variable {P : Program} {L : List Own} {Φ : List (World → Prop)} {H : Know} {dst : Option Nat} {ty : TypeId} {pos : String} {after : Array Edge} {g : Option (Nat × Bool)}
end
end Go.Vc

namespace Go.Vc
open Go
structure CallF (P : Program) (f : FuncId) (Fs : List (World → Prop)) (As : List Ty) (R : Ty) : Prop where
  enter : ∀ args w, (callFunc f args).run P w = .ok (.enter f args) w
  calls : ∀ (E : Nat → Prop) (w : World) (vs : List Value), (∀ b, E b → b < w.heap.size) → (∀ F ∈ Fs, Pers E w F) → TyAll E w As vs →
    Calls P f vs.toArray w fun e w' => ∃ v, e = .returned v ∧ Keeps noX w w' ∧ R.p E v w'
structure CallMR (P : Program) (f : FuncId) (ety : TypeId) (V0 : Value) (Φ0 : List (World → Prop)) (As : List Ty) (V1 : Value) (R : Nat → Ty) : Prop where
  enter : ∀ args w, (callFunc f args).run P w = .ok (.enter f args) w
  calls : ∀ (E : Nat → Prop) (w : World) (b : Nat) (vs : List Value), (∀ b, E b → b < w.heap.size) → E b → w.heap[b]? = some (.cells V0.cells ety (0, 0)) → (∀ F ∈ Φ0, Pers E w F) → TyAll E w As vs →
    Calls P f (.pointer (some ⟨b, 0, none⟩) :: vs).toArray w fun e w' => ∃ v, e = .returned v ∧ Keeps (fun q => q = b) w w' ∧ w'.heap[b]? = some (.cells V1.cells ety (0, 0)) ∧ (R b).p E v w'
def MethV (P : Program) (b : Nat) (fv : Value) (ety : TypeId) (V0 : Value) (Φ0 : List (World → Prop)) (As : List Ty) (V1 : Value) (R : Ty) : Prop :=
  ∃ f, fv = .func (.func f) #[.pointer (some ⟨b, 0, none⟩)] #[] ∧ CallM P f ety V0 Φ0 As V1 R
section
variable {P : Program} {L : List Own} {Φ : List (World → Prop)} {H : Know} {dst : Option Nat} {ty : TypeId} {pos : String} {after : Array Edge} {g : Option (Nat × Bool)}
theorem JX.normal_ret {c : Ctx} {K : List (Nat × Ty)} {fn : Func} {N : Ending → World → Prop} (h : JX c K L Φ .ret (bodyPost P fn N)) : JX c K L Φ .normal (bodyPost P fn N) := ⟨h.out⟩
def PostMR (X : Nat → Prop) (W : World) (b : Nat) (ety : TypeId) (V1 : Value) (R : Ty) : Ending → World → Prop := PostM X W b ety V1 R
variable {fn : Func} {R : Ty} {n : Nat}
variable {K : List (Nat × Ty)} {X : Nat → Prop} {W : World}
end
structure T3 where
  k : Int
  t : ByteArray
  n : Int
def T3.cells (t : T3) : List Value := [.int .i64 t.k, .string t.t, .int .i64 t.n]
def t3D : T3 := ⟨0, ⟨#[]⟩, 0⟩
abbrev tv (t : T3) : Value := .agg #[.int .i64 t.k, .string t.t, .int .i64 t.n]
def teq (a b : T3) : Bool := (a.k == b.k) && (seq a.t b.t && (a.n == b.n))
structure TEq (P : Program) (t ti ts tj : TypeId) : Prop where
  ht : P.underlying t = some (.struct (P.fieldsOf t))
  hp : P.stoodInHeld t = false
  hg : P.eqGuardType P.depth t = false
  hf : (P.fieldsOf t).toList.map (fun f => (f.name == "_", f.type, f.offset)) = [(false, ti, 0), (false, ts, 1), (false, tj, 2)]
  h1 : P.underlying ti = some (.int .i64)
  h2 : P.underlying ts = some .string
  h3 : P.underlying tj = some (.int .i64)
section
variable {P : Program}
variable {L : List Own} {Φ : List (World → Prop)} {H : Know} {dst : Option Nat} {ty : TypeId} {pos : String} {after : Array Edge} {g : Option (Nat × Bool)} {yt : TypeId} {x y : Operand}
end
def dr (s : ByteArray) (i : Nat) : List UInt8 := s.data.toList.drop i
def by_ (s : ByteArray) (i : Nat) : UInt8 := s.data.toList.getD i 0
end Go.Vc

namespace Go.Vc
open Go
section
variable {P : Program} {c : Ctx} {K : List (Nat × Ty)} {L L' : List Own} {Φ : List (World → Prop)} {Q : Exit → Act → World → Prop}
end
end Go.Vc
