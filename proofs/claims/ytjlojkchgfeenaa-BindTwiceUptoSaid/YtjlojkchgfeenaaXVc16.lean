/- Ranges. No condition. -/
import Derived.Test.YtjlojkchgfeenaaXVc15
namespace Go.Vc
open Go
def I64 (n : Int) : Prop := -9223372036854775808 ≤ n ∧ n < 9223372036854775808
def V3.rng (v : V3) : Prop := I64 v.k ∧ I64 v.n
mutual
def exRng : Ex → Prop
  | .mk k vk vn _ _ _ sl kids => I64 k ∧ I64 vk ∧ I64 vn ∧ I64 sl ∧ exsRng kids
def exsRng : List Ex → Prop
  | [] => True
  | x :: xs => exRng x ∧ exsRng xs
end
theorem exsRng_mem : ∀ {kids : List Ex} {x : Ex}, exsRng kids → x ∈ kids → exRng x
  | _ :: _, x, h, hx => by
    rw [exsRng] at h
    rcases List.mem_cons.1 hx with rfl | hx
    · exact h.1
    · exact exsRng_mem h.2 hx
theorem w64 (n : Int) : IntKind.i64.wrap n = (n + 9223372036854775808) % 18446744073709551616 - 9223372036854775808 := by
  simp only [IntKind.wrap, IntKind.bits, IntKind.signed]
  simp
  try omega
theorem wu64 (n : Int) : IntKind.u64.wrap n = n % 18446744073709551616 := by simp [IntKind.wrap, IntKind.bits, IntKind.signed]
theorem wrap_rng (n : Int) : I64 (IntKind.i64.wrap n) := by
  rw [w64]
  unfold I64
  omega
theorem i64_wrap {n : Int} (h : I64 n) : IntKind.i64.wrap n = n := wrap64_eq h.1 h.2
end Go.Vc
namespace Go.Vc
open Go
section
variable {P : Program} {L : List Own} {Φ : List (World → Prop)} {H : Know} {dst : Option Nat} {ty : TypeId} {pos : String} {after : Array Edge} {g : Option (Nat × Bool)}
theorem ob_indexAddrA {t e : TypeId} {x i : Operand} {b o m sz : Nat} {k : IntKind} {n : Int} (hu : P.underlying t = some (.array m e)) (hs : (P.info? e).map (·.size) = some sz) (hx : H x (.is (.pointer (some ⟨b, o, none⟩)))) (hi : H i (.is (.int k n))) (h0 : 0 ≤ n) (h1 : n < m) :
    Ob P L Φ H ⟨dst, .indexAddr t x i, ty, pos, after, g⟩ (.is (.pointer (some ⟨b, o + n.toNat * sz, none⟩))) :=
  ob_is fun E w ρ hp => by
    have e1 : ρ x = .pointer (some ⟨b, o, none⟩) := hp.x x _ (by simp [Op.operands]) hx
    have e2 : ρ i = .int k n := hp.x i _ (by simp [Op.operands]) hi
    cases hq : P.info? e with
    | none => simp [hq] at hs
    | some ie =>
      simp only [hq, Option.map_some, Option.some.injEq] at hs
      simp [execOp, e1, e2, Instr.indexAt, Instr.sureAddr, asIntOf, run_underlying hu, h0, h1, sizeOf, typeInfo, hq, hs, add_at]
end
end Go.Vc
namespace Go.Vc
open Go
section
variable {P : Program} {L : List Own} {Φ : List (World → Prop)} {H : Know} {dst : Option Nat} {ty : TypeId} {pos : String} {after : Array Edge} {g : Option (Nat × Bool)}
theorem agg_ex {x : Ex} : ∀ E v w, (Ty.rep (ExR x)).p E v w → ∃ cs, v = .agg cs ∧ cs.size = 8 := fun E v w h => by
  obtain ⟨k, vk, vn, vs, tb, nm, sl, a, len, cap, e⟩ := exR_agg (Pers.now h)
  exact ⟨_, e, rfl⟩
theorem cnt_ex {x : Ex} : Cnt (.rep (ExR x)) 8 := fun E v w h => by
  obtain ⟨k, vk, vn, vs, tb, nm, sl, a, len, cap, e⟩ := exR_agg (Pers.now h)
  subst e
  exact ⟨rfl, by intro u hu; simp [exCells, Value.cells] at hu; rcases hu with rfl | rfl | rfl | rfl | rfl | rfl | rfl | rfl <;> rfl⟩
theorem ob_ldEx {t ety : TypeId} {x : Operand} {b : Nat} {ex : Ex} (hs : szOf P t = some (some 8)) (hx : H x (.is (.pointer (some ⟨b, 0, none⟩)))) [hm : HasOwn L b ety (.rep (ExR ex))] : Ob P L Φ H ⟨dst, .load t x, ty, pos, after, g⟩ (.rep (ExR ex)) := fun E w ρ hp => by
  have h1 : ρ x = .pointer (some ⟨b, 0, none⟩) := hp.x x _ (by simp [Op.operands]) hx
  obtain ⟨v, hl, hv⟩ := res_cell (P := P) hs (hp.l _ hm.mem) agg_ex
  simp only [execOp, h1, Instr.loadAt, Instr.sureAddr, Sem.run_bind, Sem.run_pure, Result.andThen_ok, hl]
  exact ⟨.refl _ _, hv⟩
end
abbrev nodeE (k : Int) (kids : List Ex) : Ex := .mk k 0 0 ⟨#[]⟩ ⟨#[]⟩ ⟨#[]⟩ 0 kids
abbrev numE (n : Int) : Ex := .mk 1 1 n ⟨#[]⟩ ⟨#[]⟩ ⟨#[]⟩ 0 []
end Go.Vc
