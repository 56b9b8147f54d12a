/- The document's numbers. No condition. -/
import Derived.Test.YtjjgckmdfblmgaaDoorXRD
set_option maxRecDepth 100000
namespace Go.Proofs.YtjjgckmdfblmgaaDoor
open Go Go.Vc
theorem w8 (x : Int) : IntKind.u8.wrap x = x % 256 := by
  unfold IntKind.wrap
  simp [IntKind.bits, IntKind.signed]
theorem w64u (x : Int) : IntKind.u64.wrap x = x % 18446744073709551616 := by
  unfold IntKind.wrap
  simp [IntKind.bits, IntKind.signed]
def overF (u d : Int) : Bool := decide (922337203685477580 < u) || ((u == 922337203685477580) && decide (7 < d))
def dgU (b : UInt8) : Int := IntKind.u64.wrap (IntKind.u8.wrap ((b.toNat : Int) - 48))
def refG : List UInt8 → Int → Option Int
  | [], u => some u
  | x :: l, u => if overF u (dgU x) then none else refG l (IntKind.u64.wrap (IntKind.u64.wrap (10 * u) + dgU x))
def refNum (l : List UInt8) : Int × Bool := match refG l 0 with | none => (0, false) | some u => (IntKind.i64.wrap u, true)
theorem dig_rng {b : UInt8} (h : digB b = true) : 48 ≤ (b.toNat : Int) ∧ (b.toNat : Int) ≤ 57 := by
  unfold digB digitF at h
  simpa using h
theorem fold_35 : ∀ (l : List UInt8) (m : Int), (l.foldl numStep (m, 35)).2 = 35
  | [], _ => rfl
  | x :: l, m => by
    rw [List.foldl_cons]
    have : (numStep (m, 35) x).2 = 35 := by unfold numStep; split <;> rfl
    rw [show numStep (m, 35) x = ((numStep (m, 35) x).1, 35) from Prod.ext rfl this]
    exact fold_35 l _
theorem num_agree : ∀ (l : List UInt8) (u : Int), (∀ b ∈ l, digB b = true) → 0 ≤ u → u ≤ 9223372036854775807 →
    (refG l u = none → (l.foldl numStep (u, 0)).2 = 35) ∧ (∀ v, refG l u = some v → l.foldl numStep (u, 0) = (v, 0) ∧ 0 ≤ v ∧ v ≤ 9223372036854775807)
  | [], u, _, h0, h1 => ⟨fun h => (by cases h), fun v h => (by injection h with h; subst h; exact ⟨rfl, h0, h1⟩)⟩
  | x :: l, u, hd, h0, h1 => by
    obtain ⟨d0, d1⟩ := dig_rng (hd x List.mem_cons_self)
    have e8 : IntKind.u8.wrap ((x.toNat : Int) - 48) = (x.toNat : Int) - 48 := by rw [w8]; omega
    have eu : dgU x = (x.toNat : Int) - 48 := by unfold dgU; rw [e8, w64u]; omega
    have ei : IntKind.i64.wrap ((x.toNat : Int) - 48) = (x.toNat : Int) - 48 := wrap64_eq (by omega) (by omega)
    have em : IntKind.i64.wrap (9223372036854775807 - ((x.toNat : Int) - 48)) = 9223372036854775807 - ((x.toNat : Int) - 48) := wrap64_eq (by omega) (by omega)
    have eq : IntKind.i64.wrap ((9223372036854775807 - ((x.toNat : Int) - 48)).tdiv 10) = (9223372036854775807 - ((x.toNat : Int) - 48)) / 10 := by
      rw [Int.tdiv_eq_ediv_of_nonneg (by omega)]
      exact wrap64_eq (by omega) (by omega)
    have es : numStep (u, 0) x = (IntKind.i64.wrap (IntKind.i64.wrap (10 * u) + ((x.toNat : Int) - 48)), if decide ((9223372036854775807 - ((x.toNat : Int) - 48)) / 10 < u) then 35 else 0) := by
      unfold numStep
      rw [e8, ei, em, eq]
    rw [List.foldl_cons, refG, eu, es]
    by_cases ho : overF u ((x.toNat : Int) - 48) = true
    · rw [if_pos ho]
      have : (9223372036854775807 - ((x.toNat : Int) - 48)) / 10 < u := by
        unfold overF at ho
        simp only [Bool.or_eq_true, decide_eq_true_eq, Bool.and_eq_true, beq_iff_eq] at ho
        omega
      rw [if_pos (decide_eq_true this)]
      exact ⟨fun _ => fold_35 l _, fun v h => (by cases h)⟩
    · rw [if_neg ho]
      have hn : ¬ (9223372036854775807 - ((x.toNat : Int) - 48)) / 10 < u := by
        unfold overF at ho
        simp only [Bool.or_eq_true, decide_eq_true_eq, Bool.and_eq_true, beq_iff_eq, not_or, not_and] at ho
        omega
      rw [if_neg (by rw [decide_eq_false hn]; simp)]
      have e1 : IntKind.u64.wrap (IntKind.u64.wrap (10 * u) + ((x.toNat : Int) - 48)) = 10 * u + ((x.toNat : Int) - 48) := by
        rw [w64u, w64u]; omega
      have e2 : IntKind.i64.wrap (IntKind.i64.wrap (10 * u) + ((x.toNat : Int) - 48)) = 10 * u + ((x.toNat : Int) - 48) := by
        rw [wrap64_eq (n := 10 * u) (by omega) (by omega)]
        exact wrap64_eq (by omega) (by omega)
      rw [e1, e2]
      exact num_agree l _ (fun b hb => hd b (List.mem_cons_of_mem _ hb)) (by omega) (by omega)
theorem num_ref {l : List UInt8} (hl : headP letB (l.drop (runN digB l)) = false) :
    numL l = if (refNum (l.take (runN digB l))).2 then (⟨3, ⟨#[]⟩, (refNum (l.take (runN digB l))).1⟩, 0) else (t3D, 35) := by
  have h := num_agree (l.take (runN digB l)) 0 (run_all digB l) (Int.le_refl _) (by decide)
  have e : numE l = ((l.take (runN digB l)).foldl numStep (0, 0)).2 := by unfold numE; rw [hl]; rfl
  unfold numL refNum
  rw [e]
  cases hr : refG (l.take (runN digB l)) 0 with
  | none =>
    rw [h.1 hr]
    rfl
  | some v =>
    obtain ⟨h1, h2, h3⟩ := h.2 v hr
    rw [h1]
    simp only [bne_self_eq_false, Bool.false_eq_true, if_false, if_true]
    rw [wrap64_eq (by omega) (by omega)]
theorem num_let {l : List UInt8} (hl : headP letB (l.drop (runN digB l)) = true) : numL l = (t3D, 30) := by
  have e : numE l = 30 := by unfold numE; rw [hl]; rfl
  unfold numL
  rw [e]
  rfl
end Go.Proofs.YtjjgckmdfblmgaaDoor
