/- Order: rows built in place. No condition. -/
import Derived.Test.YtgpikmonklainaaXOH
namespace Go.Od
open Go Go.Vc Go.Vl
theorem rv_of {row : List V3} {E : Nat → Prop} {v : Value} {w : World} (h : Pers E w (SlC V3.cells 3 row v)) : ∃ p : RV, v = p.v ∧ p.row = row ∧ Pers E w p.ok := by
  obtain ⟨a, len, cap, hv, _, _⟩ := h.now
  refine ⟨⟨row, a, len, cap⟩, hv, rfl, fun w' hk => ?_⟩
  obtain ⟨a', len', cap', e, h1, h2⟩ := h w' hk
  rw [hv] at e
  injection e with e1 e2 e3
  subst e1 e2 e3
  exact ⟨h1, h2⟩
section
variable {P : Program} {L : List Own} {Φ : List (World → Prop)} {H : Know} {dst : Option Nat} {ty : TypeId} {pos : String} {after : Array Edge} {g : Option (Nat × Bool)}
theorem ob_buildRows2 {t e : TypeId} {x0 x1 : Operand} {r0 r1 : List V3} (hsh : SlShape P t e 1 [.slice none 0 0]) (h0 : H x0 (.rep (SlC V3.cells 3 r0))) (h1 : H x1 (.rep (SlC V3.cells 3 r1))) :
    Ob P L Φ H ⟨dst, .buildSlice t 2 #[(0, x0), (1, x1)], ty, pos, after, g⟩ (.rep (RowsR noG [r0, r1])) := fun E w ρ hp => by
  have k0 : Pers E w (SlC V3.cells 3 r0 (ρ x0)) := hp.x x0 _ (by simp [Op.operands]) h0
  obtain ⟨p0, e0, m0, o0⟩ := rv_of k0
  have k1 : Pers E w (SlC V3.cells 3 r1 (ρ x1)) := hp.x x1 _ (by simp [Op.operands]) h1
  obtain ⟨p1, e1, m1, o1⟩ := rv_of k1
  have hb := run_buildSlice' (P := P) 2 (vs := [(0, p0.v), (1, p1.v)]) (cs := [p0.v, p1.v]) w hsh (by omega) (by omega) rfl rfl rfl
  have hr : (execOp ρ ⟨dst, .buildSlice t 2 #[(0, x0), (1, x1)], ty, pos, after, g⟩).run P w = .ok (.value (.slice (some ⟨w.heap.size, 0, none⟩) 2 2)) (w.alloc (.cells ([p0.v, p1.v] : List Value).toArray e)) := by
    simp only [execOp]
    have hb' : (Instr.buildSlice t 2 #[(0, p0.v), (1, p1.v)]).run P w = _ := hb
    simp [e0, e1, hb']
  rw [hr]
  refine ⟨Keeps.alloc w _, fun w2 hk => ?_⟩
  have hh : w2.heap[w.heap.size]? = some (.cells ([p0.v, p1.v] : List Value).toArray e (0, 0)) := hk.get (heap_alloc_at w _) (fun he => absurd (hp.wf _ he) (by omega))
  have hk2 : Keeps E w w2 := (Keeps.of_noX (Keeps.alloc w _)).trans hk
  obtain ⟨a, len, cap, e9, hg⟩ := sl_of_heap (enc := RV.c) (sz := 1) RV.c_len (xs := [p0, p1]) (n := 2) rfl rfl hh 2
  injection e9 with q1 q2 q3
  subst q1 q2 q3
  exact ⟨[p0, p1], _, _, _, by simp [m0, m1], rfl, Nat.le_refl _, hg, (fun p hm => by
    simp only [List.mem_cons, List.not_mem_nil, or_false] at hm
    rcases hm with rfl | rfl
    · exact o0 w2 hk2
    · exact o1 w2 hk2 : RVF [p0, p1] w2), trivial⟩
theorem ob_buildRows3 {t e : TypeId} {x0 x1 x2 : Operand} {r0 r1 r2 : List V3} (hsh : SlShape P t e 1 [.slice none 0 0]) (h0 : H x0 (.rep (SlC V3.cells 3 r0))) (h1 : H x1 (.rep (SlC V3.cells 3 r1))) (h2 : H x2 (.rep (SlC V3.cells 3 r2))) :
    Ob P L Φ H ⟨dst, .buildSlice t 3 #[(0, x0), (1, x1), (2, x2)], ty, pos, after, g⟩ (.rep (RowsR noG [r0, r1, r2])) := fun E w ρ hp => by
  have k0 : Pers E w (SlC V3.cells 3 r0 (ρ x0)) := hp.x x0 _ (by simp [Op.operands]) h0
  obtain ⟨p0, e0, m0, o0⟩ := rv_of k0
  have k1 : Pers E w (SlC V3.cells 3 r1 (ρ x1)) := hp.x x1 _ (by simp [Op.operands]) h1
  obtain ⟨p1, e1, m1, o1⟩ := rv_of k1
  have k2 : Pers E w (SlC V3.cells 3 r2 (ρ x2)) := hp.x x2 _ (by simp [Op.operands]) h2
  obtain ⟨p2, e2, m2, o2⟩ := rv_of k2
  have hb := run_buildSlice' (P := P) 3 (vs := [(0, p0.v), (1, p1.v), (2, p2.v)]) (cs := [p0.v, p1.v, p2.v]) w hsh (by omega) (by omega) rfl rfl rfl
  have hr : (execOp ρ ⟨dst, .buildSlice t 3 #[(0, x0), (1, x1), (2, x2)], ty, pos, after, g⟩).run P w = .ok (.value (.slice (some ⟨w.heap.size, 0, none⟩) 3 3)) (w.alloc (.cells ([p0.v, p1.v, p2.v] : List Value).toArray e)) := by
    simp only [execOp]
    have hb' : (Instr.buildSlice t 3 #[(0, p0.v), (1, p1.v), (2, p2.v)]).run P w = _ := hb
    simp [e0, e1, e2, hb']
  rw [hr]
  refine ⟨Keeps.alloc w _, fun w2 hk => ?_⟩
  have hh : w2.heap[w.heap.size]? = some (.cells ([p0.v, p1.v, p2.v] : List Value).toArray e (0, 0)) := hk.get (heap_alloc_at w _) (fun he => absurd (hp.wf _ he) (by omega))
  have hk2 : Keeps E w w2 := (Keeps.of_noX (Keeps.alloc w _)).trans hk
  obtain ⟨a, len, cap, e9, hg⟩ := sl_of_heap (enc := RV.c) (sz := 1) RV.c_len (xs := [p0, p1, p2]) (n := 3) rfl rfl hh 3
  injection e9 with q1 q2 q3
  subst q1 q2 q3
  exact ⟨[p0, p1, p2], _, _, _, by simp [m0, m1, m2], rfl, Nat.le_refl _, hg, (fun p hm => by
    simp only [List.mem_cons, List.not_mem_nil, or_false] at hm
    rcases hm with rfl | rfl | rfl
    · exact o0 w2 hk2
    · exact o1 w2 hk2
    · exact o2 w2 hk2 : RVF [p0, p1, p2] w2), trivial⟩
end
abbrev nV (n : Int) : V3 := ⟨1, n, e0⟩
theorem okV_n (n : Int) : okV (nV n) = true := by
  unfold okV
  simp [nV, seq_self]
theorem cmp_n (a b : Int) : cmpV (nV a) (nV b) = cI a b := by
  unfold cmpV
  simp only [cI_eq, cS_eq]
  by_cases h : cI a b = 0 <;> simp [h]
def awR : List (List V3) := [[nV 1], [nV 3], [nV 2]]
def awK : List (List V3) := [[nV 5], [nV 5], [nV 4]]
theorem aw_ok : allOk awR awK [false] = true := by simp [allOk, awR, awK, okL, okV_n]
theorem lt_n (a b c d : Int) : ltL [false] ([nV a], [nV b]) ([nV c], [nV d]) = decide (lexC cI [b, a] [d, c] < 0) := by
  unfold ltL
  simp [kl, lexC, cmpS, cmp_n]
theorem aw_top : topO awR awK [false] 2 = [[nV 2], [nV 1]] := by
  rw [topO_ok aw_ok]
  unfold topRows
  have h1 : decide (lexC cI [5, 3] [4, 2] < 0) = false := by decide
  have h2 : decide (lexC cI [5, 1] [4, 2] < 0) = false := by decide
  have h3 : decide (lexC cI [5, 1] [5, 3] < 0) = true := by decide
  simp [awR, awK, srt, ins, lt_n, h1, h2, h3, cut]
end Go.Od
