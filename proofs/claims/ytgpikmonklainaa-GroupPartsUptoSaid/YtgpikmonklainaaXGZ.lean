/- Group: rows built in place; what wakes. No condition. -/
import Derived.Test.YtgpikmonklainaaXGYc
import Derived.Test.YtgpikmonklainaaXGS
import Derived.Test.YtgpikmonklainaaXM2
namespace Go.Od
open Go Go.Vc Go.Vl
section
variable {P : Program} {L : List Own} {Φ : List (World → Prop)} {H : Know} {dst : Option Nat} {ty : TypeId} {pos : String} {after : Array Edge} {g : Option (Nat × Bool)}
theorem ob_bRows1 {t e : TypeId} {x0 : Operand} {r0 : List V3} {T0 : Ty} (hsh : SlShape P t e 1 [.slice none 0 0]) (h0 : H x0 T0) (s0 : Sub L Φ T0 (.rep (SlC V3.cells 3 r0))) :
    Ob P L Φ H ⟨dst, .buildSlice t 1 #[(0, x0)], ty, pos, after, g⟩ (.rep (RowsR noG [r0])) := fun E w ρ hp => by
  have k0 : Pers E w (SlC V3.cells 3 r0 (ρ x0)) := s0 E _ w ⟨hp.l, hp.f⟩ (hp.x x0 _ (by simp [Op.operands]) h0)
  obtain ⟨p0, e0, m0, o0⟩ := rv_of k0
  have hb := run_buildSlice' (P := P) 1 (vs := [(0, p0.v)]) (cs := [p0.v]) w hsh (by omega) (by omega) rfl rfl rfl
  have hr : (execOp ρ ⟨dst, .buildSlice t 1 #[(0, x0)], ty, pos, after, g⟩).run P w = .ok (.value (.slice (some ⟨w.heap.size, 0, none⟩) 1 1)) (w.alloc (.cells ([p0.v] : List Value).toArray e)) := by
    simp only [execOp]
    have hb' : (Instr.buildSlice t 1 #[(0, p0.v)]).run P w = _ := hb
    simp [e0, hb']
  rw [hr]
  refine ⟨Keeps.alloc w _, fun w2 hk => ?_⟩
  have hh : w2.heap[w.heap.size]? = some (.cells ([p0.v] : List Value).toArray e (0, 0)) := hk.get (heap_alloc_at w _) (fun he => absurd (hp.wf _ he) (by omega))
  have hk2 : Keeps E w w2 := (Keeps.of_noX (Keeps.alloc w _)).trans hk
  obtain ⟨a, len, cap, e9, hg⟩ := sl_of_heap (enc := RV.c) (sz := 1) RV.c_len (xs := [p0]) (n := 1) rfl rfl hh 1
  injection e9 with q1 q2 q3
  subst q1 q2 q3
  exact ⟨[p0], _, _, _, by simp [m0], rfl, Nat.le_refl _, hg, (fun p hm => by
    simp only [List.mem_cons, List.not_mem_nil, or_false] at hm
    rcases hm with rfl
    · exact o0 w2 hk2 : RVF [p0] w2), trivial⟩
theorem ob_bRows2 {t e : TypeId} {x0 : Operand} {r0 : List V3} {T0 : Ty} {x1 : Operand} {r1 : List V3} {T1 : Ty} (hsh : SlShape P t e 1 [.slice none 0 0]) (h0 : H x0 T0) (s0 : Sub L Φ T0 (.rep (SlC V3.cells 3 r0))) (h1 : H x1 T1) (s1 : Sub L Φ T1 (.rep (SlC V3.cells 3 r1))) :
    Ob P L Φ H ⟨dst, .buildSlice t 2 #[(0, x0), (1, x1)], ty, pos, after, g⟩ (.rep (RowsR noG [r0, r1])) := fun E w ρ hp => by
  have k0 : Pers E w (SlC V3.cells 3 r0 (ρ x0)) := s0 E _ w ⟨hp.l, hp.f⟩ (hp.x x0 _ (by simp [Op.operands]) h0)
  obtain ⟨p0, e0, m0, o0⟩ := rv_of k0
  have k1 : Pers E w (SlC V3.cells 3 r1 (ρ x1)) := s1 E _ w ⟨hp.l, hp.f⟩ (hp.x x1 _ (by simp [Op.operands]) h1)
  obtain ⟨p1, e1, m1, o1⟩ := rv_of k1
  have hb := run_buildSlice' (P := P) 2 (vs := [(0, p0.v), (1, p1.v)]) (cs := [p0.v, p1.v]) w hsh (by omega) (by omega) rfl rfl rfl
  have hr : (execOp ρ ⟨dst, .buildSlice t 2 #[(0, x0), (1, x1)], ty, pos, after, g⟩).run P w = .ok (.value (.slice (some ⟨w.heap.size, 0, none⟩) 2 2)) (w.alloc (.cells ([p0.v, p1.v] : List Value).toArray e)) := by
    simp only [execOp]
    have hb' : (Instr.buildSlice t 2 #[(0, p0.v), (1, p1.v)]).run P w = _ := hb
    simp [e0, e1, hb']
  rw [hr]
  refine ⟨Keeps.alloc w _, fun w2 hk => ?_⟩
  have hh : w2.heap[w.heap.size]? = some (.cells ([p0.v, p1.v] : List Value).toArray e (0, 0)) := hk.get (heap_alloc_at w _) (fun he => absurd (hp.wf _ he) (by omega))
  have hk2 : Keeps E w w2 := (Keeps.of_noX (Keeps.alloc w _)).trans hk
  obtain ⟨a, len, cap, e9, hg⟩ := sl_of_heap (enc := RV.c) (sz := 1) RV.c_len (xs := [p0, p1]) (n := 2) rfl rfl hh 2
  injection e9 with q1 q2 q3
  subst q1 q2 q3
  exact ⟨[p0, p1], _, _, _, by simp [m0, m1], rfl, Nat.le_refl _, hg, (fun p hm => by
    simp only [List.mem_cons, List.not_mem_nil, or_false] at hm
    rcases hm with rfl | rfl
    · exact o0 w2 hk2
    · exact o1 w2 hk2 : RVF [p0, p1] w2), trivial⟩
theorem ob_bRows3 {t e : TypeId} {x0 : Operand} {r0 : List V3} {T0 : Ty} {x1 : Operand} {r1 : List V3} {T1 : Ty} {x2 : Operand} {r2 : List V3} {T2 : Ty} (hsh : SlShape P t e 1 [.slice none 0 0]) (h0 : H x0 T0) (s0 : Sub L Φ T0 (.rep (SlC V3.cells 3 r0))) (h1 : H x1 T1) (s1 : Sub L Φ T1 (.rep (SlC V3.cells 3 r1))) (h2 : H x2 T2) (s2 : Sub L Φ T2 (.rep (SlC V3.cells 3 r2))) :
    Ob P L Φ H ⟨dst, .buildSlice t 3 #[(0, x0), (1, x1), (2, x2)], ty, pos, after, g⟩ (.rep (RowsR noG [r0, r1, r2])) := fun E w ρ hp => by
  have k0 : Pers E w (SlC V3.cells 3 r0 (ρ x0)) := s0 E _ w ⟨hp.l, hp.f⟩ (hp.x x0 _ (by simp [Op.operands]) h0)
  obtain ⟨p0, e0, m0, o0⟩ := rv_of k0
  have k1 : Pers E w (SlC V3.cells 3 r1 (ρ x1)) := s1 E _ w ⟨hp.l, hp.f⟩ (hp.x x1 _ (by simp [Op.operands]) h1)
  obtain ⟨p1, e1, m1, o1⟩ := rv_of k1
  have k2 : Pers E w (SlC V3.cells 3 r2 (ρ x2)) := s2 E _ w ⟨hp.l, hp.f⟩ (hp.x x2 _ (by simp [Op.operands]) h2)
  obtain ⟨p2, e2, m2, o2⟩ := rv_of k2
  have hb := run_buildSlice' (P := P) 3 (vs := [(0, p0.v), (1, p1.v), (2, p2.v)]) (cs := [p0.v, p1.v, p2.v]) w hsh (by omega) (by omega) rfl rfl rfl
  have hr : (execOp ρ ⟨dst, .buildSlice t 3 #[(0, x0), (1, x1), (2, x2)], ty, pos, after, g⟩).run P w = .ok (.value (.slice (some ⟨w.heap.size, 0, none⟩) 3 3)) (w.alloc (.cells ([p0.v, p1.v, p2.v] : List Value).toArray e)) := by
    simp only [execOp]
    have hb' : (Instr.buildSlice t 3 #[(0, p0.v), (1, p1.v), (2, p2.v)]).run P w = _ := hb
    simp [e0, e1, e2, hb']
  rw [hr]
  refine ⟨Keeps.alloc w _, fun w2 hk => ?_⟩
  have hh : w2.heap[w.heap.size]? = some (.cells ([p0.v, p1.v, p2.v] : List Value).toArray e (0, 0)) := hk.get (heap_alloc_at w _) (fun he => absurd (hp.wf _ he) (by omega))
  have hk2 : Keeps E w w2 := (Keeps.of_noX (Keeps.alloc w _)).trans hk
  obtain ⟨a, len, cap, e9, hg⟩ := sl_of_heap (enc := RV.c) (sz := 1) RV.c_len (xs := [p0, p1, p2]) (n := 3) rfl rfl hh 3
  injection e9 with q1 q2 q3
  subst q1 q2 q3
  exact ⟨[p0, p1, p2], _, _, _, by simp [m0, m1, m2], rfl, Nat.le_refl _, hg, (fun p hm => by
    simp only [List.mem_cons, List.not_mem_nil, or_false] at hm
    rcases hm with rfl | rfl | rfl
    · exact o0 w2 hk2
    · exact o1 w2 hk2
    · exact o2 w2 hk2 : RVF [p0, p1, p2] w2), trivial⟩
end
end Go.Od
namespace Go.Proofs.Ytgpikmonklainaa
open Go Go.Vc Go.Vl Go.Od
theorem okV_0 : okV v30 = true := by unfold okV; simp [seq_self]
def gaK : List (List V3) := [[nV 7], [nV 5], [nV 7]]
def gaA : List (List V3) := [[nV 1], [nV 2], [v30]]
def gbK : List (List V3) := [[], []]
def gbA : List (List V3) := [[nV 9223372036854775807], [nV 1]]
theorem rowsC_n (a b : Int) : rowsC [nV a] [nV b] = cI a b := by
  show lexC cmpV [nV a] [nV b] = _
  unfold lexC
  rw [cmp_n]
  by_cases h : cI a b = 0 <;> simp [h, lexC]
theorem ga_grp : grpO gaK gaA [21] false = ([[nV 5, nV 2], [nV 7, nV 1]], 0) := by
  have h1 : chk gaK gaA [21] = 0 := by
    simp [chk, gaK, gaA, badK, kOk, okR, okV_n, okV_0, bT, bt, e33]
  have h2 : srt ltR gaK = [[nV 5], [nV 7], [nV 7]] := by
    simp [gaK, srt, ins, ltR, rowsC_n, cI]
  have h3 : keysD gaK false = [[nV 5], [nV 7]] := by
    unfold keysD
    rw [h2]
    simp [dd, ddP, rowsC_n, cI]
  unfold grpO
  rw [if_neg (by rw [h1]; decide), h3]
  simp [outR, okT, rowT, cgD, tellsG, cols, col, nn, gaK, gaA, rowsC_n, cI, tellV, sm]
theorem gb_grp : (grpO gbK gbA [21] false).2 = 35 := by
  have h1 : chk gbK gbA [21] = 0 := by
    simp [chk, gbK, gbA, badK, kOk, okR, okV_n, bT, bt, e33]
  have h2 : srt ltR gbK = [[], []] := by
    simp [gbK, srt, ins, ltR, rself]
  have h3 : keysD gbK false = [[]] := by
    unfold keysD
    rw [h2]
    simp [dd, ddP, rself]
  unfold grpO
  rw [if_neg (by rw [h1]; decide), h3]
  simp [outR, okT, rowT, cgD, tellsG, cols, col, nn, gbK, gbA, rself, tellV, sm]
end Go.Proofs.Ytgpikmonklainaa
