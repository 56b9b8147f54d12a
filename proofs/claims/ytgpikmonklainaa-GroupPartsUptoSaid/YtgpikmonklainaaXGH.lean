/- slices.SortStableFunc, of indices. No condition. -/
import Derived.Test.YtgpikmonklainaaXGF
import Derived.Test.YtgpikmonklainaaXGG
set_option maxRecDepth 20000
namespace Go.Proofs.Ytgpikmonklainaa
open Go Go.Vc
open Go.Vl Go.Od
theorem symAll {fv : Value} {G : World → Prop} {n : Nat} {cf : Nat → Nat → Int} (hF : Fn2 Try.prog fv G n cf) (hw : Swo n (ltF cf)) {db sl : Nat} (hn : sl ≤ 1048576) : ∀ N, SymOK fv G n cf db sl N
  | 0 => fun A X Y C h => absurd h (Nat.not_lt_zero _)
  | N + 1 => fun A X Y C h hX hY hb hsX hsY hsl => c_slices_symMergeCmpFunc_int fv G n cf hF hw db sl N (symAll hF hw hn N) A X Y C h hX hY hb hsX hsY hsl hn
set_option maxHeartbeats 1000000 in
theorem c_slices_stableCmpFunc_int (fv : Value) (G : World → Prop) (n : Nat) (cf : Nat → Nat → Int) (hF : Fn2 Try.prog fv G n cf) (hw : Swo n (ltF cf)) (db sl : Nat) (l : List Nat) (hb : Bd n l) (hsl : sl = l.length) (hn : sl ≤ 1048576) : CallL Try.prog f_slices_stableCmpFunc_int ([⟨db, ty_int, .is (.agg ((l).map iC).toArray)⟩]) [G] [.is (.slice (some ⟨db, 0, none⟩) sl sl), .is (.int .i64 ((sl : Nat))), .is fv] (fun Z : List Nat => Z.Perm l ∧ Srt (ltF cf) Z) (fun Z => [⟨db, ty_int, .is (.agg ((Z).map iC).toArray)⟩]) (fun _ => .is (.tuple #[])) :=
CallL.of (fn := Try.f53) Try.func53 (n := 63) rfl rfl rfl (fun _ _ => by kernel_rfl) fun E W hb0 => by
  repeat refine J.seq ?_
  refine J.plain ?_
  refine JO.t (ob_assign rfl) rfl ?_
  refine JO.nil ?_
  repeat (first | refine JX.next ?_ | refine JX.normal_block ?_)
  refine J.sel [0, 1, 2, 6] (.cons rfl (.cons rfl (.cons rfl (.cons rfl .nil)))) ?_
  repeat refine J.seq ?_
  refine J.plain ?_
  refine JO.t (ob_move rfl) rfl ?_
  refine JO.t (ob_assign rfl) rfl ?_
  refine JO.t (ob_assign rfl) rfl ?_
  refine JO.nil ?_
  repeat (first | refine JX.next ?_ | refine JX.normal_block ?_)
  refine J.sel [0, 1, 2, 6, 7, 8] (.cons rfl (.cons rfl (.cons rfl (.cons rfl (.cons rfl (.cons rfl .nil)))))) ?_
  repeat refine J.seq ?_
  refine J.block ?_
  repeat refine J.seq ?_
  refine J.loopG (α := Nat × List Nat) (fun y => [(0, .is (.slice (some ⟨db, 0, none⟩) sl sl)), (1, .is (.int .i64 ((sl : Nat)))), (2, .is fv), (6, .is (.int .i64 ((20 : Nat)))), (7, .is (.int .i64 ((20 * y.1 : Nat)))), (8, .is (.int .i64 ((20 * y.1 + 20 : Nat))))]) (fun y => [⟨db, ty_int, .is (.agg ((y.2).map iC).toArray)⟩]) (fun y => fun _ => True) (fun y => 20 * y.1 ≤ sl ∧ y.2.Perm l ∧ ∀ j, j < y.1 → Srt (ltF cf) (seg y.2 (20 * j) 20)) (fun y => sl - 20 * y.1) (0, l) [0, 1, 2, 6, 7, 8] (.cons rfl (.cons rfl (.cons rfl (.cons rfl (.cons rfl (.cons rfl .nil)))))) rfl (fun _ => trivial) ⟨Nat.zero_le _, .refl _, fun j hj => absurd hj (Nat.not_lt_zero _)⟩ fun ⟨k, l1⟩ ⟨hk, hp, hs⟩ => ?_
  try dsimp only
  try dsimp only at l1
  try dsimp only at hk
  try dsimp only at hp
  try dsimp only at hs
  repeat refine J.seq ?_
  refine J.plain ?_
  refine JO.t (ob_move rfl) rfl ?_
  refine JO.t (ob_move rfl) rfl ?_
  refine JO.t (ob_leq rfl rfl) rfl ?_
  refine JO.nil ?_
  repeat (first | refine JX.next ?_ | refine JX.normal_block ?_)
  refine J.sel [0, 1, 2, 6, 7, 8, 13] (.cons rfl (.cons rfl (.cons rfl (.cons rfl (.cons rfl (.cons rfl (.cons rfl .nil))))))) ?_
  repeat refine J.seq ?_
  refine J.cond rfl (fun ht13 => ?_) (fun ht13 => ?_)
  ·
    try simp only [decide_eq_true_eq, decide_eq_false_iff_not] at ht13
    refine J.skip ?_
    repeat (first | refine JX.next ?_ | refine JX.normal_block ?_)
    repeat refine J.seq ?_
    refine J.block ?_
    have hll : l1.length = sl := by rw [hp.length_eq, hsl]
    obtain ⟨A, X, C, rfl, lA, lX⟩ := split3 l1 (20 * k) 20 (by omega)
    have hlc : A.length + X.length + C.length = sl := by rw [← hll]; simp only [List.length_append]
    have hbX : Bd n X := fun x hx => hb x (hp.mem_iff.1 (by simp [hx]))
    have hslx : sl = A.length + X.length + C.length := hlc.symm
    have eA : ((20 * k : Nat) : Int) = ((A.length : Nat) : Int) := by omega
    have eX : ((20 * k + 20 : Nat) : Int) = ((A.length + X.length : Nat) : Int) := by omega
    repeat refine J.seq ?_
    refine J.plain ?_
    refine JO.t (ob_move rfl) rfl ?_
    refine JO.t (ob_move rfl) rfl ?_
    refine JO.t (ob_move rfl) rfl ?_
    refine JO.t (ob_move rfl) rfl ?_
    refine JO.callL (Lr := []) (c_slices_insertionSortCmpFunc_int fv G n cf hF hw db sl A X C hbX hslx hn) (fun d e => by injection e with e; show d < 63; omega) (List.Perm.of_eq (List.append_nil _).symm) (fun F hF => by repeat (first | exact hF | refine List.mem_cons_of_mem _ ?_)) (.one rfl (.sub rfl (Sub.isEq (by rw [eA])) (.sub rfl (Sub.isEq (by rw [eX])) (.one rfl .nil)))) ?_
    intro Z hZ
    rw [List.append_nil]
    refine JO.nil ?_
    repeat (first | refine JX.next ?_ | refine JX.normal_block ?_)
    refine J.sel [0, 1, 2, 6, 8] (.cons rfl (.cons rfl (.cons rfl (.cons rfl (.cons rfl .nil))))) ?_
    repeat refine J.seq ?_
    refine J.plain ?_
    refine JO.t (ob_move rfl) rfl ?_
    refine JO.t (ob_assign rfl) rfl ?_
    refine JO.nil ?_
    repeat (first | refine JX.next ?_ | refine JX.normal_block ?_)
    refine J.sel [0, 1, 2, 6, 7, 8] (.cons rfl (.cons rfl (.cons rfl (.cons rfl (.cons rfl (.cons rfl .nil)))))) ?_
    repeat refine J.seq ?_
    refine J.plain ?_
    refine JO.t (ob_move rfl) rfl ?_
    refine JO.t (ob_move rfl) rfl ?_
    refine JO.t (ob_addv (v := ((20 * (k + 1) + 20 : Nat) : Int)) rfl rfl (by rw [wrap64_eq (by omega) (by omega)]; omega)) rfl ?_
    refine JO.t (ob_assign rfl) rfl ?_
    refine JO.nil ?_
    repeat refine JX.normal_block ?_
    refine JX.roundG (x := (k, A ++ X ++ C)) (k + 1, A ++ Z ++ C) ?_ ?_ [0, 1, 2, 6, 7, 8] ?_ ?_ ?_ ?_
    · exact ⟨by show 20 * (k + 1) ≤ sl; omega, (((hZ.1.append_left A).append_right C).trans hp), fun j hj => by
    have hj : j < k + 1 := hj
    have hzl := hZ.1.length_eq
    rcases Nat.lt_or_ge j k with h | h
    · show Srt (ltF cf) (seg (A ++ Z ++ C) (20 * j) 20)
      rw [seg_keep hzl (.inl (by omega))]; exact hs j h
    · show Srt (ltF cf) (seg (A ++ Z ++ C) (20 * j) 20)
      rw [seg_at (by omega) (.inl (by omega))]; exact hZ.2⟩
    · exact (by show sl - 20 * (k + 1) < sl - 20 * k; omega)
    · exact (.cons rfl (.cons rfl (.cons rfl (.cons rfl (.cons rfl (.cons rfl .nil))))))
    · repeat (first | exact .all | exact .nil | refine Has.own (by repeat (first | exact .here | apply Tl.past | apply Tl.there)) ?_ | refine Has.cons (by repeat (first | exact .here | apply Pk.past | apply Pk.there)) ?_)
    · exact fun G hG => by repeat (first | exact hG | refine List.mem_cons_of_mem _ ?_)
    · exact fun _ _ _ => fun _ _ => trivial
  ·
    try simp only [decide_eq_true_eq, decide_eq_false_iff_not] at ht13
    repeat refine J.seq ?_
    refine J.exit ?_
    repeat (first | refine JX.hit ?_ | refine JX.miss rfl ?_ | refine JX.exit_pass ?_)
    repeat (first | refine JX.next ?_ | refine JX.normal_block ?_)
    have hll : l1.length = sl := by rw [hp.length_eq, hsl]
    obtain ⟨A, X, C, e3, lA, lX⟩ := split3 l1 (20 * k) (sl - 20 * k) (by omega)
    have hlc : A.length + X.length + C.length = sl := by rw [← hll, e3]; simp only [List.length_append]
    have hC : C = [] := List.length_eq_zero_iff.1 (by omega)
    subst hC e3
    rw [List.append_nil] at hp hs
    have hbX : Bd n X := fun x hx => hb x (hp.mem_iff.1 (by simp [hx]))
    have hslx : sl = A.length + X.length + ([] : List Nat).length := hlc.symm
    have eA : ((20 * k : Nat) : Int) = ((A.length : Nat) : Int) := by omega
    have eX : ((sl : Nat) : Int) = ((A.length + X.length : Nat) : Int) := by omega
    repeat refine J.seq ?_
    refine J.plain ?_
    refine JO.t (ob_move rfl) rfl ?_
    refine JO.t (ob_move rfl) rfl ?_
    refine JO.t (ob_move rfl) rfl ?_
    refine JO.t (ob_move rfl) rfl ?_
    refine JO.eqL (L' := [⟨db, ty_int, .is (.agg ((A ++ X ++ []).map iC).toArray)⟩]) (by simp) ?_
    refine JO.callL (Lr := []) (c_slices_insertionSortCmpFunc_int fv G n cf hF hw db sl A X [] hbX hslx hn) (fun d e => by injection e with e; show d < 63; omega) (List.Perm.of_eq (List.append_nil _).symm) (fun F hF => by repeat (first | exact hF | refine List.mem_cons_of_mem _ ?_)) (.one rfl (.sub rfl (Sub.isEq (by rw [eA])) (.sub rfl (Sub.isEq (by rw [eX])) (.one rfl .nil)))) ?_
    intro Z hZ
    rw [List.append_nil]
    refine JO.eqL (L' := [⟨db, ty_int, .is (.agg ((A ++ Z).map iC).toArray)⟩]) (by simp) ?_
    refine JO.nil ?_
    repeat (first | refine JX.next ?_ | refine JX.normal_block ?_)
    refine J.sel [0, 1, 2, 6] (.cons rfl (.cons rfl (.cons rfl (.cons rfl .nil)))) ?_
    repeat refine J.seq ?_
    refine J.block ?_
    repeat refine J.seq ?_
    refine J.loopG (α := Nat × List Nat) (fun y => [(0, .is (.slice (some ⟨db, 0, none⟩) sl sl)), (1, .is (.int .i64 ((sl : Nat)))), (2, .is fv), (6, .is (.int .i64 ((y.1 : Nat))))]) (fun y => [⟨db, ty_int, .is (.agg ((y.2).map iC).toArray)⟩]) (fun y => fun _ => True) (fun y => 0 < y.1 ∧ y.1 ≤ 4194304 ∧ y.2.Perm l ∧ ∀ j, Srt (ltF cf) (seg y.2 (j * y.1) y.1)) (fun y => sl - y.1) (20, A ++ Z) [0, 1, 2, 6] (.cons rfl (.cons rfl (.cons rfl (.cons rfl .nil)))) rfl (fun _ => trivial) ⟨(by show 0 < 20; omega), (by show 20 ≤ 4194304; omega), (hZ.1.append_left A).trans hp, fun j => by
    have hzl := hZ.1.length_eq
    show Srt (ltF cf) (seg (A ++ Z) (j * 20) 20)
    rw [show A ++ Z = A ++ Z ++ [] by simp]
    rcases Nat.lt_trichotomy j k with h | h | h
    · rw [seg_keep hzl (.inl (by omega)), show j * 20 = 20 * j by omega]; rw [List.append_nil]; exact hs j h
    · rw [seg_at (by omega) (.inr ⟨rfl, by omega⟩)]; exact hZ.2
    · rw [seg_none (by rw [List.length_append, List.length_append, List.length_nil]; omega)]; exact .nil⟩ fun ⟨bs, l2⟩ ⟨hbs, hbm, hp2, hs2⟩ => ?_
    try dsimp only
    try dsimp only at l2
    try dsimp only at hbs
    try dsimp only at hbm
    try dsimp only at hp2
    try dsimp only at hs2
    repeat refine J.seq ?_
    refine J.plain ?_
    refine JO.t (ob_move rfl) rfl ?_
    refine JO.t (ob_move rfl) rfl ?_
    refine JO.t (ob_lss rfl rfl) rfl ?_
    refine JO.nil ?_
    repeat (first | refine JX.next ?_ | refine JX.normal_block ?_)
    refine J.sel [0, 1, 2, 6, 30] (.cons rfl (.cons rfl (.cons rfl (.cons rfl (.cons rfl .nil))))) ?_
    repeat refine J.seq ?_
    refine J.cond rfl (fun ht30 => ?_) (fun ht30 => ?_)
    ·
      try simp only [decide_eq_true_eq, decide_eq_false_iff_not] at ht30
      refine J.skip ?_
      repeat (first | refine JX.next ?_ | refine JX.normal_block ?_)
      repeat refine J.seq ?_
      refine J.block ?_
      repeat refine J.seq ?_
      refine J.plain ?_
      refine JO.t (ob_move rfl) rfl ?_
      refine JO.t (ob_mulv (v := ((2 * bs * 0 + 2 * bs : Nat) : Int)) rfl rfl (by rw [wrap64_eq (by omega) (by omega)]; omega)) rfl ?_
      refine JO.t (ob_assign rfl) rfl ?_
      refine JO.t (ob_assign rfl) rfl ?_
      refine JO.nil ?_
      repeat (first | refine JX.next ?_ | refine JX.normal_block ?_)
      refine J.sel [0, 1, 2, 6, 7, 8] (.cons rfl (.cons rfl (.cons rfl (.cons rfl (.cons rfl (.cons rfl .nil)))))) ?_
      repeat refine J.seq ?_
      refine J.block ?_
      repeat refine J.seq ?_
      refine J.loopG (α := Nat × List Nat) (fun y => [(0, .is (.slice (some ⟨db, 0, none⟩) sl sl)), (1, .is (.int .i64 ((sl : Nat)))), (2, .is fv), (6, .is (.int .i64 ((bs : Nat)))), (7, .is (.int .i64 ((2 * bs * y.1 : Nat)))), (8, .is (.int .i64 ((2 * bs * y.1 + 2 * bs : Nat))))]) (fun y => [⟨db, ty_int, .is (.agg ((y.2).map iC).toArray)⟩]) (fun y => fun _ => True) (fun y => y.1 * (2 * bs) ≤ sl ∧ y.2.Perm l ∧ (∀ j, j < y.1 → Srt (ltF cf) (seg y.2 (j * (2 * bs)) (2 * bs))) ∧ ∀ j, 2 * y.1 ≤ j → Srt (ltF cf) (seg y.2 (j * bs) bs)) (fun y => sl - y.1 * (2 * bs)) (0, l2) [0, 1, 2, 6, 7, 8] (.cons rfl (.cons rfl (.cons rfl (.cons rfl (.cons rfl (.cons rfl .nil)))))) rfl (fun _ => trivial) ⟨by show 0 * (2 * bs) ≤ sl; omega, hp2, fun j hj => absurd hj (Nat.not_lt_zero _), fun j _ => hs2 j⟩ fun ⟨k, l3⟩ ⟨hk3, hp3, hs3, hr3⟩ => ?_
      try dsimp only
      try dsimp only at l3
      try dsimp only at hk3
      try dsimp only at hp3
      try dsimp only at hs3
      try dsimp only at hr3
      repeat refine J.seq ?_
      refine J.plain ?_
      refine JO.t (ob_move rfl) rfl ?_
      refine JO.t (ob_move rfl) rfl ?_
      refine JO.t (ob_leq rfl rfl) rfl ?_
      refine JO.nil ?_
      repeat (first | refine JX.next ?_ | refine JX.normal_block ?_)
      refine J.sel [0, 1, 2, 6, 7, 8, 35] (.cons rfl (.cons rfl (.cons rfl (.cons rfl (.cons rfl (.cons rfl (.cons rfl .nil))))))) ?_
      repeat refine J.seq ?_
      refine J.cond rfl (fun ht35 => ?_) (fun ht35 => ?_)
      ·
        try simp only [decide_eq_true_eq, decide_eq_false_iff_not] at ht35
        refine J.skip ?_
        repeat (first | refine JX.next ?_ | refine JX.normal_block ?_)
        repeat refine J.seq ?_
        refine J.block ?_
        have hmk : 2 * bs * k = k * (2 * bs) := Nat.mul_comm _ _
        have hll : l3.length = sl := by rw [hp3.length_eq, hsl]
        obtain ⟨A, W, C, e3, lA, lW⟩ := split3 l3 (k * (2 * bs)) (2 * bs) (by omega)
        obtain ⟨X, Y, C2, e4, lX, lY⟩ := split3 W bs bs (by omega)
        have hlc : A.length + W.length + C.length = sl := by rw [← hll, e3]; simp only [List.length_append]
        have hC2 : C2 = [] := List.length_eq_zero_iff.1 (by have := congrArg List.length e4; simp only [List.length_append] at this; omega)
        subst hC2
        rw [List.append_nil] at e4
        subst e4
        rw [← List.append_assoc] at e3
        subst e3
        rw [List.length_append] at hlc
        have hbX : Bd n (A ++ X ++ Y ++ C) := fun x hx => hb x (hp3.mem_iff.1 hx)
        have hslx : sl = A.length + X.length + Y.length + C.length := by omega
        have nX : X ≠ [] := fun h => by rw [h] at lX; simp at lX; omega
        have nY : Y ≠ [] := fun h => by rw [h] at lY; simp at lY; omega
        obtain ⟨q1, q2⟩ := seg_two (A := A) (C := C) lX (.inl lY)
        have hm2 : 2 * k * bs = k * (2 * bs) := by rw [Nat.mul_comm 2 k, Nat.mul_assoc]
        have sX : Srt (ltF cf) X := by
          have h := hr3 (2 * k) (Nat.le_refl _)
          rwa [hm2, ← lA, q1] at h
        have sY : Srt (ltF cf) Y := by
          have h := hr3 (2 * k + 1) (by omega)
          rwa [Nat.add_mul, Nat.one_mul, hm2, ← lA, q2] at h
        have eA : ((2 * bs * k : Nat) : Int) = ((A.length : Nat) : Int) := by omega
        have eX : ((2 * bs * k + bs : Nat) : Int) = ((A.length + X.length : Nat) : Int) := by omega
        have eY : ((2 * bs * k + 2 * bs : Nat) : Int) = ((A.length + X.length + Y.length : Nat) : Int) := by omega
        repeat refine J.seq ?_
        refine J.plain ?_
        refine JO.t (ob_move rfl) rfl ?_
        refine JO.t (ob_move rfl) rfl ?_
        refine JO.t (ob_move rfl) rfl ?_
        refine JO.t (ob_move rfl) rfl ?_
        refine JO.t (ob_addv (v := ((2 * bs * k + bs : Nat) : Int)) rfl rfl (by rw [wrap64_eq (by omega) (by omega)]; omega)) rfl ?_
        refine JO.t (ob_move rfl) rfl ?_
        refine JO.t (ob_move rfl) rfl ?_
        refine JO.callL (Lr := []) (symAll hF hw hn ((X).length + (Y).length + 1) A X Y C (by omega) nX nY hbX sX sY hslx) (fun d e => by injection e with e; show d < 63; omega) (List.Perm.of_eq (List.append_nil _).symm) (fun F hF => by repeat (first | exact hF | refine List.mem_cons_of_mem _ ?_)) (.one rfl (.sub rfl (Sub.isEq (by rw [eA])) (.sub rfl (Sub.isEq (by rw [eX])) (.sub rfl (Sub.isEq (by rw [eY])) (.one rfl .nil))))) ?_
        intro Z hZ
        rw [List.append_nil]
        have hzl : Z.length = 2 * bs := by rw [hZ.1.length_eq, List.length_append]; omega
        refine JO.nil ?_
        repeat (first | refine JX.next ?_ | refine JX.normal_block ?_)
        refine J.sel [0, 1, 2, 6, 8] (.cons rfl (.cons rfl (.cons rfl (.cons rfl (.cons rfl .nil))))) ?_
        repeat refine J.seq ?_
        refine J.plain ?_
        refine JO.t (ob_move rfl) rfl ?_
        refine JO.t (ob_assign rfl) rfl ?_
        refine JO.nil ?_
        repeat (first | refine JX.next ?_ | refine JX.normal_block ?_)
        refine J.sel [0, 1, 2, 6, 7, 8] (.cons rfl (.cons rfl (.cons rfl (.cons rfl (.cons rfl (.cons rfl .nil)))))) ?_
        repeat refine J.seq ?_
        refine J.plain ?_
        refine JO.t (ob_move rfl) rfl ?_
        refine JO.t (ob_move rfl) rfl ?_
        refine JO.t (ob_mulv (v := ((2 * bs : Nat) : Int)) rfl rfl (by rw [wrap64_eq (by omega) (by omega)]; omega)) rfl ?_
        refine JO.t (ob_addv (v := ((2 * bs * k + 2 * bs + 2 * bs : Nat) : Int)) rfl rfl (by rw [wrap64_eq (by omega) (by omega)]; omega)) rfl ?_
        refine JO.t (ob_assign rfl) rfl ?_
        refine JO.nil ?_
        repeat refine JX.normal_block ?_
        refine JX.roundG (x := (k, A ++ X ++ Y ++ C)) (k + 1, A ++ Z ++ C) ?_ ?_ [0, 1, 2, 6, 7, 8] ?_ ?_ ?_ ?_
        · exact ⟨by show (k + 1) * (2 * bs) ≤ sl; rw [Nat.add_mul]; omega, ((hZ.1.append_left A).append_right C).trans (by rw [← List.append_assoc]; exact hp3), fun j hj => by
    have hj : j < k + 1 := hj
    show Srt (ltF cf) (seg (A ++ Z ++ C) (j * (2 * bs)) (2 * bs))
    rcases Nat.lt_or_ge j k with h | h
    · have hm := Nat.mul_le_mul_right (2 * bs) (show j + 1 ≤ k by omega)
      rw [Nat.add_mul] at hm
      rw [seg_keep (X := X ++ Y) (by rw [List.length_append]; omega) (.inl (by omega))]
      rw [← List.append_assoc]; exact hs3 j h
    · rw [show j = k by omega, seg_at (by omega) (.inl (by omega))]; exact hZ.2, fun j hj => by
    have hj : 2 * (k + 1) ≤ j := hj
    show Srt (ltF cf) (seg (A ++ Z ++ C) (j * bs) bs)
    have hm := Nat.mul_le_mul_right bs hj
    have hm2 : 2 * (k + 1) * bs = k * (2 * bs) + 2 * bs := by rw [Nat.mul_comm 2 (k + 1), Nat.mul_assoc, Nat.add_mul, Nat.one_mul]
    rw [seg_keep (X := X ++ Y) (by rw [List.length_append]; omega) (.inr (by rw [List.length_append]; omega)), ← List.append_assoc]
    exact hr3 j (by omega)⟩
        · exact (by show sl - (k + 1) * (2 * bs) < sl - k * (2 * bs); rw [Nat.add_mul]; omega)
        · exact (.cons rfl (.cons rfl (.cons rfl (.cons rfl (.cons rfl (.cons rfl .nil))))))
        · repeat (first | exact .all | exact .nil | refine Has.own (by repeat (first | exact .here | apply Tl.past | apply Tl.there)) ?_ | refine Has.cons (by repeat (first | exact .here | apply Pk.past | apply Pk.there)) ?_)
        · exact fun G hG => by repeat (first | exact hG | refine List.mem_cons_of_mem _ ?_)
        · exact fun _ _ _ => fun _ _ => trivial
      ·
        try simp only [decide_eq_true_eq, decide_eq_false_iff_not] at ht35
        repeat refine J.seq ?_
        refine J.exit ?_
        repeat (first | refine JX.hit ?_ | refine JX.miss rfl ?_ | refine JX.exit_pass ?_)
        repeat (first | refine JX.next ?_ | refine JX.normal_block ?_)
        have hmk : 2 * bs * k = k * (2 * bs) := Nat.mul_comm _ _
        have hll : l3.length = sl := by rw [hp3.length_eq, hsl]
        have hex : sl < k * (2 * bs) + 2 * bs := by omega
        repeat refine J.seq ?_
        refine J.plain ?_
        refine JO.t (ob_move rfl) rfl ?_
        refine JO.t (ob_move rfl) rfl ?_
        refine JO.t (ob_addv (v := ((2 * bs * k + bs : Nat) : Int)) rfl rfl (by rw [wrap64_eq (by omega) (by omega)]; omega)) rfl ?_
        refine JO.t (ob_assign rfl) rfl ?_
        refine JO.nil ?_
        repeat (first | refine JX.next ?_ | refine JX.normal_block ?_)
        refine J.sel [0, 1, 2, 6, 7, 9] (.cons rfl (.cons rfl (.cons rfl (.cons rfl (.cons rfl (.cons rfl .nil)))))) ?_
        repeat refine J.seq ?_
        refine J.plain ?_
        refine JO.t (ob_move rfl) rfl ?_
        refine JO.t (ob_move rfl) rfl ?_
        refine JO.t (ob_lss rfl rfl) rfl ?_
        refine JO.nil ?_
        repeat (first | refine JX.next ?_ | refine JX.normal_block ?_)
        refine J.sel [0, 1, 2, 6, 7, 9, 54] (.cons rfl (.cons rfl (.cons rfl (.cons rfl (.cons rfl (.cons rfl (.cons rfl .nil))))))) ?_
        repeat refine J.seq ?_
        refine J.cutZN (fun z : List Nat => [(0, .is (.slice (some ⟨db, 0, none⟩) sl sl)), (1, .is (.int .i64 ((sl : Nat)))), (2, .is fv), (6, .is (.int .i64 ((bs : Nat))))]) (fun z : List Nat => [⟨db, ty_int, .is (.agg ((z).map iC).toArray)⟩]) (fun z : List Nat => z.Perm l ∧ ∀ j, Srt (ltF cf) (seg z (j * (2 * bs)) (2 * bs))) ?_ ?_
        · refine J.cond rfl (fun ht54 => ?_) (fun ht54 => ?_)
          ·
            try simp only [decide_eq_true_eq, decide_eq_false_iff_not] at ht54
            obtain ⟨A, X, Y, e3, lA, lX⟩ := split3 l3 (k * (2 * bs)) bs (by omega)
            subst e3
            simp only [List.length_append] at hll
            have hbX : Bd n (A ++ X ++ Y ++ []) := fun x hx => hb x (hp3.mem_iff.1 (by rwa [List.append_nil] at hx))
            have hslx : sl = A.length + X.length + Y.length + ([] : List Nat).length := by simp only [List.length_nil]; omega
            have nX : X ≠ [] := fun h => by rw [h] at lX; simp at lX; omega
            have nY : Y ≠ [] := fun h => by rw [h] at hll; simp at hll; omega
            obtain ⟨q1, q2⟩ := seg_two (A := A) (C := []) (Y := Y) lX (.inr ⟨rfl, by omega⟩)
            rw [List.append_nil] at q1 q2
            have hm2 : 2 * k * bs = k * (2 * bs) := by rw [Nat.mul_comm 2 k, Nat.mul_assoc]
            have sX : Srt (ltF cf) X := by
              have h := hr3 (2 * k) (Nat.le_refl _)
              rwa [hm2, ← lA, q1] at h
            have sY : Srt (ltF cf) Y := by
              have h := hr3 (2 * k + 1) (by omega)
              rwa [Nat.add_mul, Nat.one_mul, hm2, ← lA, q2] at h
            have eA : ((2 * bs * k : Nat) : Int) = ((A.length : Nat) : Int) := by omega
            have eX : ((2 * bs * k + bs : Nat) : Int) = ((A.length + X.length : Nat) : Int) := by omega
            have eY : ((sl : Nat) : Int) = ((A.length + X.length + Y.length : Nat) : Int) := by omega
            have hzl0 : X.length + Y.length ≤ 2 * bs := by omega
            refine J.eqL (L' := [⟨db, ty_int, .is (.agg ((A ++ X ++ Y ++ []).map iC).toArray)⟩]) (by rw [List.append_nil]) ?_
            repeat refine J.seq ?_
            refine J.plain ?_
            refine JO.t (ob_move rfl) rfl ?_
            refine JO.t (ob_move rfl) rfl ?_
            refine JO.t (ob_move rfl) rfl ?_
            refine JO.t (ob_move rfl) rfl ?_
            refine JO.t (ob_move rfl) rfl ?_
            refine JO.callL (Lr := []) (symAll hF hw hn ((X).length + (Y).length + 1) A X Y [] (by omega) nX nY hbX sX sY hslx) (fun d e => by injection e with e; show d < 63; omega) (List.Perm.of_eq (List.append_nil _).symm) (fun F hF => by repeat (first | exact hF | refine List.mem_cons_of_mem _ ?_)) (.one rfl (.sub rfl (Sub.isEq (by rw [eA])) (.sub rfl (Sub.isEq (by rw [eX])) (.sub rfl (Sub.isEq (by rw [eY])) (.one rfl .nil))))) ?_
            intro Z hZ
            rw [List.append_nil]
            have hzl : Z.length = X.length + Y.length := by rw [hZ.1.length_eq, List.length_append]
            refine JO.eqL (L' := [⟨db, ty_int, .is (.agg ((A ++ Z).map iC).toArray)⟩]) (by simp) ?_
            refine JO.nil ?_
            refine JX.midZ (A ++ Z) ?_ [0, 1, 2, 6] ?_ ?_ ?_
            · exact ⟨(hZ.1.append_left A).trans (by rw [← List.append_assoc]; exact hp3), fun j => by
  rw [show A ++ Z = A ++ Z ++ [] by simp]
  rcases Nat.lt_trichotomy j k with h | h | h
  · have hm := Nat.mul_le_mul_right (2 * bs) (show j + 1 ≤ k by omega)
    rw [Nat.add_mul] at hm
    rw [seg_keep (X := X ++ Y) (by rw [List.length_append]; omega) (.inl (by omega)), List.append_nil, ← List.append_assoc]; exact hs3 j h
  · rw [h, seg_at (by omega) (.inr ⟨rfl, by omega⟩)]; exact hZ.2
  · have hm := Nat.mul_le_mul_right (2 * bs) (show k + 1 ≤ j by omega)
    rw [Nat.add_mul] at hm
    rw [seg_none (by rw [List.length_append, List.length_append, List.length_nil]; omega)]; exact .nil⟩
            · exact (.cons rfl (.cons rfl (.cons rfl (.cons rfl .nil))))
            · repeat (first | exact .all | exact .nil | refine Has.own (by repeat (first | exact .here | apply Tl.past | apply Tl.there)) ?_ | refine Has.cons (by repeat (first | exact .here | apply Pk.past | apply Pk.there)) ?_)
            · exact fun G hG => by repeat (first | exact hG | refine List.mem_cons_of_mem _ ?_)
          ·
            try simp only [decide_eq_true_eq, decide_eq_false_iff_not] at ht54
            refine J.skip ?_
            refine JX.midZ (l3) ?_ [0, 1, 2, 6] ?_ ?_ ?_
            · exact ⟨hp3, fun j => by
  rcases Nat.lt_trichotomy j k with h | h | h
  · exact hs3 j h
  · rw [h]
    have h2 := hr3 (2 * k) (Nat.le_refl _)
    have e : seg l3 (k * (2 * bs)) (2 * bs) = seg l3 (2 * k * bs) bs := by
      have hm2 : 2 * k * bs = k * (2 * bs) := by rw [Nat.mul_comm 2 k, Nat.mul_assoc]
      unfold seg
      rw [hm2, List.take_of_length_le (by rw [List.length_drop]; omega), List.take_of_length_le (by rw [List.length_drop]; omega)]
    rw [e]; exact h2
  · have hm := Nat.mul_le_mul_right (2 * bs) (show k + 1 ≤ j by omega)
    rw [Nat.add_mul] at hm
    rw [seg_none (by omega)]; exact .nil⟩
            · exact (.cons rfl (.cons rfl (.cons rfl (.cons rfl .nil))))
            · repeat (first | exact .all | exact .nil | refine Has.own (by repeat (first | exact .here | apply Tl.past | apply Tl.there)) ?_ | refine Has.cons (by repeat (first | exact .here | apply Pk.past | apply Pk.there)) ?_)
            · exact fun G hG => by repeat (first | exact hG | refine List.mem_cons_of_mem _ ?_)
        · intro z ⟨hz1, hz2⟩
          try dsimp only
          repeat refine J.seq ?_
          refine J.plain ?_
          refine JO.t (ob_move rfl) rfl ?_
          refine JO.t (ob_mulv (v := ((2 * bs : Nat) : Int)) rfl rfl (by rw [wrap64_eq (by omega) (by omega)]; omega)) rfl ?_
          refine JO.t (ob_assign rfl) rfl ?_
          refine JO.nil ?_
          repeat refine JX.normal_block ?_
          refine JX.roundG (x := (bs, l2)) (2 * bs, z) ?_ ?_ [0, 1, 2, 6] ?_ ?_ ?_ ?_
          · exact ⟨by show 0 < 2 * bs; omega, by show 2 * bs ≤ 4194304; omega, hz1, hz2⟩
          · exact (by show sl - 2 * bs < sl - bs; omega)
          · exact (.cons rfl (.cons rfl (.cons rfl (.cons rfl .nil))))
          · repeat (first | exact .all | exact .nil | refine Has.own (by repeat (first | exact .here | apply Tl.past | apply Tl.there)) ?_ | refine Has.cons (by repeat (first | exact .here | apply Pk.past | apply Pk.there)) ?_)
          · exact fun G hG => by repeat (first | exact hG | refine List.mem_cons_of_mem _ ?_)
          · exact fun _ _ _ => fun _ _ => trivial
    ·
      try simp only [decide_eq_true_eq, decide_eq_false_iff_not] at ht30
      repeat refine J.seq ?_
      refine J.exit ?_
      repeat (first | refine JX.hit ?_ | refine JX.miss rfl ?_ | refine JX.exit_pass ?_)
      repeat (first | refine JX.next ?_ | refine JX.normal_block ?_)
      refine JX.normal_ret ?_
      have hfin : Srt (ltF cf) l2 := by
        have h := hs2 0
        unfold seg at h
        rw [Nat.zero_mul, List.drop_zero, List.take_of_length_le (by rw [hp2.length_eq, ← hsl]; omega)] at h
        exact h
      exact JX.retL0 (Zp := fun Z : List Nat => Z.Perm l ∧ Srt (ltF cf) Z) (R := fun _ => .is (.tuple #[])) (Lr := []) (L1 := fun Z => [⟨db, ty_int, .is (.agg ((Z).map iC).toArray)⟩]) rfl l2 ⟨hp2, hfin⟩ (List.Perm.of_eq (List.append_nil _).symm) rfl hb0 rfl
theorem c_slices_SortStableFunc_sl_int_int (fv : Value) (G : World → Prop) (n : Nat) (cf : Nat → Nat → Int) (hF : Fn2 Try.prog fv G n cf) (hw : Swo n (ltF cf)) (db sl : Nat) (l : List Nat) (hb : Bd n l) (hsl : sl = l.length) (hn : sl ≤ 1048576) : CallL Try.prog f_slices_SortStableFunc_sl_int_int ([⟨db, ty_int, .is (.agg ((l).map iC).toArray)⟩]) [G] [.is (.slice (some ⟨db, 0, none⟩) sl sl), .is fv] (fun Z : List Nat => Z.Perm l ∧ Srt (ltF cf) Z) (fun Z => [⟨db, ty_int, .is (.agg ((Z).map iC).toArray)⟩]) (fun _ => .is (.tuple #[])) :=
CallL.of (fn := Try.f34) Try.func34 (n := 9) rfl rfl rfl (fun _ _ => by kernel_rfl) fun E W hb0 => by
  repeat refine J.seq ?_
  refine J.plain ?_
  refine JO.t (ob_move rfl) rfl ?_
  refine JO.t (ob_move rfl) rfl ?_
  refine JO.t (ob_len un_sl_int rfl) rfl ?_
  refine JO.t (ob_move rfl) rfl ?_
  refine JO.callL (Lr := []) (c_slices_stableCmpFunc_int fv G n cf hF hw db sl l hb hsl hn) (fun d e => by injection e with e; show d < 9; omega) (List.Perm.of_eq (List.append_nil _).symm) (fun F hF => by repeat (first | exact hF | refine List.mem_cons_of_mem _ ?_)) (.one rfl (.one rfl (.one rfl .nil))) ?_
  intro Z hZ
  rw [List.append_nil]
  refine JO.nil ?_
  refine JX.normal_ret ?_
  exact JX.retL0 (Zp := fun Z : List Nat => Z.Perm l ∧ Srt (ltF cf) Z) (R := fun _ => .is (.tuple #[])) (Lr := []) (L1 := fun Z => [⟨db, ty_int, .is (.agg ((Z).map iC).toArray)⟩]) rfl Z hZ (List.Perm.of_eq (List.append_nil _).symm) rfl hb0 rfl
end Go.Proofs.Ytgpikmonklainaa
