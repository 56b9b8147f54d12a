/- The tokens of a text, written with spaces between them: what the statement does. No condition. -/
import Derived.Test.YtjjgckmdfblmgaaDoorXJ
import Derived.Test.YtjjgckmdfblmgaaDoorXLJ
import Derived.Test.YtjjgckmdfblmgaaDoorXSV
import Derived.Test.YtjjgckmdfblmgaaDoorXG4
set_option maxRecDepth 20000
namespace Go.Proofs.YtjjgckmdfblmgaaDoor
open Go Go.Vc
abbrev jW (s : ByteArray) (i : Nat) : ByteArray := bl (writeL ((lexL s.data.toList).1.take i))
theorem jW_size (s : ByteArray) (i : Nat) : (jW s i).size ≤ 4200000 := by
  show (bl _).size ≤ _
  rw [bl_size]
  have h1 := write_len ((lexL s.data.toList).1.take i) (fun x hx => lexL_ok s.data.toList x (List.mem_of_mem_take hx))
  have h2 := lexL_len s.data.toList
  have h3 : ((lexL s.data.toList).1.take i).length ≤ (lexL s.data.toList).1.length := List.length_take_le' i _
  omega
theorem jW_next {s : ByteArray} {i : Nat} {v : ByteArray} (h : i < (lexL s.data.toList).1.length) (hv : v.data.toList = showT ((lexL s.data.toList).1.getD i t3D)) : (jW s i ++ (⟨#[32]⟩ : ByteArray)) ++ v = jW s (i + 1) := by
  refine ByteArray.ext (Array.ext' ?_)
  show ((jW s i ++ (⟨#[32]⟩ : ByteArray)) ++ v).data.toList = (bl _).data.toList
  rw [app_list, app_list, hv, bl_list, write_next h]
  show ((bl _).data.toList ++ [32]) ++ _ = _
  rw [bl_list, List.append_assoc]
  rfl
theorem jS_size (s : ByteArray) (i : Nat) {v : ByteArray} (hv : v.size ≤ 5000) : (jW s i ++ (⟨#[32]⟩ : ByteArray)).size + v.size ≤ 9223372036854775807 := by
  have h := jW_size s i
  have h1 : (⟨#[32]⟩ : ByteArray).size = 1 := rfl
  rw [ByteArray.size_append]
  omega
theorem jO {s : ByteArray} {i : Nat} (h : i < (lexL s.data.toList).1.length) : okT ((lexL s.data.toList).1.getD i t3D) := by
  refine lexL_ok s.data.toList _ ?_
  rw [List.getD_eq_getElem?_getD, List.getElem?_eq_getElem h]
  exact List.getElem_mem h
theorem jN {x : T3} (hk : (x.k == 3) = true) : (showV ⟨1, x.n, ⟨#[]⟩⟩).data.toList = showT x := by
  have h : okV ⟨1, x.n, ⟨#[]⟩⟩ = true := by unfold okV; rw [if_neg (by show ¬ ((1 : Int) == 0) = true; decide), if_pos (by show ((1 : Int) == 1) = true; decide)]; exact (by simp [seq] : seq ⟨#[]⟩ ⟨#[]⟩ = true)
  unfold showV showT
  rw [h, if_neg (by decide), if_pos (by show ((1 : Int) == 1) = true; decide), if_pos hk]
theorem jT {x : T3} (hk3 : (x.k == 3) = false) (hk : (x.k == 4) = true) (hs : x.t.size ≤ 64) : (showV ⟨3, 0, x.t⟩).data.toList = showT x := by
  have h : okV ⟨3, 0, x.t⟩ = true := by
    unfold okV
    rw [if_neg (by show ¬ ((3 : Int) == 0) = true; decide), if_neg (by show ¬ ((3 : Int) == 1) = true; decide), if_neg (by show ¬ ((3 : Int) == 2) = true; decide)]
    show ((((3 : Int) == 3) && ((0 : Int) == 0)) && decide ((x.t.size : Int) ≤ 64)) = true
    rw [decide_eq_true (by omega)]
    rfl
  unfold showV showT
  rw [h, if_neg (by decide), if_neg (by show ¬ ((3 : Int) == 1) = true; decide), if_neg (by show ¬ ((3 : Int) == 2) = true; decide), if_pos (by show ((3 : Int) == 3) = true; decide), if_neg (by rw [hk3]; simp), if_pos hk]
  show ((qu1 ++ bl _) ++ qu1).data.toList = _
  rw [app_list, app_list, bl_list]
  rfl
theorem jD {x : T3} (hk3 : (x.k == 3) = false) (hk : (x.k == 4) = false) : x.t.data.toList = showT x := by
  unfold showT
  rw [if_neg (by rw [hk3]; simp), if_neg (by rw [hk]; simp)]
theorem jV_size {x : T3} {v : ByteArray} (h : okT x) (hv : v.data.toList = showT x) : v.size ≤ 5000 := by
  have := show_len h
  rw [← hv, len_bytes] at this
  omega
theorem joins_end (s : ByteArray) : ((decide (2048 < ((jW s (lexL s.data.toList).1.length).size : Int)) && ((lexL (jW s (lexL s.data.toList).1.length).data.toList).2 == 30)) || (((lexL (jW s (lexL s.data.toList).1.length).data.toList).2 == 0) && sameT (lexL s.data.toList).1 (lexL (jW s (lexL s.data.toList).1.length).data.toList).1)) = true := by
  have e : (jW s (lexL s.data.toList).1.length).data.toList = writeL (lexL s.data.toList).1 := by
    show (bl _).data.toList = _
    rw [bl_list, List.take_length]
  have h2 : (jW s (lexL s.data.toList).1.length).size = (writeL (lexL s.data.toList).1).length := by rw [← len_bytes, e]
  rw [h2, e]
  by_cases h : (writeL (lexL s.data.toList).1).length ≤ 2048
  · rw [joins_law _ h, sameT_refl]
    simp
  · rw [joins_big (l := writeL (lexL s.data.toList).1) (by omega), decide_eq_true (by omega)]
    rfl
theorem c_law09_LexJoins (s : ByteArray) : CallF Tryd.prog f_law09_LexJoins [GF, TF] [.is (.string s)] (.is (.bool true)) :=
CallF.of (fn := Tryd.f7) Tryd.func7 (n := 84) rfl rfl rfl (fun _ _ => by kernel_rfl) fun E W => by
  repeat refine J.seq ?_
  refine J.plain ?_
  refine JO.t (ob_assign rfl) rfl ?_
  refine JO.nil ?_
  repeat (first | refine JX.next ?_ | refine JX.normal_block ?_)
  refine J.sel [0] (.cons rfl .nil) ?_
  repeat refine J.seq ?_
  refine J.plain ?_
  refine JO.t (ob_callF rfl (c_law09_awake) (by simp) .nil) rfl ?_
  refine JO.t (ob_not rfl) rfl ?_
  refine JO.nil ?_
  repeat (first | refine JX.next ?_ | refine JX.normal_block ?_)
  refine J.sel [0, 9] (.cons rfl (.cons rfl .nil)) ?_
  repeat refine J.seq ?_
  refine J.cond rfl (fun ht9 => ?_) (fun ht9 => ?_)
  ·
    try simp only [decide_eq_true_eq, decide_eq_false_iff_not] at ht9
    repeat refine J.seq ?_
    refine J.plain ?_
    refine JO.t (ob_assign rfl) rfl ?_
    refine JO.nil ?_
    repeat (first | refine JX.next ?_ | refine JX.normal_block ?_)
    refine J.sel [2] (.cons rfl .nil) ?_
    repeat refine J.seq ?_
    refine J.ret ?_
    repeat (first | refine JX.ret_pass ?_ | refine JX.ret_block ?_)
    exact JX.ret1is rfl rfl (by simp at ht9)
  ·
    try simp only [decide_eq_true_eq, decide_eq_false_iff_not] at ht9
    refine J.skip ?_
    repeat (first | refine JX.next ?_ | refine JX.normal_block ?_)
    repeat refine J.seq ?_
    refine J.plain ?_
    refine JO.t (ob_move rfl) rfl ?_
    refine JO.t (ob_callF rfl (c_lex_All s) (by simp) (.one rfl .nil)) rfl ?_
    refine JO.t (ob_move rfl) rfl ?_
    refine JO.t (ob_extract0 rfl) rfl ?_
    refine JO.t (ob_extract1 rfl) rfl ?_
    refine JO.t (ob_assign rfl) rfl ?_
    refine JO.t (ob_assign rfl) rfl ?_
    refine JO.nil ?_
    repeat (first | refine JX.next ?_ | refine JX.normal_block ?_)
    refine J.sel [3, 4] (.cons rfl (.cons rfl .nil)) ?_
    repeat refine J.seq ?_
    refine J.plain ?_
    refine JO.t (ob_move rfl) rfl ?_
    refine JO.t (ob_neq rfl rfl) rfl ?_
    refine JO.nil ?_
    repeat (first | refine JX.next ?_ | refine JX.normal_block ?_)
    refine J.sel [3, 16] (.cons rfl (.cons rfl .nil)) ?_
    repeat refine J.seq ?_
    refine J.cond rfl (fun ht16 => ?_) (fun ht16 => ?_)
    ·
      try simp only [decide_eq_true_eq, decide_eq_false_iff_not] at ht16
      refine J.openSl (s := 3) rfl (fun a len cap b o hlen ha => ?_)
      subst hlen
      repeat refine J.seq ?_
      refine J.plain ?_
      refine JO.t (ob_move rfl) rfl ?_
      refine JO.t (ob_len un_sl_api_Token rfl) rfl ?_
      refine JO.t (ob_eql rfl rfl) rfl ?_
      refine JO.t (ob_assign rfl) rfl ?_
      refine JO.nil ?_
      repeat (first | refine JX.next ?_ | refine JX.normal_block ?_)
      refine J.sel [2] (.cons rfl .nil) ?_
      repeat refine J.seq ?_
      refine J.ret ?_
      repeat (first | refine JX.ret_pass ?_ | refine JX.ret_block ?_)
      exact JX.ret1is rfl rfl (by rw [lexL_err (by simpa using ht16)]; rfl)
    ·
      try simp only [decide_eq_true_eq, decide_eq_false_iff_not] at ht16
      refine J.skip ?_
      repeat (first | refine JX.next ?_ | refine JX.normal_block ?_)
      have hlx := lexL_len s.data.toList
      refine J.openSl (s := 3) rfl (fun a len cap b o hlen ha => ?_)
      subst hlen
      repeat refine J.seq ?_
      refine J.plain ?_
      refine JO.t (ob_assign rfl) rfl ?_
      refine JO.nil ?_
      repeat (first | refine JX.next ?_ | refine JX.normal_block ?_)
      refine J.sel [3, 5] (.cons rfl (.cons rfl .nil)) ?_
      repeat refine J.seq ?_
      refine J.plain ?_
      refine JO.t (ob_assign rfl) rfl ?_
      refine JO.nil ?_
      repeat (first | refine JX.next ?_ | refine JX.normal_block ?_)
      refine J.sel [3, 5, 6] (.cons rfl (.cons rfl (.cons rfl .nil))) ?_
      repeat refine J.seq ?_
      refine J.block ?_
      repeat refine J.seq ?_
      refine J.loopF (α := Nat) (fun i => [(3, .is (.slice a (lexL s.data.toList).1.length cap)), (5, .is (.string (jW s i))), (6, .is (.int .i64 (i : Nat)))]) (fun i => i ≤ (lexL s.data.toList).1.length) (fun i => (lexL s.data.toList).1.length - i) 0 [3, 5, 6] (.cons rfl (.cons rfl (.cons rfl .nil))) (Nat.zero_le _) fun i hi => ?_
      repeat refine J.seq ?_
      refine J.plain ?_
      refine JO.t (ob_move rfl) rfl ?_
      refine JO.t (ob_move rfl) rfl ?_
      refine JO.t (ob_len un_sl_api_Token rfl) rfl ?_
      refine JO.t (ob_lss rfl rfl) rfl ?_
      refine JO.nil ?_
      repeat (first | refine JX.next ?_ | refine JX.normal_block ?_)
      refine J.sel [3, 5, 6, 23] (.cons rfl (.cons rfl (.cons rfl (.cons rfl .nil)))) ?_
      repeat refine J.seq ?_
      refine J.cond rfl (fun ht23 => ?_) (fun ht23 => ?_)
      ·
        try simp only [decide_eq_true_eq, decide_eq_false_iff_not] at ht23
        refine J.skip ?_
        repeat (first | refine JX.next ?_ | refine JX.normal_block ?_)
        repeat refine J.seq ?_
        refine J.block ?_
        repeat refine J.seq ?_
        refine J.plain ?_
        refine JO.t (ob_move rfl) rfl ?_
        refine JO.t (ob_move rfl) rfl ?_
        refine JO.t (ob_indexAddr el_sl_api_Token rfl (ha (by omega)) rfl (by omega) (by omega)) rfl ?_
        refine JO.t (ob_fieldAddr fo_api_Token_0 rfl) rfl ?_
        refine JO.t (ob_loadG1 (enc := T3.cells) (sz := 3) (len := (lexL s.data.toList).1.length) (i := i) (j := 0) (y := (lexL s.data.toList).1.getD i t3D) sz_int rfl (by repeat (first | exact List.mem_cons_self | apply List.mem_cons_of_mem)) (ha (by omega)) (t3_get (by omega)) (by omega) rfl) rfl ?_
        refine JO.nil ?_
        repeat (first | refine JX.next ?_ | refine JX.normal_block ?_)
        refine J.sel [3, 5, 6, 30] (.cons rfl (.cons rfl (.cons rfl (.cons rfl .nil)))) ?_
        repeat refine J.seq ?_
        refine J.block ?_
        repeat refine J.seq ?_
        refine J.plain ?_
        refine JO.t (ob_eql rfl rfl) rfl ?_
        refine JO.t (ob_assign rfl) rfl ?_
        refine JO.nil ?_
        repeat (first | refine JX.next ?_ | refine JX.normal_block ?_)
        refine J.sel [3, 5, 6, 30, 39] (.cons rfl (.cons rfl (.cons rfl (.cons rfl (.cons rfl .nil))))) ?_
        repeat refine J.seq ?_
        refine J.cond rfl (fun ht39 => ?_) (fun ht39 => ?_)
        ·
          try simp only [decide_eq_true_eq, decide_eq_false_iff_not] at ht39
          repeat refine J.seq ?_
          refine J.plain ?_
          refine JO.t (ob_move rfl) rfl ?_
          refine JO.t (ob_sadd rfl rfl (by have h := jW_size s i; have h1 : (⟨#[32]⟩ : ByteArray).size = 1 := rfl; show (jW s i).size + (⟨#[32]⟩ : ByteArray).size ≤ 9223372036854775807; omega)) rfl ?_
          refine JO.t (ob_move rfl) rfl ?_
          refine JO.t (ob_move rfl) rfl ?_
          refine JO.t (ob_indexAddr el_sl_api_Token rfl (ha (by omega)) rfl (by omega) (by omega)) rfl ?_
          refine JO.t (ob_fieldAddr fo_api_Token_2 rfl) rfl ?_
          refine JO.t (ob_loadG1 (enc := T3.cells) (sz := 3) (len := (lexL s.data.toList).1.length) (i := i) (j := 2) (y := (lexL s.data.toList).1.getD i t3D) sz_int64 rfl (by repeat (first | exact List.mem_cons_self | apply List.mem_cons_of_mem)) (ha (by omega)) (t3_get (by omega)) (by omega) rfl) rfl ?_
          refine JO.t (ob_build (cs := [_, _, _]) sh_api_Value (.cons rfl (.cons rfl .nil)) rfl rfl) rfl ?_
          refine JO.t (ob_callF rfl (c_value_Show ⟨1, ((lexL s.data.toList).1.getD i t3D).n, ⟨#[]⟩⟩ (by have h := ((jO (s := s) (i := i) (by omega)).2.1 (by simpa using ht39)).2.1; show _ ≤ ((lexL s.data.toList).1.getD i t3D).n; omega) (by have h := ((jO (s := s) (i := i) (by omega)).2.1 (by simpa using ht39)).2.2; show ((lexL s.data.toList).1.getD i t3D).n ≤ _; omega)) (by simp) (.one rfl .nil)) rfl ?_
          refine JO.t (ob_saddv (u := jW s (i + 1)) rfl rfl (jS_size s i (jV_size (jO (by omega)) (jN ht39))) (jW_next (by omega) (jN ht39))) rfl ?_
          refine JO.t (ob_assign rfl) rfl ?_
          refine JO.nil ?_
          repeat (first | refine JX.next ?_ | refine JX.normal_block ?_)
          refine J.sel [3, 5, 6] (.cons rfl (.cons rfl (.cons rfl .nil))) ?_
          repeat refine J.seq ?_
          refine J.plain ?_
          refine JO.t (ob_move rfl) rfl ?_
          refine JO.t (ob_addc (cc := ((i + 1 : Nat) : Int)) rfl rfl (by omega) (by omega) (by omega)) rfl ?_
          refine JO.t (ob_assign rfl) rfl ?_
          refine JO.nil ?_
          repeat refine JX.normal_block ?_
          refine JX.roundS (i + 1) ?_ ?_ [3, 5, 6] ?_ ?_ ?_
          · exact (by omega)
          · exact (by omega)
          · exact (.cons rfl (.cons rfl (.cons rfl .nil)))
          · repeat (first | exact .slnil | apply List.Sublist.cons_cons | apply List.Sublist.cons)
          · repeat (first | exact .slnil | apply List.Sublist.cons_cons | apply List.Sublist.cons)
        ·
          try simp only [decide_eq_true_eq, decide_eq_false_iff_not] at ht39
          repeat refine J.seq ?_
          refine J.plain ?_
          refine JO.t (ob_eql rfl rfl) rfl ?_
          refine JO.t (ob_assign rfl) rfl ?_
          refine JO.nil ?_
          repeat (first | refine JX.next ?_ | refine JX.normal_block ?_)
          refine J.sel [3, 5, 6, 51] (.cons rfl (.cons rfl (.cons rfl (.cons rfl .nil)))) ?_
          repeat refine J.seq ?_
          refine J.cond rfl (fun ht51 => ?_) (fun ht51 => ?_)
          ·
            try simp only [decide_eq_true_eq, decide_eq_false_iff_not] at ht51
            repeat refine J.seq ?_
            refine J.plain ?_
            refine JO.t (ob_move rfl) rfl ?_
            refine JO.t (ob_sadd rfl rfl (by have h := jW_size s i; have h1 : (⟨#[32]⟩ : ByteArray).size = 1 := rfl; show (jW s i).size + (⟨#[32]⟩ : ByteArray).size ≤ 9223372036854775807; omega)) rfl ?_
            refine JO.t (ob_move rfl) rfl ?_
            refine JO.t (ob_move rfl) rfl ?_
            refine JO.t (ob_indexAddr el_sl_api_Token rfl (ha (by omega)) rfl (by omega) (by omega)) rfl ?_
            refine JO.t (ob_fieldAddr fo_api_Token_1 rfl) rfl ?_
            refine JO.t (ob_loadG1 (enc := T3.cells) (sz := 3) (len := (lexL s.data.toList).1.length) (i := i) (j := 1) (y := (lexL s.data.toList).1.getD i t3D) sz_string rfl (by repeat (first | exact List.mem_cons_self | apply List.mem_cons_of_mem)) (ha (by omega)) (t3_get (by omega)) (by omega) rfl) rfl ?_
            refine JO.t (ob_build (cs := [_, _, _]) sh_api_Value (.cons rfl (.cons rfl .nil)) rfl rfl) rfl ?_
            refine JO.t (ob_callF rfl (c_value_Show ⟨3, 0, ((lexL s.data.toList).1.getD i t3D).t⟩ (by show (_ : Int) ≤ 0; omega) (by show (0 : Int) ≤ _; omega)) (by simp) (.one rfl .nil)) rfl ?_
            refine JO.t (ob_saddv (u := jW s (i + 1)) rfl rfl (jS_size s i (jV_size (jO (by omega)) (jT ht39 ht51 ((jO (s := s) (i := i) (by omega)).2.2.1 (by simpa using ht51))))) (jW_next (by omega) (jT ht39 ht51 ((jO (s := s) (i := i) (by omega)).2.2.1 (by simpa using ht51))))) rfl ?_
            refine JO.t (ob_assign rfl) rfl ?_
            refine JO.nil ?_
            repeat (first | refine JX.next ?_ | refine JX.normal_block ?_)
            refine J.sel [3, 5, 6] (.cons rfl (.cons rfl (.cons rfl .nil))) ?_
            repeat refine J.seq ?_
            refine J.plain ?_
            refine JO.t (ob_move rfl) rfl ?_
            refine JO.t (ob_addc (cc := ((i + 1 : Nat) : Int)) rfl rfl (by omega) (by omega) (by omega)) rfl ?_
            refine JO.t (ob_assign rfl) rfl ?_
            refine JO.nil ?_
            repeat refine JX.normal_block ?_
            refine JX.roundS (i + 1) ?_ ?_ [3, 5, 6] ?_ ?_ ?_
            · exact (by omega)
            · exact (by omega)
            · exact (.cons rfl (.cons rfl (.cons rfl .nil)))
            · repeat (first | exact .slnil | apply List.Sublist.cons_cons | apply List.Sublist.cons)
            · repeat (first | exact .slnil | apply List.Sublist.cons_cons | apply List.Sublist.cons)
          ·
            try simp only [decide_eq_true_eq, decide_eq_false_iff_not] at ht51
            repeat refine J.seq ?_
            refine J.plain ?_
            refine JO.t (ob_move rfl) rfl ?_
            refine JO.t (ob_sadd rfl rfl (by have h := jW_size s i; have h1 : (⟨#[32]⟩ : ByteArray).size = 1 := rfl; show (jW s i).size + (⟨#[32]⟩ : ByteArray).size ≤ 9223372036854775807; omega)) rfl ?_
            refine JO.t (ob_move rfl) rfl ?_
            refine JO.t (ob_move rfl) rfl ?_
            refine JO.t (ob_indexAddr el_sl_api_Token rfl (ha (by omega)) rfl (by omega) (by omega)) rfl ?_
            refine JO.t (ob_fieldAddr fo_api_Token_1 rfl) rfl ?_
            refine JO.t (ob_loadG1 (enc := T3.cells) (sz := 3) (len := (lexL s.data.toList).1.length) (i := i) (j := 1) (y := (lexL s.data.toList).1.getD i t3D) sz_string rfl (by repeat (first | exact List.mem_cons_self | apply List.mem_cons_of_mem)) (ha (by omega)) (t3_get (by omega)) (by omega) rfl) rfl ?_
            refine JO.t (ob_saddv (u := jW s (i + 1)) rfl rfl (jS_size s i (jV_size (jO (by omega)) (jD ht39 ht51))) (jW_next (by omega) (jD ht39 ht51))) rfl ?_
            refine JO.t (ob_assign rfl) rfl ?_
            refine JO.nil ?_
            repeat (first | refine JX.next ?_ | refine JX.normal_block ?_)
            refine J.sel [3, 5, 6] (.cons rfl (.cons rfl (.cons rfl .nil))) ?_
            repeat refine J.seq ?_
            refine J.plain ?_
            refine JO.t (ob_move rfl) rfl ?_
            refine JO.t (ob_addc (cc := ((i + 1 : Nat) : Int)) rfl rfl (by omega) (by omega) (by omega)) rfl ?_
            refine JO.t (ob_assign rfl) rfl ?_
            refine JO.nil ?_
            repeat refine JX.normal_block ?_
            refine JX.roundS (i + 1) ?_ ?_ [3, 5, 6] ?_ ?_ ?_
            · exact (by omega)
            · exact (by omega)
            · exact (.cons rfl (.cons rfl (.cons rfl .nil)))
            · repeat (first | exact .slnil | apply List.Sublist.cons_cons | apply List.Sublist.cons)
            · repeat (first | exact .slnil | apply List.Sublist.cons_cons | apply List.Sublist.cons)
      ·
        try simp only [decide_eq_true_eq, decide_eq_false_iff_not] at ht23
        repeat refine J.seq ?_
        refine J.exit ?_
        repeat (first | refine JX.hit ?_ | refine JX.miss rfl ?_ | refine JX.exit_pass ?_)
        repeat (first | refine JX.next ?_ | refine JX.normal_block ?_)
        have hie : i = (lexL s.data.toList).1.length := by omega
        subst hie
        repeat refine J.seq ?_
        refine J.plain ?_
        refine JO.t (ob_move rfl) rfl ?_
        refine JO.t (ob_callF rfl (c_lex_All (jW s (lexL s.data.toList).1.length)) (by simp) (.one rfl .nil)) rfl ?_
        refine JO.t (ob_move rfl) rfl ?_
        refine JO.t (ob_extract0 rfl) rfl ?_
        refine JO.t (ob_extract1 rfl) rfl ?_
        refine JO.t (ob_assign rfl) rfl ?_
        refine JO.t (ob_assign rfl) rfl ?_
        refine JO.nil ?_
        repeat (first | refine JX.next ?_ | refine JX.normal_block ?_)
        refine J.sel [3, 4, 5, 7] (.cons rfl (.cons rfl (.cons rfl (.cons rfl .nil)))) ?_
        repeat refine J.seq ?_
        refine J.reg0 hmx (by kernel_rfl) (by kernel_rfl) ?_
        refine RT.t (ob_move rfl) ?_
        refine RT.t (ob_slen un_string rfl) ?_
        refine RT.t (ob_gtr rfl rfl) ?_
        refine RT.t (ob_move rfl) ?_
        refine RT.g rfl rfl rfl (fun hg => ob_move (.inl rfl)) ?_
        refine RT.g rfl rfl rfl (fun hg => ob_eql (.inr ⟨_, rfl, fun h => h⟩) (.inl rfl)) ?_
        refine RT.t (ob_pickAnd rfl rfl rfl id) ?_
        refine RT.t (ob_move rfl) ?_
        refine RT.g rfl rfl rfl (fun hg => ob_move (.inl rfl)) ?_
        refine RT.g rfl rfl rfl (fun hg => ob_eql (.inr ⟨_, rfl, fun h => h⟩) (.inl rfl)) ?_
        refine RT.g rfl rfl rfl (fun hg => ob_move (.inr ⟨_, rfl, fun h => h⟩)) ?_
        refine RT.gg rfl rfl rfl (fun hg => (ob_move (.inl rfl))) ?_
        refine RT.gg rfl rfl rfl (fun hg => (ob_move (.inl rfl))) ?_
        refine RT.gg rfl rfl rfl (fun hg => (ob_call (.inl rfl) (c_ref09_Same (lexL s.data.toList).1 (lexL (jW s (lexL s.data.toList).1.length).data.toList).1 (by have := lexL_len s.data.toList; omega)) (.sub (.inr ⟨_, rfl, fun h => h⟩) (Sub.slFact (by repeat (first | exact List.mem_cons_self | apply List.mem_cons_of_mem))) (.one (.inr ⟨_, rfl, fun h => h⟩) .nil)))) ?_
        refine RT.g rfl rfl rfl (fun hg => ob_pickAnd (.inr ⟨_, rfl, fun h => h⟩) (.inl rfl) (.inl rfl) (fun h => ⟨hg, h⟩)) ?_
        refine RT.t (ob_pickOr rfl rfl rfl id) ?_
        refine RT.t (ob_assign rfl) ?_
        refine RT.nil ?_
        refine FinS.nil0 ?_
        repeat (first | refine JX.next ?_ | refine JX.normal_block ?_)
        refine J.sel [2] (.cons rfl .nil) ?_
        repeat refine J.seq ?_
        refine J.ret ?_
        repeat (first | refine JX.ret_pass ?_ | refine JX.ret_block ?_)
        exact JX.ret1is rfl rfl (by rw [← joins_end s])
end Go.Proofs.YtjjgckmdfblmgaaDoor
