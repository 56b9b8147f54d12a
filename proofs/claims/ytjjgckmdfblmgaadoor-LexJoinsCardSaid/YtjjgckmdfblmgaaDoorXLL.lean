/- Names, texts, numbers as long as they may be: plain law. No condition. -/
import Derived.Test.YtjjgckmdfblmgaaDoorXLP
set_option maxRecDepth 100000
namespace Go.Proofs.YtjjgckmdfblmgaaDoor
open Go Go.Vc
abbrev zs (k : Nat) : ByteArray := bl (List.replicate k 122)
abbrev ys (k : Nat) : ByteArray := bl (39 :: List.replicate k 121)
abbrev yq (k : Nat) : ByteArray := bl (39 :: List.replicate k 121 ++ [39])
theorem zs_next (k : Nat) : zs k ++ ⟨#[122]⟩ = zs (k + 1) := by
  have : (zs k ++ ⟨#[122]⟩).data.toList = (zs (k + 1)).data.toList := by
    rw [app_list, bl_list]
    show List.replicate k 122 ++ [122] = List.replicate (k + 1) 122
    rw [List.replicate_succ']
  rw [← bl_eq (zs k ++ ⟨#[122]⟩), this, bl_eq]
theorem ys_next (k : Nat) : ys k ++ ⟨#[121]⟩ = ys (k + 1) := by
  have : (ys k ++ ⟨#[121]⟩).data.toList = (ys (k + 1)).data.toList := by
    rw [app_list, bl_list]
    show (39 :: List.replicate k 121) ++ [121] = 39 :: List.replicate (k + 1) 121
    rw [List.replicate_succ', List.cons_append]
  rw [← bl_eq (ys k ++ ⟨#[121]⟩), this, bl_eq]
theorem yq_is (k : Nat) : ys k ++ ⟨#[39]⟩ = yq k := by
  have : (ys k ++ ⟨#[39]⟩).data.toList = (yq k).data.toList := by
    rw [app_list, bl_list, bl_list]
  rw [← bl_eq (ys k ++ ⟨#[39]⟩), this, bl_eq]
theorem zs_size (k : Nat) : (zs k).size = k := by rw [bl_size, List.length_replicate]
theorem ys_size (k : Nat) : (ys k).size = k + 1 := by rw [bl_size, List.length_cons, List.length_replicate]
theorem lim_name : ∀ k : Nat, k < 35 → 30 ≤ k → ((lexL (List.replicate k 122)).2 == 0) = decide ((k : Int) ≤ 32) := by decide +kernel
theorem lim_text : ∀ k : Nat, k < 35 → 30 ≤ k → ((lexL (39 :: List.replicate (k + 32) 121 ++ [39])).2 == 0) = decide (((k + 32 : Nat) : Int) ≤ 64) := by decide +kernel
theorem run_sp : ∀ n : Nat, runN isSp (List.replicate n 32) = n
  | 0 => rfl
  | n + 1 => by rw [List.replicate_succ, runN, if_pos (by decide +kernel), run_sp n]
theorem lim_space (n : Nat) : lexL (List.replicate n 32) = if decide (2048 < (n : Int)) then ([], 30) else ([], 0) := by
  unfold lexL
  rw [List.length_replicate]
  split
  · rfl
  · have e : allG (n + 1) (List.replicate n 32) = allA (List.replicate n 32) := by unfold allA; rw [List.length_replicate]
    rw [e]
    have h : (List.replicate n (32 : UInt8)).drop (runN isSp (List.replicate n 32)) = [] := by rw [run_sp]; simp
    rw [← allA_sp, h]
    rfl
theorem le_of_not (m : Nat) (h : ¬ 2048 < (m : Int)) : (m : Int) ≤ 2048 := by omega
def n1 : ByteArray := ⟨#[48, 48, 48, 48, 48, 57, 50, 50, 51, 51, 55, 50, 48, 51, 54, 56, 53, 52, 55, 55, 53, 56, 48, 55]⟩
def n2 : ByteArray := ⟨#[57, 50, 50, 51, 51, 55, 50, 48, 51, 54, 56, 53, 52, 55, 55, 53, 56, 48, 56]⟩
def n3 : ByteArray := ⟨#[57, 50, 50, 51, 51, 55, 50, 48, 51, 54, 56, 53, 52, 55, 55, 53, 56, 48, 56, 97]⟩
def n1T : List T3 := [⟨3, ⟨#[]⟩, 9223372036854775807⟩]
theorem n1_eq : lexL n1.data.toList = (n1T, 0) := by kernel_rfl
theorem n2_eq : lexL n2.data.toList = ([], 35) := by kernel_rfl
theorem n3_eq : lexL n3.data.toList = ([], 30) := by kernel_rfl
theorem c_n1 : CallF Tryd.prog f_lex_All [GF] [.is (.string n1)] (.tup2 (.rep (SlG T3.cells 3 n1T)) (.is (.int .i64 0))) := by
  have h := c_lex_All n1
  rw [n1_eq] at h
  exact h
theorem c_n2 : CallF Tryd.prog f_lex_All [GF] [.is (.string n2)] (.tup2 (.rep (SlG T3.cells 3 [])) (.is (.int .i64 35))) := by
  have h := c_lex_All n2
  rw [n2_eq] at h
  exact h
theorem c_n3 : CallF Tryd.prog f_lex_All [GF] [.is (.string n3)] (.tup2 (.rep (SlG T3.cells 3 [])) (.is (.int .i64 30))) := by
  have h := c_lex_All n3
  rw [n3_eq] at h
  exact h
def part (i n : Nat) : List Value := List.replicate i (.int .u8 32) ++ List.replicate (n - i) (.int .u8 0)
theorem part_0 (n : Nat) : part 0 n = List.replicate n (.int .u8 0) := by simp [part]
theorem part_len {i n : Nat} (h : i ≤ n) : (part i n).length = n := by simp [part]; omega
theorem part_next {i n : Nat} (h : i < n) : splice (part i n) i [.int .u8 32] = part (i + 1) n := by
  apply List.ext_getElem?
  intro j
  unfold splice part
  obtain ⟨m, hm⟩ : ∃ m, n - i = m + 1 := ⟨n - i - 1, by omega⟩
  rw [hm, show n - (i + 1) = m by omega, List.replicate_succ (n := m)]
  simp [List.take_append, List.drop_append, List.replicate_succ', List.append_assoc]
theorem part_all (n : Nat) : part n n = (List.replicate n (32 : UInt8)).flatMap bC := by
  have : ∀ m : Nat, (List.replicate m (32 : UInt8)).flatMap bC = List.replicate m (.int .u8 32) := fun m => by
    induction m with
    | zero => rfl
    | succ m ih => rw [List.replicate_succ, List.flatMap_cons, ih]; rfl
  simp [part, this]
theorem lim_last (m : Nat) (r : List T3 × Int) (hr : r = if decide (2048 < (m : Int)) = true then ([], 30) else ([], 0)) : (((((((r.2 == 0) == decide ((m : Int) ≤ 2048)) && ((r.1.length : Int) == 0)) && ((0 : Int) == 0)) && ((n1T.length : Int) == 1)) && ((n1T.getD 0 t3D).n == 9223372036854775807)) && ((35 : Int) == 35) && ((30 : Int) == 30)) = true := by
  by_cases h9 : 2048 < (m : Int)
  · rw [if_pos (decide_eq_true h9)] at hr
    subst hr
    have h8 : decide ((m : Int) ≤ 2048) = false := decide_eq_false (by omega)
    rw [h8]
    rfl
  · rw [if_neg (by rw [decide_eq_false h9]; simp)] at hr
    subst hr
    have h8 : decide ((m : Int) ≤ 2048) = true := decide_eq_true (le_of_not m h9)
    rw [h8]
    rfl
end Go.Proofs.YtjjgckmdfblmgaaDoor
