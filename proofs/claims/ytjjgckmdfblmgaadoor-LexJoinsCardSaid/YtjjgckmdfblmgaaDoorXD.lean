/- What the scanner does, in plain terms. No condition. -/
import Derived.Test.YtjjgckmdfblmgaaDoorXSH
set_option maxRecDepth 20000
namespace Go.Proofs.YtjjgckmdfblmgaaDoor
open Go Go.Vc
abbrev sv (s : ByteArray) (i : Nat) : Value := .agg #[.string s, .int .i64 (i : Int)]
def or32 (c : Int) : Int := IntKind.u8.wrap (BitVec.ofInt IntKind.u8.bits c ||| BitVec.ofInt IntKind.u8.bits 32).toNat
def letterF (c : Int) : Bool := (c == 95) || (decide (97 ≤ or32 c) && decide (or32 c ≤ 122))
def digitF (c : Int) : Bool := decide (48 ≤ c) && decide (c ≤ 57)
def letB (b : UInt8) : Bool := letterF b.toNat
def digB (b : UInt8) : Bool := digitF b.toNat
def wordB (b : UInt8) : Bool := letB b || digB b
def isSp (b : UInt8) : Bool := decide (0 ≤ Lib.indexByte [32, 9, 10, 13] b)
def runN (p : UInt8 → Bool) : List UInt8 → Nat
  | [] => 0
  | b :: l => if p b then runN p l + 1 else 0
theorem runN_le (p : UInt8 → Bool) : ∀ l : List UInt8, runN p l ≤ l.length
  | [] => Nat.le_refl _
  | b :: l => by
    have := runN_le p l
    unfold runN
    split <;> simp <;> omega
theorem run_stop {p : UInt8 → Bool} {s : ByteArray} {i : Nat} (h : i < s.size → p (by_ s i) = false) : runN p (dr s i) = 0 := by
  by_cases hi : i < s.size
  · rw [dr_cons hi, runN, if_neg (by rw [h hi]; simp)]
  · rw [dr_nil (by omega)]; rfl
theorem run_go {p : UInt8 → Bool} {s : ByteArray} {i : Nat} (hi : i < s.size) (h : p (by_ s i) = true) : runN p (dr s i) = runN p (dr s (i + 1)) + 1 := by
  rw [dr_cons hi, runN, if_pos h]
theorem run_le {p : UInt8 → Bool} {s : ByteArray} {i : Nat} (hi : i ≤ s.size) : i + runN p (dr s i) ≤ s.size := by
  have := runN_le p (dr s i)
  rw [dr_len] at this
  omega
theorem sb_u8 (s : ByteArray) (i : Nat) : (sb s i).toNat.toUInt8 = by_ s i := by
  rw [sb_by]
  simp
def kwB : ByteArray := ⟨#[32, 65, 78, 68, 32, 65, 83, 32, 65, 83, 67, 32, 66, 69, 71, 73, 78, 32, 66, 79, 79, 76, 32, 66, 89, 32, 67, 79, 77, 77, 73, 84, 32, 67, 79, 85, 78, 84, 32, 67, 82, 69, 65, 84, 69, 32, 68, 69, 76, 69, 84, 69, 32, 68, 69, 83, 67, 32, 70, 65, 76, 83, 69, 32, 70, 82, 79, 77, 32, 71, 82, 79, 85, 80, 32, 72, 65, 83, 72, 32, 73, 78, 68, 69, 88, 32, 73, 78, 78, 69, 82, 32, 73, 78, 83, 69, 82, 84, 32, 73, 78, 84, 32, 73, 78, 84, 79, 32, 73, 83, 32, 74, 79, 73, 78, 32, 75, 69, 89, 32, 76, 73, 77, 73, 84, 32, 77, 65, 88, 32, 77, 73, 78, 32, 78, 79, 84, 32, 78, 85, 76, 76, 32, 79, 78, 32, 79, 82, 32, 79, 82, 68, 69, 82, 32, 80, 82, 73, 77, 65, 82, 89, 32, 82, 79, 76, 76, 66, 65, 67, 75, 32, 83, 69, 76, 69, 67, 84, 32, 83, 69, 84, 32, 83, 85, 77, 32, 84, 65, 66, 76, 69, 32, 84, 69, 88, 84, 32, 84, 82, 85, 69, 32, 85, 78, 73, 81, 85, 69, 32, 85, 80, 68, 65, 84, 69, 32, 85, 83, 73, 78, 71, 32, 86, 65, 76, 85, 69, 83, 32, 87, 72, 69, 82, 69, 32]⟩
def sgB : ByteArray := ⟨#[32, 60, 62, 32, 60, 61, 32, 62, 61, 32, 40, 32, 41, 32, 44, 32, 59, 32, 42, 32, 43, 32, 45, 32, 47, 32, 37, 32, 61, 32, 60, 32, 62, 32, 46, 32]⟩
abbrev sp1 : ByteArray := ⟨#[32]⟩
abbrev bl (l : List UInt8) : ByteArray := ⟨l.toArray⟩
theorem bl_size (l : List UInt8) : (bl l).size = l.length := by show l.toArray.size = _; simp
theorem bl_list (l : List UInt8) : (bl l).data.toList = l := by simp
theorem bl_eq (s : ByteArray) : bl s.data.toList = s := by cases s; simp
theorem ext_eq (s : ByteArray) (n k : Nat) : s.extract n (n + k) = bl ((dr s n).take k) := by
  rw [← ext_bytes, bl_eq]
theorem app_list (a b : ByteArray) : (a ++ b).data.toList = a.data.toList ++ b.data.toList := by
  rw [ByteArray.data_append, Array.toList_append]
def padL (l : List UInt8) : List UInt8 := 32 :: l ++ [32]
theorem pad_eq (a : ByteArray) : ((sp1 ++ a) ++ sp1).data.toList = padL a.data.toList := by
  rw [app_list, app_list]; rfl
def wordL (w : List UInt8) : T3 × Int :=
  if Lib.contains kwB.data.toList (padL (Lib.toUpperA w)) then (⟨1, bl (Lib.toUpperA w), 0⟩, 0)
  else if decide (32 < (w.length : Int)) then (t3D, 30) else (⟨2, bl (Lib.toLowerA w), 0⟩, 0)
def numStep (a : Int × Int) (b : UInt8) : Int × Int :=
  (IntKind.i64.wrap (IntKind.i64.wrap (10 * a.1) + IntKind.i64.wrap (IntKind.u8.wrap ((b.toNat : Int) - 48))),
   if decide ((IntKind.i64.wrap ((IntKind.i64.wrap (9223372036854775807 - IntKind.i64.wrap (IntKind.u8.wrap ((b.toNat : Int) - 48)))).tdiv 10)) < a.1) then 35 else a.2)
def headP (p : UInt8 → Bool) : List UInt8 → Bool
  | [] => false
  | b :: _ => p b
def numE (l : List UInt8) : Int := if headP letB (l.drop (runN digB l)) then 30 else ((l.take (runN digB l)).foldl numStep (0, 0)).2
def numL (l : List UInt8) : T3 × Int :=
  if (numE l != 0) then (t3D, numE l) else (⟨3, ⟨#[]⟩, ((l.take (runN digB l)).foldl numStep (0, 0)).1⟩, 0)
def endT (acc : List UInt8) : T3 × Int := if decide (64 < (acc.length : Int)) then (t3D, 30) else (⟨4, bl acc, 0⟩, 0)
def textL : List UInt8 → List UInt8 → (T3 × Int) × Nat
  | [], _ => ((t3D, 30), 0)
  | [b], acc => if b == 39 then (endT acc, 1) else ((t3D, 30), 1)
  | b :: c :: l, acc => if b == 39 then (if c != 39 then (endT acc, 1) else ((textL l (acc ++ [c])).1, (textL l (acc ++ [c])).2 + 2)) else ((textL (c :: l) (acc ++ [b])).1, (textL (c :: l) (acc ++ [b])).2 + 1)
def tryL (l : List UInt8) (q : Nat) : Bool := decide (q ≤ l.length) && Lib.contains sgB.data.toList (padL (l.take q))
def signL (l : List UInt8) : (T3 × Int) × Nat := if tryL l 2 then ((⟨5, bl (l.take 2), 0⟩, 0), 2) else if tryL l 1 then ((⟨5, bl (l.take 1), 0⟩, 0), 1) else ((t3D, 30), 0)
def stepL : List UInt8 → (T3 × Int) × Nat
  | [] => ((t3D, 30), 0)
  | b :: l => if letB b then (wordL ((b :: l).take (runN wordB (b :: l))), runN wordB (b :: l))
    else if digB b then (numL (b :: l), runN digB (b :: l))
    else if b == 39 then ((textL l []).1, (textL l []).2 + 1)
    else signL (b :: l)
def allG : Nat → List UInt8 → List T3 × Int
  | 0, _ => ([], 0)
  | f + 1, l => match l.drop (runN isSp l) with
    | [] => ([], 0)
    | b :: r => if ((stepL (b :: r)).1.2 != 0) then ([], (stepL (b :: r)).1.2)
      else if ((allG f ((b :: r).drop (stepL (b :: r)).2)).2 != 0) then ([], (allG f ((b :: r).drop (stepL (b :: r)).2)).2)
      else ((stepL (b :: r)).1.1 :: (allG f ((b :: r).drop (stepL (b :: r)).2)).1, 0)
def lexL (l : List UInt8) : List T3 × Int := if decide (2048 < (l.length : Int)) then ([], 30) else allG (l.length + 1) l
theorem up_size (w : List UInt8) : (Lib.toUpperA w).length = w.length := by simp [Lib.toUpperA]
theorem low_size (w : List UInt8) : (Lib.toLowerA w).length = w.length := by simp [Lib.toLowerA]
theorem sz_pad1 {a : ByteArray} (h : a.size ≤ 2048) : sp1.size + a.size ≤ 9223372036854775807 := by
  have : sp1.size = 1 := rfl
  omega
theorem sz_pad2 {a : ByteArray} (h : a.size ≤ 2048) : (sp1 ++ a).size + sp1.size ≤ 9223372036854775807 := by
  have : sp1.size = 1 := rfl
  rw [ByteArray.size_append]
  omega
theorem ext_size (s : ByteArray) (n k : Nat) : (s.extract n (n + k)).size ≤ s.size := by
  rw [ext_eq, bl_size, List.length_take, dr_len]
  omega
theorem word_ascii_int : ∀ n : Nat, n < 256 → (letterF n || digitF n) = true → n < 128 := by decide +kernel
theorem word_ascii {b : UInt8} (h : wordB b = true) : b.toNat < 128 := word_ascii_int b.toNat b.toNat_lt h
theorem run_all (p : UInt8 → Bool) : ∀ l : List UInt8, ∀ b ∈ l.take (runN p l), p b = true
  | [], b, h => by simp [runN] at h
  | c :: l, b, h => by
    unfold runN at h
    by_cases hc : p c = true
    · rw [if_pos hc, List.take_succ_cons] at h
      rcases List.mem_cons.1 h with rfl | h
      · exact hc
      · exact run_all p l b h
    · rw [if_neg hc] at h
      simp at h
theorem ext_ascii (s : ByteArray) (n : Nat) : ∀ (j : Nat) (b : UInt8), (s.extract n (n + runN wordB (dr s n))).data.toList[j]? = some b → b.toNat < 128 := fun j b h => by
  rw [ext_bytes] at h
  exact word_ascii (run_all wordB _ b (List.mem_of_getElem? h))
end Go.Proofs.YtjjgckmdfblmgaaDoor
