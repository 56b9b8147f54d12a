/- The document's scanner in plain terms. No condition. -/
import Derived.Test.YtjjgckmdfblmgaaDoorXLL
set_option maxRecDepth 100000
namespace Go.Proofs.YtjjgckmdfblmgaaDoor
open Go Go.Vc
def isW (c : Int) : Bool := ((decide (97 ≤ c) && decide (c ≤ 122)) || (decide (65 ≤ c) && decide (c ≤ 90))) || (c == 95)
def isB (c : Int) : Bool := (((c == 32) || (c == 9)) || (c == 10)) || (c == 13)
def classF (c : Int) : Int := if isW c then 1 else if digitF c then 2 else if isB c then 3 else 0
def clsOK (b : UInt8) : Bool := ((classF b.toNat == 1) == letB b) && (((classF b.toNat == 1) || (classF b.toNat == 2)) == wordB b) && ((classF b.toNat == 2) == digB b) && ((classF b.toNat == 3) == isSp b) && (!(isSp b) || !(wordB b))
theorem cls_ok (b : UInt8) : clsOK b = true := all_u8 (p := clsOK) (by decide +kernel) b
theorem cls_all (b : UInt8) : (classF b.toNat == 1) = letB b ∧ ((classF b.toNat == 1) || (classF b.toNat == 2)) = wordB b ∧ (classF b.toNat == 2) = digB b ∧ (classF b.toNat == 3) = isSp b ∧ (isSp b = true → wordB b = false) := by
  have h := cls_ok b
  unfold clsOK at h
  simp only [Bool.and_eq_true, beq_iff_eq, Bool.or_eq_true, Bool.not_eq_true'] at h
  obtain ⟨⟨⟨⟨h1, h2⟩, h3⟩, h4⟩, h5⟩ := h
  refine ⟨h1, h2, h3, h4, fun h => ?_⟩
  rcases h5 with h5 | h5
  · rw [h] at h5; cases h5
  · exact h5
def upV (fr tp d : Int) (b : UInt8) : Int := if decide (fr ≤ (b.toNat : Int)) && decide ((b.toNat : Int) ≤ tp) then IntKind.u8.wrap (IntKind.i64.wrap (IntKind.i64.wrap (b.toNat : Int) + d)) else b.toNat
def upF (fr tp d : Int) (b : UInt8) : UInt8 := (upV fr tp d b).toNat.toUInt8
theorem u8_wrap (x : Int) : ((IntKind.u8.wrap x).toNat.toUInt8.toNat : Int) = IntKind.u8.wrap x := by
  have h : IntKind.u8.wrap x = x % 256 := by
    unfold IntKind.wrap
    simp [IntKind.bits, IntKind.signed]
  rw [h]
  have h1 : 0 ≤ x % 256 := Int.emod_nonneg _ (by decide)
  have h2 : x % 256 < 256 := Int.emod_lt_of_pos _ (by decide)
  have h3 : (x % 256).toNat < 256 := by omega
  rw [Nat.toUInt8_eq, UInt8.toNat_ofNat_of_lt' (by simpa using h3)]
  omega
theorem up_v (fr tp d : Int) (b : UInt8) : ((upF fr tp d b).toNat : Int) = upV fr tp d b := by
  unfold upF upV
  split
  · exact u8_wrap _
  · simp
theorem up_upper : ∀ b : UInt8, upF 97 122 (-32) b = Lib.upperB b := fun b => by
  have := all_u8 (p := fun b => upF 97 122 (-32) b == Lib.upperB b) (by decide +kernel) b
  simpa using this
theorem up_lower : ∀ b : UInt8, upF 65 90 32 b = Lib.lowerB b := fun b => by
  have := all_u8 (p := fun b => upF 65 90 32 b == Lib.lowerB b) (by decide +kernel) b
  simpa using this
def strC (s : ByteArray) : List Value := [.string s]
theorem strC_len (s : ByteArray) : (strC s).length = 1 := rfl
def joinW : List (List UInt8) → List UInt8
  | [] => [32]
  | w :: ws => 32 :: w ++ joinW ws
theorem joinW_head (ws : List (List UInt8)) : ∃ t, joinW ws = 32 :: t := by
  cases ws with
  | nil => exact ⟨[], rfl⟩
  | cons w ws => exact ⟨_, rfl⟩
theorem pre_word : ∀ (x w : List UInt8) (t : List UInt8), 32 ∉ x → 32 ∉ w → ((x ++ [32]).isPrefixOf (w ++ 32 :: t) = true ↔ x = w)
  | [], [], t, _, _ => by simp
  | [], b :: w, t, _, h => by
    have : (32 == b) = false := beq_eq_false_iff_ne.2 fun e => h (e ▸ List.mem_cons_self)
    simp [List.isPrefixOf, this]
  | a :: x, [], t, h, _ => by
    have : (a == 32) = false := beq_eq_false_iff_ne.2 fun e => h (e ▸ List.mem_cons_self)
    simp [List.isPrefixOf, this]
  | a :: x, b :: w, t, h1, h2 => by
    have ih := pre_word x w t (fun h => h1 (List.mem_cons_of_mem _ h)) (fun h => h2 (List.mem_cons_of_mem _ h))
    simp only [List.cons_append, List.isPrefixOf, Bool.and_eq_true, beq_iff_eq, ih, List.cons.injEq]
theorem idx_skip (x : List UInt8) : ∀ (w t : List UInt8), 32 ∉ w → (0 ≤ Lib.index (w ++ t) (padL x) ↔ 0 ≤ Lib.index t (padL x))
  | [], t, _ => Iff.rfl
  | b :: w, t, h => by
    have hb : (32 == b) = false := beq_eq_false_iff_ne.2 fun e => h (e ▸ List.mem_cons_self)
    have hp : (padL x).isPrefixOf (b :: (w ++ t)) = false := by
      unfold padL
      simp [List.isPrefixOf, hb]
    rw [← idx_skip x w t (fun h' => h (List.mem_cons_of_mem _ h'))]
    show 0 ≤ Lib.index (b :: (w ++ t)) (padL x) ↔ _
    rw [Lib.index, hp]
    have := Lib.index_ge (w ++ t) (padL x)
    simp only [Bool.false_eq_true, if_false]
    by_cases h1 : Lib.index (w ++ t) (padL x) = -1
    · rw [h1]; simp
    · rw [if_neg (by simpa using h1)]
      omega
theorem idx_join {x : List UInt8} (hx : 32 ∉ x) : ∀ ws : List (List UInt8), (∀ w ∈ ws, 32 ∉ w) → (0 ≤ Lib.index (joinW ws) (padL x) ↔ x ∈ ws)
  | [], _ => by
    have : Lib.index (joinW []) (padL x) = -1 := by
      cases x with
      | nil => rfl
      | cons a x =>
        unfold joinW padL Lib.index
        simp [List.isPrefixOf, Lib.index]
    rw [this]
    simp
  | w :: ws, hw => by
    obtain ⟨t, ht⟩ := joinW_head ws
    have h1 := pre_word x w t hx (hw w List.mem_cons_self)
    have ih := idx_join hx ws (fun v hv => hw v (List.mem_cons_of_mem _ hv))
    have hs := idx_skip x w (joinW ws) (hw w List.mem_cons_self)
    have e : joinW (w :: ws) = 32 :: (w ++ joinW ws) := rfl
    have hp : (padL x).isPrefixOf (32 :: (w ++ joinW ws)) = (x ++ [32]).isPrefixOf (w ++ joinW ws) := by
      unfold padL
      simp [List.isPrefixOf]
    rw [e, Lib.index, hp]
    rw [← ht] at h1
    by_cases hh : x = w
    · rw [if_pos (h1.2 hh)]
      simp [hh]
    · rw [if_neg (fun h => hh (h1.1 h))]
      have hge := Lib.index_ge (w ++ joinW ws) (padL x)
      rw [ih] at hs
      constructor
      · intro h
        refine List.mem_cons_of_mem _ (hs.1 ?_)
        by_cases h9 : Lib.index (w ++ joinW ws) (padL x) = -1
        · rw [h9] at h; simp at h
        · omega
      · intro h
        rcases List.mem_cons.1 h with h | h
        · exact absurd h hh
        · have := hs.2 h
          rw [if_neg (by rw [beq_iff_eq]; omega)]
          omega
def wordsB : List ByteArray := [⟨#[65, 78, 68]⟩, ⟨#[65, 83]⟩, ⟨#[65, 83, 67]⟩, ⟨#[66, 69, 71, 73, 78]⟩, ⟨#[66, 79, 79, 76]⟩, ⟨#[66, 89]⟩, ⟨#[67, 79, 77, 77, 73, 84]⟩, ⟨#[67, 79, 85, 78, 84]⟩, ⟨#[67, 82, 69, 65, 84, 69]⟩, ⟨#[68, 69, 76, 69, 84, 69]⟩, ⟨#[68, 69, 83, 67]⟩, ⟨#[70, 65, 76, 83, 69]⟩, ⟨#[70, 82, 79, 77]⟩, ⟨#[71, 82, 79, 85, 80]⟩, ⟨#[72, 65, 83, 72]⟩, ⟨#[73, 78, 68, 69, 88]⟩, ⟨#[73, 78, 78, 69, 82]⟩, ⟨#[73, 78, 83, 69, 82, 84]⟩, ⟨#[73, 78, 84]⟩, ⟨#[73, 78, 84, 79]⟩, ⟨#[73, 83]⟩, ⟨#[74, 79, 73, 78]⟩, ⟨#[75, 69, 89]⟩, ⟨#[76, 73, 77, 73, 84]⟩, ⟨#[77, 65, 88]⟩, ⟨#[77, 73, 78]⟩, ⟨#[78, 79, 84]⟩, ⟨#[78, 85, 76, 76]⟩, ⟨#[79, 78]⟩, ⟨#[79, 82]⟩, ⟨#[79, 82, 68, 69, 82]⟩, ⟨#[80, 82, 73, 77, 65, 82, 89]⟩, ⟨#[82, 79, 76, 76, 66, 65, 67, 75]⟩, ⟨#[83, 69, 76, 69, 67, 84]⟩, ⟨#[83, 69, 84]⟩, ⟨#[83, 85, 77]⟩, ⟨#[84, 65, 66, 76, 69]⟩, ⟨#[84, 69, 88, 84]⟩, ⟨#[84, 82, 85, 69]⟩, ⟨#[85, 78, 73, 81, 85, 69]⟩, ⟨#[85, 80, 68, 65, 84, 69]⟩, ⟨#[85, 83, 73, 78, 71]⟩, ⟨#[86, 65, 76, 85, 69, 83]⟩, ⟨#[87, 72, 69, 82, 69]⟩]
theorem kw_join : kwB.data.toList = joinW (wordsB.map fun s => s.data.toList) := by decide +kernel
theorem words_sp : ∀ w ∈ wordsB.map (fun s => s.data.toList), (32 : UInt8) ∉ w := by decide +kernel
theorem seq_list (s : ByteArray) (x : List UInt8) : seq s (bl x) = (s.data.toList == x) := by
  unfold seq
  rw [ByteArray.toList_eq, ByteArray.toList_eq, bl_list]
theorem kw_words {x : List UInt8} (hx : 32 ∉ x) : Lib.contains kwB.data.toList (padL x) = wordsB.any (fun s => seq s (bl x)) := by
  unfold Lib.contains
  rw [kw_join]
  have h := idx_join hx _ words_sp
  rw [Bool.eq_iff_iff, decide_eq_true_iff, h, List.any_eq_true]
  constructor
  · intro hm
    obtain ⟨s, hs, e⟩ := List.mem_map.1 hm
    exact ⟨s, hs, by rw [seq_list]; simpa using e⟩
  · rintro ⟨s, hs, e⟩
    rw [seq_list] at e
    exact List.mem_map.2 ⟨s, hs, by simpa using e⟩
theorem up_nosp (b : UInt8) (h : wordB b = true) : Lib.upperB b ≠ 32 := by
  have := all_u8 (p := fun b => !(wordB b) || !(Lib.upperB b == 32)) (by decide +kernel) b
  rw [h] at this
  simpa using this
theorem upper_nosp {w : List UInt8} (h : ∀ b ∈ w, wordB b = true) : 32 ∉ Lib.toUpperA w := fun hm => by
  obtain ⟨b, hb, e⟩ := List.mem_map.1 hm
  exact up_nosp b (h b hb) e
theorem any_take {α : Type} (p : α → Bool) (d : α) {xs : List α} {i : Nat} (h : i < xs.length) : (xs.take (i + 1)).any p = ((xs.take i).any p || p (xs.getD i d)) := by
  rw [List.take_add_one, List.any_append]
  simp [h]
theorem any_hit {α : Type} {p : α → Bool} (d : α) {xs : List α} {i : Nat} (h : i < xs.length) (hp : p (xs.getD i d) = true) : xs.any p = true :=
  List.any_eq_true.2 ⟨_, by rw [List.getD_eq_getElem?_getD, List.getElem?_eq_getElem h]; exact List.getElem_mem h, hp⟩
def oneB : ByteArray := ⟨#[40, 41, 44, 59, 42, 43, 45, 47, 37, 61, 60, 62, 46]⟩
def signRF (l : List UInt8) : Int :=
  if decide (2 ≤ (l.length : Int)) && ((l.take 2 == [60, 62]) || (l.take 2 == [60, 61]) || (l.take 2 == [62, 61])) then 2 else if oneB.data.toList.contains (l.headD 0) then 1 else 0
theorem one_all (b : UInt8) : tryL [b] 1 = oneB.data.toList.contains b := by
  have := all_u8 (p := fun b => tryL [b] 1 == oneB.data.toList.contains b) (by decide +kernel) b
  simpa using this
theorem two_all : ∀ b ∈ sgB.data.toList, ∀ c ∈ sgB.data.toList, b ≠ 32 → tryL [b, c] 2 = ((([b, c] : List UInt8) == [60, 62]) || (([b, c] : List UInt8) == [60, 61]) || (([b, c] : List UInt8) == [62, 61])) := by decide +kernel
theorem two_is {b c : UInt8} (hb : b ≠ 32) : tryL [b, c] 2 = ((([b, c] : List UInt8) == [60, 62]) || (([b, c] : List UInt8) == [60, 61]) || (([b, c] : List UInt8) == [62, 61])) := by
  by_cases h1 : b ∈ sgB.data.toList
  · by_cases h2 : c ∈ sgB.data.toList
    · exact two_all b h1 c h2 hb
    · rw [try_no (b := c) (by simp) h2]
      have hc : c ≠ 62 ∧ c ≠ 61 := ⟨fun e => h2 (by rw [e]; decide +kernel), fun e => h2 (by rw [e]; decide +kernel)⟩
      simp [hc.1, hc.2]
  · rw [try_no (b := b) (by simp) h1]
    have hc : b ≠ 60 ∧ b ≠ 62 := ⟨fun e => h1 (by rw [e]; decide +kernel), fun e => h1 (by rw [e]; decide +kernel)⟩
    simp [hc.1, hc.2]
theorem rf_two (A B : Bool) (b : UInt8) (l : List UInt8) (h : signRF (b :: l) = if A then 2 else if B then 1 else 0) (h2 : tryL (b :: l) 2 = A) (h1 : tryL (b :: l) 1 = B) :
    signL (b :: l) = if signRF (b :: l) = 0 then ((t3D, 30), 0) else ((⟨5, bl ((b :: l).take (signRF (b :: l)).toNat), 0⟩, 0), (signRF (b :: l)).toNat) := by
  rw [h]
  unfold signL
  rw [h2, h1]
  cases A <;> cases B <;> rfl
theorem sign_is {b : UInt8} {l : List UInt8} (hb : b ≠ 32) : signL (b :: l) = if signRF (b :: l) = 0 then ((t3D, 30), 0) else ((⟨5, bl ((b :: l).take (signRF (b :: l)).toNat), 0⟩, 0), (signRF (b :: l)).toNat) := by
  have e1 : tryL (b :: l) 1 = oneB.data.toList.contains b := by rw [← one_all]; unfold tryL; simp
  cases l with
  | nil =>
    refine rf_two false _ b [] ?_ rfl e1
    unfold signRF
    simp
  | cons c l =>
    have e2 : tryL (b :: c :: l) 2 = tryL [b, c] 2 := by unfold tryL; simp
    refine rf_two _ _ b (c :: l) ?_ (e2.trans (two_is hb)) e1
    unfold signRF
    have e4 : decide (2 ≤ ((b :: c :: l).length : Int)) = true := by simp; omega
    have e3 : (b :: c :: l).take 2 = [b, c] := rfl
    simp only [e4, e3, Bool.true_and, List.headD_cons]
    rfl
def quoF : List UInt8 → List UInt8 → Option (List UInt8 × Nat)
  | [], _ => none
  | [b], acc => if b == 39 then some (acc, 1) else none
  | b :: c :: l, acc => if b == 39 then (if c != 39 then some (acc, 1) else (quoF l (acc ++ [c])).map fun r => (r.1, r.2 + 2)) else (quoF (c :: l) (acc ++ [b])).map fun r => (r.1, r.2 + 1)
theorem quo_text : ∀ (l acc : List UInt8), (quoF l acc = none → (textL l acc).1 = (t3D, 30)) ∧ (∀ r, quoF l acc = some r → textL l acc = (endT r.1, r.2))
  | [], acc => ⟨fun _ => rfl, fun r h => by cases h⟩
  | [b], acc => by
    by_cases hq : (b == 39) = true
    · have e1 : quoF [b] acc = some (acc, 1) := by rw [quoF, if_pos hq]
      have e2 : textL [b] acc = (endT acc, 1) := by rw [textL, if_pos hq]
      rw [e1, e2]
      exact ⟨fun h => (by cases h), fun r h => (by injection h with h; subst h; rfl)⟩
    · have e1 : quoF [b] acc = none := by rw [quoF, if_neg hq]
      have e2 : textL [b] acc = ((t3D, 30), 1) := by rw [textL, if_neg hq]
      rw [e1, e2]
      exact ⟨fun _ => rfl, fun r h => (by cases h)⟩
  | b :: c :: l, acc => by
    obtain ⟨a1, a2⟩ := quo_text l (acc ++ [c])
    obtain ⟨b1, b2⟩ := quo_text (c :: l) (acc ++ [b])
    by_cases hq : (b == 39) = true
    · by_cases hc : (c != 39) = true
      · have e1 : quoF (b :: c :: l) acc = some (acc, 1) := by rw [quoF, if_pos hq, if_pos hc]
        have e2 : textL (b :: c :: l) acc = (endT acc, 1) := by rw [textL, if_pos hq, if_pos hc]
        rw [e1, e2]
        exact ⟨fun h => (by cases h), fun r h => (by injection h with h; subst h; rfl)⟩
      · have e1 : quoF (b :: c :: l) acc = (quoF l (acc ++ [c])).map fun r => (r.1, r.2 + 2) := by rw [quoF, if_pos hq, if_neg hc]
        have e2 : textL (b :: c :: l) acc = ((textL l (acc ++ [c])).1, (textL l (acc ++ [c])).2 + 2) := by rw [textL, if_pos hq, if_neg hc]
        rw [e1, e2]
        refine ⟨fun h => a1 (Option.map_eq_none_iff.1 h), fun r h => ?_⟩
        obtain ⟨q, hq, e⟩ := Option.map_eq_some_iff.1 h
        subst e
        rw [a2 q hq]
    · have e1 : quoF (b :: c :: l) acc = (quoF (c :: l) (acc ++ [b])).map fun r => (r.1, r.2 + 1) := by rw [quoF, if_neg hq]
      have e2 : textL (b :: c :: l) acc = ((textL (c :: l) (acc ++ [b])).1, (textL (c :: l) (acc ++ [b])).2 + 1) := by rw [textL, if_neg hq]
      rw [e1, e2]
      refine ⟨fun h => b1 (Option.map_eq_none_iff.1 h), fun r h => ?_⟩
      obtain ⟨q, hq, e⟩ := Option.map_eq_some_iff.1 h
      subst e
      rw [b2 q hq]
theorem quo_step (b : UInt8) (l acc : List UInt8) (hb : (b == 39) = false) : quoF (b :: l) acc = (quoF l (acc ++ [b])).map fun r => (r.1, r.2 + 1) := by
  cases l with
  | nil => simp [quoF, hb]
  | cons c l => rw [quoF, if_neg (by rw [hb]; simp)]
theorem quo_go {s : ByteArray} {i : Nat} (h : i < s.size) (acc : List UInt8) (hb : (by_ s i == 39) = false) : quoF (dr s i) acc = (quoF (dr s (i + 1)) (acc ++ [by_ s i])).map fun r => (r.1, r.2 + 1) := by
  rw [dr_cons h, quo_step _ _ _ hb]
theorem quo_two {s : ByteArray} {i : Nat} (h : i + 1 < s.size) (acc : List UInt8) (hb : (by_ s i == 39) = true) (hc : (by_ s (i + 1) == 39) = true) : quoF (dr s i) acc = (quoF (dr s (i + 1 + 1)) (acc ++ [39])).map fun r => (r.1, r.2 + 2) := by
  have e : by_ s (i + 1) = 39 := by simpa using hc
  rw [dr_cons (by omega : i < s.size), dr_cons h, quoF, if_pos hb, if_neg (by simp [bne, hc]), e]
theorem quo_out {s : ByteArray} {i : Nat} (h : i < s.size) (acc : List UInt8) (hb : (by_ s i == 39) = true) (hc : (decide (((i + 1 : Nat) : Int) < (s.size : Int)) && (by_ s (i + 1) == 39)) = false) : quoF (dr s i) acc = some (acc, 1) := by
  by_cases h1 : i + 1 < s.size
  · have hc : (by_ s (i + 1) == 39) = false := by
      rw [decide_eq_true (by omega), Bool.true_and] at hc
      exact hc
    rw [dr_cons h, dr_cons h1, quoF, if_pos hb, if_pos (by simp [bne, hc])]
  · rw [dr_cons h, dr_nil (by omega), quoF, if_pos hb]
end Go.Proofs.YtjjgckmdfblmgaaDoor
