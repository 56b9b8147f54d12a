/- Tokens written with spaces between them: plain law. No condition. -/
import Derived.Test.YtjjgckmdfblmgaaDoorXRK
import Derived.Test.YtjjgckmdfblmgaaDoorXG4
import Derived.Lib.ItoaNum
set_option maxRecDepth 100000
namespace Go.Proofs.YtjjgckmdfblmgaaDoor
open Go Go.Vc
abbrev dblQ (l : List UInt8) : List UInt8 := repL 39 [39, 39] l
def showT (x : T3) : List UInt8 := if x.k == 3 then Lib.itoa x.n else if x.k == 4 then 39 :: (dblQ x.t.data.toList ++ [39]) else x.t.data.toList
def writeL (ts : List T3) : List UInt8 := ts.flatMap fun x => 32 :: showT x
def sepL (r : List UInt8) : Prop := r = [] ∨ ∃ t, r = 32 :: t
def rt (x : T3) : Prop := ∃ b t, showT x = b :: t ∧ isSp b = false ∧ ∀ r, sepL r → stepL (showT x ++ r) = ((x, 0), (showT x).length)
def okT (x : T3) : Prop := rt x ∧ (x.k = 3 → x.t = ⟨#[]⟩ ∧ 0 ≤ x.n ∧ x.n ≤ 9223372036854775807) ∧ (x.k = 4 → x.t.size ≤ 64) ∧ x.t.size ≤ 2048
theorem write_sep (ts : List T3) : sepL (writeL ts) := by
  cases ts with
  | nil => exact .inl rfl
  | cons x ts => exact .inr ⟨_, rfl⟩
theorem write_lex : ∀ ts : List T3, (∀ x ∈ ts, rt x) → allA (writeL ts) = (ts, 0)
  | [], _ => rfl
  | x :: ts, h => by
    obtain ⟨b, t, hs, hb, hst⟩ := h x List.mem_cons_self
    have ih := write_lex ts fun y hy => h y (List.mem_cons_of_mem _ hy)
    have hst := hst (writeL ts) (write_sep ts)
    have e : writeL (x :: ts) = 32 :: (showT x ++ writeL ts) := rfl
    have hr0 : runN isSp (showT x ++ writeL ts) = 0 := by
      rw [hs]
      show runN isSp (b :: (t ++ writeL ts)) = 0
      unfold runN
      rw [if_neg (by rw [hb]; simp)]
    have hr1 : runN isSp (writeL (x :: ts)) = 1 := by
      rw [e, runN, if_pos (by rfl), hr0]
    rw [← allA_sp, hr1, e]
    show allA (showT x ++ writeL ts) = _
    rw [allA_step hr0 (by rw [hs]; simp), hst, if_neg (by simp), List.drop_left, ih]
    rfl
def lettersOK (b : UInt8) : Bool := (Lib.upperB (Lib.upperB b) == Lib.upperB b) && (Lib.upperB (Lib.lowerB b) == Lib.upperB b) && (Lib.lowerB (Lib.lowerB b) == Lib.lowerB b) && (wordB (Lib.upperB b) == wordB b) && (wordB (Lib.lowerB b) == wordB b) && (letB (Lib.upperB b) == letB b) && (letB (Lib.lowerB b) == letB b) && (!(wordB b) || !(isSp b)) && (!(digB b) || !(letB b)) && (!(letB b) || wordB b) && (!(digB b) || wordB b)
theorem letters_ok (b : UInt8) : lettersOK b = true := all_u8 (p := lettersOK) (by decide +kernel) b
theorem letters (b : UInt8) : Lib.upperB (Lib.upperB b) = Lib.upperB b ∧ Lib.upperB (Lib.lowerB b) = Lib.upperB b ∧ Lib.lowerB (Lib.lowerB b) = Lib.lowerB b ∧ wordB (Lib.upperB b) = wordB b ∧ wordB (Lib.lowerB b) = wordB b ∧ letB (Lib.upperB b) = letB b ∧ letB (Lib.lowerB b) = letB b ∧ (wordB b = true → isSp b = false) ∧ (digB b = true → letB b = false) ∧ (letB b = true → wordB b = true) ∧ (digB b = true → wordB b = true) := by
  have h := letters_ok b
  unfold lettersOK at h
  simp only [Bool.and_eq_true, beq_iff_eq, Bool.or_eq_true, Bool.not_eq_true'] at h
  obtain ⟨⟨⟨⟨⟨⟨⟨⟨⟨⟨h1, h2⟩, h3⟩, h4⟩, h5⟩, h6⟩, h7⟩, h8⟩, h9⟩, h10⟩, h11⟩ := h
  refine ⟨h1, h2, h3, h4, h5, h6, h7, fun h => ?_, fun h => ?_, fun h => ?_, fun h => ?_⟩
  · rcases h8 with h8 | h8
    · rw [h] at h8; cases h8
    · exact h8
  · rcases h9 with h9 | h9
    · rw [h] at h9; cases h9
    · exact h9
  · rcases h10 with h10 | h10
    · rw [h] at h10; cases h10
    · exact h10
  · rcases h11 with h11 | h11
    · rw [h] at h11; cases h11
    · exact h11
theorem up_up (w : List UInt8) : Lib.toUpperA (Lib.toUpperA w) = Lib.toUpperA w := by
  unfold Lib.toUpperA
  rw [List.map_map]
  exact List.map_congr_left fun b _ => (letters b).1
theorem up_low (w : List UInt8) : Lib.toUpperA (Lib.toLowerA w) = Lib.toUpperA w := by
  unfold Lib.toUpperA Lib.toLowerA
  rw [List.map_map]
  exact List.map_congr_left fun b _ => (letters b).2.1
theorem low_low (w : List UInt8) : Lib.toLowerA (Lib.toLowerA w) = Lib.toLowerA w := by
  unfold Lib.toLowerA
  rw [List.map_map]
  exact List.map_congr_left fun b _ => (letters b).2.2.1
theorem run_sep {p : UInt8 → Bool} (h32 : p 32 = false) {r : List UInt8} (hr : sepL r) : ∀ w : List UInt8, (∀ b ∈ w, p b = true) → runN p (w ++ r) = w.length
  | [], _ => by
    rcases hr with rfl | ⟨t, rfl⟩
    · rfl
    · show runN p (32 :: t) = 0
      rw [runN, if_neg (by rw [h32]; simp)]
  | b :: w, h => by
    show runN p (b :: (w ++ r)) = _
    rw [runN, if_pos (h b List.mem_cons_self), run_sep h32 hr w fun c hc => h c (List.mem_cons_of_mem _ hc)]
    rfl
theorem word_step {b : UInt8} {w r : List UInt8} (hl : letB b = true) (hw : ∀ c ∈ b :: w, wordB c = true) (hr : sepL r) : stepL ((b :: w) ++ r) = (wordL (b :: w), (b :: w).length) := by
  have h1 : runN wordB ((b :: w) ++ r) = (b :: w).length := run_sep (by rfl) hr _ hw
  have h2 : ((b :: w) ++ r).take (b :: w).length = b :: w := List.take_left
  rw [show (b :: w) ++ r = b :: (w ++ r) from rfl] at h1 h2 ⊢
  rw [stepL, if_pos hl, h1, h2]
theorem word_rt {x : T3} {b : UInt8} {w : List UInt8} (hs : showT x = b :: w) (hl : letB b = true) (hw : ∀ c ∈ b :: w, wordB c = true) (hx : wordL (b :: w) = (x, 0)) : rt x :=
  ⟨b, w, hs, (letters b).2.2.2.2.2.2.2.1 (hw b List.mem_cons_self), fun r hr => by rw [hs, word_step hl hw hr, hx]⟩
theorem map_word {f : UInt8 → UInt8} (hf : ∀ b, wordB (f b) = wordB b) {w : List UInt8} (h : ∀ b ∈ w, wordB b = true) : ∀ b ∈ w.map f, wordB b = true := fun b hb => by
  obtain ⟨c, hc, rfl⟩ := List.mem_map.1 hb
  rw [hf]
  exact h c hc
theorem word_ok {b : UInt8} {w : List UInt8} (hl : letB b = true) (hw : ∀ c ∈ b :: w, wordB c = true) (hsz : (b :: w).length ≤ 2048) (he : (wordL (b :: w)).2 = 0) : okT (wordL (b :: w)).1 := by
  by_cases hc : Lib.contains kwB.data.toList (padL (Lib.toUpperA (b :: w))) = true
  · have e : wordL (b :: w) = (⟨1, bl (Lib.toUpperA (b :: w)), 0⟩, 0) := by unfold wordL; rw [if_pos hc]
    rw [e]
    refine ⟨word_rt (b := Lib.upperB b) (w := Lib.toUpperA w) (by show (bl (Lib.toUpperA (b :: w))).data.toList = _; rw [bl_list]; rfl) (by rw [(letters b).2.2.2.2.2.1]; exact hl) (map_word (fun c => (letters c).2.2.2.1) hw) ?_, fun h => (by simp at h), fun h => (by simp at h), by show (bl _).size ≤ 2048; rw [bl_size, up_size]; exact hsz⟩
    show wordL (Lib.toUpperA (b :: w)) = _
    unfold wordL
    rw [up_up, if_pos hc]
  · by_cases h32 : 32 < ((b :: w).length : Int)
    · have e : wordL (b :: w) = (t3D, 30) := by unfold wordL; rw [if_neg hc, if_pos (decide_eq_true h32)]
      rw [e] at he
      cases he
    · have e : wordL (b :: w) = (⟨2, bl (Lib.toLowerA (b :: w)), 0⟩, 0) := by unfold wordL; rw [if_neg hc, if_neg (by rw [decide_eq_false h32]; simp)]
      rw [e]
      refine ⟨word_rt (b := Lib.lowerB b) (w := Lib.toLowerA w) (by show (bl (Lib.toLowerA (b :: w))).data.toList = _; rw [bl_list]; rfl) (by rw [(letters b).2.2.2.2.2.2.1]; exact hl) (map_word (fun c => (letters c).2.2.2.2.1) hw) ?_, fun h => (by simp at h), fun h => (by simp at h), by show (bl _).size ≤ 2048; rw [bl_size, low_size]; exact hsz⟩
      show wordL (Lib.toLowerA (b :: w)) = _
      unfold wordL
      rw [up_low, if_neg hc, low_size, if_neg (by rw [decide_eq_false h32]; simp), low_low]
theorem dig_of {d : Nat} (h : d < 10) : ((UInt8.ofNat (48 + d)).toNat : Int) = 48 + d := by
  rw [UInt8.toNat_ofNat_of_lt' (by show 48 + d < 256; omega)]
  omega
theorem dig_isd {d : Nat} (h : d < 10) : digB (UInt8.ofNat (48 + d)) = true := by
  unfold digB digitF
  rw [dig_of h]
  simp
  omega
theorem dec_dig (u : Nat) : ∀ b ∈ Lib.decDigits u, digB b = true := by
  induction u using Nat.strongRecOn with
  | _ u ih =>
    intro b hb
    rw [Lib.decDigits] at hb
    split at hb
    · rename_i h
      rw [List.mem_singleton] at hb
      subst hb
      exact dig_isd h
    · rename_i h
      rcases List.mem_append.1 hb with hb | hb
      · exact ih (u / 10) (by omega) b hb
      · rw [List.mem_singleton] at hb
        subst hb
        exact dig_isd (by omega)
theorem dec_ne (u : Nat) : ∃ b t, Lib.decDigits u = b :: t := by
  cases h : Lib.decDigits u with
  | cons b t => exact ⟨b, t, rfl⟩
  | nil =>
    rw [Lib.decDigits] at h
    split at h
    · cases h
    · simp at h
theorem num_step {u : Nat} {m : Int} (h : (u : Int) ≤ 9223372036854775807) (hm : m = (u / 10 : Nat)) : numStep (m, 0) (UInt8.ofNat (48 + u % 10)) = ((u : Int), 0) := by
  have hd : u % 10 < 10 := Nat.mod_lt _ (by decide)
  have e0 : ((UInt8.ofNat (48 + u % 10)).toNat : Int) = 48 + (u % 10 : Nat) := dig_of hd
  have e8 : IntKind.u8.wrap (((UInt8.ofNat (48 + u % 10)).toNat : Int) - 48) = ((u % 10 : Nat) : Int) := by rw [e0, w8]; omega
  have ei : IntKind.i64.wrap ((u % 10 : Nat) : Int) = ((u % 10 : Nat) : Int) := wrap64_eq (by omega) (by omega)
  have em : IntKind.i64.wrap (9223372036854775807 - ((u % 10 : Nat) : Int)) = 9223372036854775807 - ((u % 10 : Nat) : Int) := wrap64_eq (by omega) (by omega)
  have eq : IntKind.i64.wrap ((9223372036854775807 - ((u % 10 : Nat) : Int)).tdiv 10) = (9223372036854775807 - ((u % 10 : Nat) : Int)) / 10 := by
    rw [Int.tdiv_eq_ediv_of_nonneg (by omega)]
    exact wrap64_eq (by omega) (by omega)
  have e2 : IntKind.i64.wrap (IntKind.i64.wrap (10 * m) + ((u % 10 : Nat) : Int)) = u := by
    rw [wrap64_eq (n := 10 * m) (by omega) (by omega), wrap64_eq (by omega) (by omega)]
    omega
  unfold numStep
  rw [e8, ei, em, eq]
  simp only
  rw [e2, if_neg (by rw [decide_eq_false (by omega)]; simp)]
theorem dec_fold (u : Nat) (h : (u : Int) ≤ 9223372036854775807) : (Lib.decDigits u).foldl numStep (0, 0) = ((u : Int), 0) := by
  induction u using Nat.strongRecOn with
  | _ u ih =>
    rw [Lib.decDigits]
    split
    · rename_i h10
      have := num_step (u := u) (m := 0) h (by rw [Nat.div_eq_of_lt h10]; rfl)
      rw [Nat.mod_eq_of_lt h10] at this
      exact this
    · rename_i h10
      rw [List.foldl_append, ih (u / 10) (by omega) (by omega)]
      exact num_step h rfl
theorem num_rt {m : Int} (h0 : 0 ≤ m) (h1 : m ≤ 9223372036854775807) : rt ⟨3, ⟨#[]⟩, m⟩ := by
  obtain ⟨u, rfl⟩ : ∃ u : Nat, m = u := ⟨m.toNat, by omega⟩
  have hs : showT ⟨3, ⟨#[]⟩, (u : Int)⟩ = Lib.decDigits u := by
    show Lib.itoa (u : Int) = _
    unfold Lib.itoa
    rw [if_neg (by omega)]
    rfl
  obtain ⟨b, t, hb⟩ := dec_ne u
  have hd := dec_dig u
  refine ⟨b, t, hs.trans hb, ?_, fun r hr => ?_⟩
  · have := hd b (by rw [hb]; exact List.mem_cons_self)
    exact (letters b).2.2.2.2.2.2.2.1 ((letters b).2.2.2.2.2.2.2.2.2.2 this)
  · rw [hs]
    have hdb : digB b = true := hd b (by rw [hb]; exact List.mem_cons_self)
    have hlb : letB b = false := (letters b).2.2.2.2.2.2.2.2.1 hdb
    have hrun : runN digB (Lib.decDigits u ++ r) = (Lib.decDigits u).length := run_sep (by rfl) hr _ hd
    have hst : stepL (Lib.decDigits u ++ r) = (numL (Lib.decDigits u ++ r), runN digB (Lib.decDigits u ++ r)) := by
      rw [hb]
      show stepL (b :: (t ++ r)) = _
      rw [stepL, if_neg (by rw [hlb]; simp), if_pos hdb]
      rfl
    have hh : headP letB r = false := by
      rcases hr with rfl | ⟨t, rfl⟩ <;> rfl
    have hn : numL (Lib.decDigits u ++ r) = (⟨3, ⟨#[]⟩, (u : Int)⟩, 0) := by
      unfold numL numE
      rw [hrun, List.drop_left, List.take_left, hh, dec_fold u h1]
      rfl
    rw [hst, hn, hrun]
theorem num_ok' {b : UInt8} {l : List UInt8} (he : (numL (b :: l)).2 = 0) : okT (numL (b :: l)).1 := by
  have hl : headP letB ((b :: l).drop (runN digB (b :: l))) = false := by
    cases h : headP letB ((b :: l).drop (runN digB (b :: l)))
    · rfl
    · rw [num_let h] at he
      cases he
  have h := num_agree ((b :: l).take (runN digB (b :: l))) 0 (run_all digB (b :: l)) (Int.le_refl _) (by decide)
  have hr := num_ref hl
  unfold refNum at hr
  cases hg : refG ((b :: l).take (runN digB (b :: l))) 0 with
  | none =>
    rw [hg] at hr
    rw [hr] at he
    cases he
  | some v =>
    rw [hg] at hr
    obtain ⟨h1, h2, h3⟩ := h.2 v hg
    have e : numL (b :: l) = (⟨3, ⟨#[]⟩, v⟩, 0) := by
      rw [hr]
      simp only [if_true]
      rw [wrap64_eq (by omega) (by omega)]
    rw [e]
    exact ⟨num_rt h2 h3, fun _ => ⟨rfl, h2, h3⟩, fun h => (by simp at h), Nat.zero_le _⟩
theorem dbl_text {r : List UInt8} (hr : sepL r) : ∀ a c : List UInt8, textL (dblQ a ++ 39 :: r) c = (endT (c ++ a), (dblQ a).length + 1)
  | [], c => by
    show textL (39 :: r) c = _
    rw [List.append_nil]
    rcases hr with rfl | ⟨t, rfl⟩ <;> rfl
  | x :: a, c => by
    by_cases hx : (x == 39) = true
    · have e : x = 39 := by simpa using hx
      subst e
      have ih := dbl_text hr a (c ++ [39])
      show textL (39 :: 39 :: (dblQ a ++ 39 :: r)) c = _
      have h2 : (dblQ (39 :: a)).length = (dblQ a).length + 2 := by rw [dblQ, repL_cons, if_pos (show ((39 : UInt8) == 39) = true by decide), List.length_append]; exact Nat.add_comm 2 _
      rw [textL, if_pos (show ((39 : UInt8) == 39) = true by decide), if_neg (by decide), ih, h2]
      simp
    · have hx : (x == 39) = false := by simpa using hx
      have e : dblQ (x :: a) = x :: dblQ a := by rw [dblQ, repL_cons, if_neg (by rw [hx]; simp)]; rfl
      rw [e]
      show textL (x :: (dblQ a ++ 39 :: r)) c = _
      rw [textL_step _ _ _ hx, dbl_text hr a (c ++ [x])]
      simp
theorem text_ok {l : List UInt8} (he : (textL l []).1.2 = 0) : okT (textL l []).1.1 := by
  obtain ⟨q1, q2⟩ := quo_text l []
  cases hq : quoF l [] with
  | none => rw [q1 hq] at he; cases he
  | some r =>
    have e := q2 r hq
    by_cases h64 : 64 < (r.1.length : Int)
    · have : endT r.1 = (t3D, 30) := by unfold endT; rw [if_pos (decide_eq_true h64)]
      rw [e, this] at he
      cases he
    · have e2 : endT r.1 = (⟨4, bl r.1, 0⟩, 0) := by unfold endT; rw [if_neg (by rw [decide_eq_false h64]; simp)]
      rw [e, e2]
      have hs : showT ⟨4, bl r.1, 0⟩ = 39 :: (dblQ r.1 ++ [39]) := by
        show 39 :: (dblQ (bl r.1).data.toList ++ [39]) = _
        rw [bl_list]
      refine ⟨⟨39, _, hs, by rfl, fun t ht => ?_⟩, fun h => (by simp at h), fun _ => by show (bl r.1).size ≤ 64; rw [bl_size]; omega, by show (bl r.1).size ≤ 2048; rw [bl_size]; omega⟩
      rw [hs]
      have h3 := dbl_text ht r.1 []
      have e3 : (39 :: (dblQ r.1 ++ [39])) ++ t = 39 :: (dblQ r.1 ++ 39 :: t) := by simp
      rw [e3, stepL, if_neg (by decide +kernel), if_neg (by decide +kernel), if_pos (show ((39 : UInt8) == 39) = true by decide), h3, List.nil_append, e2]
      simp
theorem sign_ok {b : UInt8} {l : List UInt8} (hl : letB b = false) (hd : digB b = false) (hq : (b == 39) = false) (hsp : isSp b = false) (he : (signL (b :: l)).1.2 = 0) : okT (signL (b :: l)).1.1 := by
  have hst : ∀ t, stepL (b :: t) = signL (b :: t) := fun t => by
    rw [stepL, if_neg (by rw [hl]; simp), if_neg (by rw [hd]; simp), if_neg (by rw [hq]; simp)]
  by_cases h2 : tryL (b :: l) 2 = true
  · cases l with
    | nil => unfold tryL at h2; simp at h2
    | cons c l =>
      have e : signL (b :: c :: l) = ((⟨5, bl [b, c], 0⟩, 0), 2) := by unfold signL; rw [if_pos h2]; rfl
      rw [e]
      have ht : ∀ t, tryL (b :: c :: t) 2 = tryL [b, c] 2 := fun t => by unfold tryL; simp
      refine ⟨⟨b, [c], rfl, hsp, fun r _ => ?_⟩, fun h => (by simp at h), fun h => (by simp at h), by show (bl [b, c]).size ≤ 2048; rw [bl_size]; simp⟩
      show stepL (b :: c :: r) = _
      rw [hst]
      unfold signL
      rw [if_pos (by rw [ht, ← ht l]; exact h2)]
      rfl
  · have h2 : tryL (b :: l) 2 = false := by simpa using h2
    by_cases h1 : tryL (b :: l) 1 = true
    · have e : signL (b :: l) = ((⟨5, bl [b], 0⟩, 0), 1) := by unfold signL; rw [if_neg (by rw [h2]; simp), if_pos h1]; rfl
      rw [e]
      have ht : ∀ t, tryL (b :: t) 1 = tryL [b] 1 := fun t => by unfold tryL; simp
      refine ⟨⟨b, [], rfl, hsp, fun r hr => ?_⟩, fun h => (by simp at h), fun h => (by simp at h), by show (bl [b]).size ≤ 2048; rw [bl_size]; simp⟩
      show stepL (b :: r) = _
      have h3 : tryL (b :: r) 2 = false := by
        rcases hr with rfl | ⟨t, rfl⟩
        · unfold tryL; simp
        · have : tryL (b :: 32 :: t) 2 = tryL [b, 32] 2 := by unfold tryL; simp
          rw [this, two_is (not_32 hsp)]
          simp
      rw [hst]
      unfold signL
      rw [if_neg (by rw [h3]; simp), if_pos (by rw [ht, ← ht l]; exact h1)]
      rfl
    · have e : signL (b :: l) = ((t3D, 30), 0) := by unfold signL; rw [if_neg (by rw [h2]; simp), if_neg h1]
      rw [e] at he
      cases he
theorem step_ok {b : UInt8} {l : List UInt8} (hsp : isSp b = false) (hsz : (b :: l).length ≤ 2048) (he : (stepL (b :: l)).1.2 = 0) : okT (stepL (b :: l)).1.1 := by
  by_cases h1 : letB b = true
  · have hb : wordB b = true := (letters b).2.2.2.2.2.2.2.2.2.1 h1
    have hrun : runN wordB (b :: l) = runN wordB l + 1 := by rw [runN, if_pos hb]
    have hst : stepL (b :: l) = (wordL (b :: l.take (runN wordB l)), runN wordB (b :: l)) := by
      rw [stepL, if_pos h1, hrun, List.take_succ_cons]
    rw [hst] at he ⊢
    refine word_ok h1 (fun c hc => run_all wordB (b :: l) c (by rw [hrun, List.take_succ_cons]; exact hc)) ?_ he
    simp only [List.length_cons, List.length_take] at hsz ⊢
    omega
  have h1 : letB b = false := by simpa using h1
  by_cases h2 : digB b = true
  · have hst : stepL (b :: l) = (numL (b :: l), runN digB (b :: l)) := by rw [stepL, if_neg (by rw [h1]; simp), if_pos h2]
    rw [hst] at he ⊢
    exact num_ok' he
  have h2 : digB b = false := by simpa using h2
  by_cases h3 : (b == 39) = true
  · have hst : stepL (b :: l) = ((textL l []).1, (textL l []).2 + 1) := by rw [stepL, if_neg (by rw [h1]; simp), if_neg (by rw [h2]; simp), if_pos h3]
    rw [hst] at he ⊢
    exact text_ok he
  have h3 : (b == 39) = false := by simpa using h3
  have hst : stepL (b :: l) = signL (b :: l) := by rw [stepL, if_neg (by rw [h1]; simp), if_neg (by rw [h2]; simp), if_neg (by rw [h3]; simp)]
  rw [hst] at he ⊢
  exact sign_ok h1 h2 h3 hsp he
theorem sp_head : ∀ (l : List UInt8) {b : UInt8} {r : List UInt8}, l.drop (runN isSp l) = b :: r → isSp b = false
  | [], _, _, h => by simp [runN] at h
  | c :: l, b, r, h => by
    by_cases hc : isSp c = true
    · rw [runN, if_pos hc, List.drop_succ_cons] at h
      exact sp_head l h
    · rw [runN, if_neg hc, List.drop_zero] at h
      injection h with h1 h2
      subst h1
      simpa using hc
theorem allG_ok : ∀ (f : Nat) (l : List UInt8), l.length ≤ 2048 → ∀ x ∈ (allG f l).1, okT x
  | 0, _, _, x, h => by cases h
  | f + 1, l, hl, x, h => by
    unfold allG at h
    cases hd : l.drop (runN isSp l) with
    | nil => rw [hd] at h; cases h
    | cons b r =>
      rw [hd] at h
      dsimp only at h
      have hlen : (b :: r).length ≤ 2048 := by rw [← hd, List.length_drop]; omega
      split at h
      · cases h
      · rename_i he
        split at h
        · cases h
        · rcases List.mem_cons.1 h with rfl | h
          · exact step_ok (sp_head l hd) hlen (by simpa using he)
          · exact allG_ok f _ (by rw [List.length_drop]; omega) x h
theorem lexL_ok (l : List UInt8) : ∀ x ∈ (lexL l).1, okT x := by
  unfold lexL
  split
  · intro x h; cases h
  · rename_i h
    exact allG_ok _ l (by simp at h; omega)
theorem joins_law (l : List UInt8) (h : (writeL (lexL l).1).length ≤ 2048) : lexL (writeL (lexL l).1) = ((lexL l).1, 0) := by
  have := write_lex (lexL l).1 fun x hx => (lexL_ok l x hx).1
  have h2 : ∀ m : List UInt8, m.length ≤ 2048 → lexL m = allA m := fun m hm => by
    unfold lexL
    rw [if_neg (by simp; omega)]
    rfl
  rw [h2 _ h]
  exact this
theorem joins_big {l : List UInt8} (h : 2048 < l.length) : lexL l = ([], 30) := by
  unfold lexL
  rw [if_pos (by simp; omega)]
theorem lexL_err {l : List UInt8} (h : (lexL l).2 ≠ 0) : (lexL l).1 = [] := by
  unfold lexL at h ⊢
  split
  · rfl
  · rename_i h1
    rw [if_neg h1] at h
    exact allG_err _ _ h
theorem nDig_le : ∀ (k u : Nat), u < 10 ^ (k + 1) → Lib.nDigits u ≤ k + 1
  | 0, u, h => by rw [Lib.nDigits_small (by simpa using h)]; exact Nat.le_refl _
  | k + 1, u, h => by
    by_cases h10 : u < 10
    · rw [Lib.nDigits_small h10]; omega
    · rw [Lib.nDigits_big h10]
      have := nDig_le k (u / 10) (by rw [Nat.pow_succ] at h; omega)
      omega
theorem itoa_len {n : Int} (h0 : 0 ≤ n) (h1 : n ≤ 9223372036854775807) : (Lib.itoa n).length ≤ 19 := by
  unfold Lib.itoa
  rw [if_neg (by omega), Lib.decDigits_length]
  exact nDig_le 18 _ (by have : (10 : Nat) ^ (18 + 1) = 10000000000000000000 := by decide
                         omega)
theorem show_len {x : T3} (h : okT x) : (showT x).length ≤ 2048 := by
  obtain ⟨_, h3, h4, h5⟩ := h
  unfold showT
  split
  · rename_i hk
    obtain ⟨_, a, b⟩ := h3 (by simpa using hk)
    have := itoa_len a b
    omega
  · split
    · rename_i hk
      have := h4 (by simpa using hk)
      have h6 : (dblQ x.t.data.toList).length ≤ _ := repL_len 39 (new := [39, 39]) (by decide) x.t.data.toList
      rw [len_bytes] at h6
      simp only [List.length_cons, List.length_append, List.length_nil]
      omega
    · rw [len_bytes]
      exact h5
theorem write_len : ∀ ts : List T3, (∀ x ∈ ts, okT x) → (writeL ts).length ≤ 2049 * ts.length
  | [], _ => Nat.zero_le _
  | x :: ts, h => by
    have ih := write_len ts fun y hy => h y (List.mem_cons_of_mem _ hy)
    have := show_len (h x List.mem_cons_self)
    show (32 :: (showT x ++ writeL ts)).length ≤ _
    simp only [List.length_cons, List.length_append]
    omega
theorem write_next {ts : List T3} {i : Nat} (h : i < ts.length) : writeL (ts.take (i + 1)) = writeL (ts.take i) ++ 32 :: showT (ts.getD i t3D) := by
  unfold writeL
  rw [List.take_add_one, List.flatMap_append, t3_get h]
  simp
end Go.Proofs.YtjjgckmdfblmgaaDoor
