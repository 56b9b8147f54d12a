/- The document's numbers. No condition. -/
import Derived.Test.YtbedigkncjbggaaGreatDoorXQ3
import Derived.Test.YtbedigkncjbggaaGreatDoorXG4
import Derived.Lib.ItoaNum
import Derived.Test.YtbedigkncjbggaaGreatDoorXQ1
import Derived.Test.YtbedigkncjbggaaGreatDoorXG7
import Derived.Test.YtbedigkncjbggaaGreatDoorXQ2
import Derived.Shelf.Small.Wraps
import Derived.Shelf.LaysM
import Derived.Shelf.Strconv.Itoa4
import Derived.Shelf.Strings.Replace
import Derived.Lib.AppendIntMem
set_option maxRecDepth 100000
namespace Go.Proofs.YtbedigkncjbggaaGreatDoor
open Go Go.Vc
theorem w8 (x : Int) : IntKind.u8.wrap x = x % 256 := by
 unfold IntKind.wrap
 simp [IntKind.bits, IntKind.signed]
theorem w64u (x : Int) : IntKind.u64.wrap x = x % 18446744073709551616 := by
 unfold IntKind.wrap
 simp [IntKind.bits, IntKind.signed]
def overF (u d : Int) : Bool := decide (922337203685477580 < u) ||((u == 922337203685477580) && decide (7 < d))
def dgU (b : UInt8) : Int := IntKind.u64.wrap (IntKind.u8.wrap ((b.toNat : Int) - 48))
def refG : List UInt8 → Int → Option Int
 | [], u => some u
 | x :: l, u => if overF u (dgU x) then none else refG l (IntKind.u64.wrap (IntKind.u64.wrap (10 * u) + dgU x))
def refNum (l : List UInt8) : Int × Bool := match refG l 0 with | none => (0, false) | some u => (IntKind.i64.wrap u, true)
theorem ZhW {b : UInt8} (h : digB b = true) : 48 ≤ (b.toNat : Int) ∧ (b.toNat : Int) ≤ 57 := by
 unfold digB digitF at h
 simpa using h
theorem Zem : ∀ (l : List UInt8) (m : Int), (l.foldl numStep (m, 35)).2 = 35
 | [], _ => rfl
 | x :: l, m => by
   rw [List.foldl_cons]
   have : (numStep (m, 35) x).2 = 35 := by unfold numStep; split <;> rfl
   rw [show numStep (m, 35) x = ((numStep (m, 35) x).1, 35) from Prod.ext rfl this]
   exact Zem l _
theorem Z9n : ∀ (l : List UInt8) (u : Int), (∀ b ∈ l, digB b = true) → 0 ≤ u → u ≤ 9223372036854775807 →
   (refG l u = none → (l.foldl numStep (u, 0)).2 = 35) ∧ (∀ v, refG l u = some v → l.foldl numStep (u, 0) = (v, 0) ∧ 0 ≤ v ∧ v ≤ 9223372036854775807)
 | [], u, _, h0, h1 => ⟨fun h => (by cases h), fun v h => (by injection h with h; subst h; exact ⟨rfl, h0, h1⟩)⟩
 | x :: l, u, hd, h0, h1 => by
   obtain ⟨d0, d1⟩ := ZhW (hd x List.mem_cons_self)
   have e8 : IntKind.u8.wrap ((x.toNat : Int) - 48) = (x.toNat : Int) - 48 := by rw [w8]; omega
   have eu : dgU x = (x.toNat : Int) - 48 := by unfold dgU; rw [e8, w64u]; omega
   have ei : IntKind.i64.wrap ((x.toNat : Int) - 48) = (x.toNat : Int) - 48 := Z1r qM qM
   have em : IntKind.i64.wrap (9223372036854775807 - ((x.toNat : Int) - 48)) = 9223372036854775807 - ((x.toNat : Int) - 48) := Z1r qM qM
   have eq : IntKind.i64.wrap ((9223372036854775807 - ((x.toNat : Int) - 48)).tdiv 10) = (9223372036854775807 - ((x.toNat : Int) - 48)) / 10 := by
     rw [Int.tdiv_eq_ediv_of_nonneg qM]
     exact Z1r qM qM
   have es : numStep (u, 0) x = (IntKind.i64.wrap (IntKind.i64.wrap (10 * u) + ((x.toNat : Int) - 48)), if decide ((9223372036854775807 - ((x.toNat : Int) - 48)) / 10 < u) then 35 else 0) := by
     unfold numStep
     rw [e8, ei, em, eq]
   rw [List.foldl_cons, refG, eu, es]
   by_cases ho : overF u ((x.toNat : Int) - 48) = true
   · rw [if_pos ho]
     have : (9223372036854775807 - ((x.toNat : Int) - 48)) / 10 < u := by
       unfold overF at ho
       simp only [Bool.or_eq_true, decide_eq_true_eq, Bool.and_eq_true, beq_iff_eq] at ho
       omega
     rw [if_pos (decide_eq_true this)]
     exact ⟨fun _ => Zem l _, fun v h => (by cases h)⟩
   · rw [if_neg ho]
     have hn : ¬ (9223372036854775807 - ((x.toNat : Int) - 48)) / 10 < u := by
       unfold overF at ho
       simp only [Bool.or_eq_true, decide_eq_true_eq, Bool.and_eq_true, beq_iff_eq, not_or, not_and] at ho
       omega
     rw [if_neg (by rw [decide_eq_false hn]; simp)]
     have e1 : IntKind.u64.wrap (IntKind.u64.wrap (10 * u) + ((x.toNat : Int) - 48)) = 10 * u + ((x.toNat : Int) - 48) := by
       rw [w64u, w64u]; omega
     have e2 : IntKind.i64.wrap (IntKind.i64.wrap (10 * u) + ((x.toNat : Int) - 48)) = 10 * u + ((x.toNat : Int) - 48) := by
       rw [Z1r (n := 10 * u) qM qM]
       exact Z1r qM qM
     rw [e1, e2]
     exact Z9n l _ (fun b hb => hd b (List.mem_cons_of_mem _ hb)) qM qM
theorem Zij {l : List UInt8} (hl : headP letB (l.drop (runN digB l)) = false) :
   numL l = if (refNum (l.take (runN digB l))).2 then (⟨3, ⟨#[]⟩, (refNum (l.take (runN digB l))).1⟩, 0) else (t3D, 35) := by
 have h := Z9n (l.take (runN digB l)) 0 (Z8j digB l) (Int.le_refl _) qD
 have e : numE l = ((l.take (runN digB l)).foldl numStep (0, 0)).2 := by unfold numE; rw [hl]; rfl
 unfold numL refNum
 rw [e]
 cases hr : refG (l.take (runN digB l)) 0 with
 | none =>
   rw [h.1 hr]
   rfl
 | some v =>
   obtain ⟨h1, h2, h3⟩ := h.2 v hr
   rw [h1]
   simp only [bne_self_eq_false, Bool.false_eq_true, if_false, if_true]
   rw [Z1r qM qM]
theorem Zi6 {l : List UInt8} (hl : headP letB (l.drop (runN digB l)) = true) : numL l = (t3D, 30) := by
 have e : numE l = 30 := by unfold numE; rw [hl]; rfl
 unfold numL
 rw [e]
 rfl
end Go.Proofs.YtbedigkncjbggaaGreatDoor
set_option maxRecDepth 20000
namespace Go.Proofs.YtbedigkncjbggaaGreatDoor
open Go Go.Vc
end Go.Proofs.YtbedigkncjbggaaGreatDoor
set_option maxRecDepth 20000
namespace Go.Proofs.YtbedigkncjbggaaGreatDoor
open Go Go.Vc
end Go.Proofs.YtbedigkncjbggaaGreatDoor
set_option maxRecDepth 20000
namespace Go.Proofs.YtbedigkncjbggaaGreatDoor
open Go Go.Vc
theorem Zj9 {b : UInt8} (h : isSp b = false) : b ≠ 32 := fun e => by subst e; cases h
end Go.Proofs.YtbedigkncjbggaaGreatDoor
set_option maxRecDepth 100000
namespace Go.Proofs.YtbedigkncjbggaaGreatDoor
open Go Go.Vc
abbrev dblQ (l : List UInt8) : List UInt8 := repL 39 [39, 39] l
def showT (x : T3) : List UInt8 := if x.k == 3 then Lib.itoa x.n else if x.k == 4 then 39 :: (dblQ x.t.data.toList ++ [39]) else x.t.data.toList
def writeL (ts : List T3) : List UInt8 := ts.flatMap fun x => 32 :: showT x
def sepL (r : List UInt8) : Prop := r = [] ∨ ∃ t, r = 32 :: t
def rt (x : T3) : Prop := ∃ b t, showT x = b :: t ∧ isSp b = false ∧ ∀ r, sepL r → stepL (showT x ++ r) = ((x, 0), (showT x).length)
def tokO (x : T3) : Prop := rt x ∧ (x.k = 3 → x.t = ⟨#[]⟩ ∧ 0 ≤ x.n ∧ x.n ≤ 9223372036854775807) ∧ (x.k = 4 → x.t.size ≤ 64) ∧ x.t.size ≤ 2048
theorem Zft (ts : List T3) : sepL (writeL ts) := by
 cases ts with
 | nil => exact .inl rfl
 | cons x ts => exact .inr ⟨_, rfl⟩
theorem Zc9 : ∀ ts : List T3, (∀ x ∈ ts, rt x) → allA (writeL ts) = (ts, 0)
 | [], _ => rfl
 | x :: ts, h => by
   obtain ⟨b, t, hs, hb, hst⟩ := h x List.mem_cons_self
   have ih := Zc9 ts fun y hy => h y (List.mem_cons_of_mem _ hy)
   have hst := hst (writeL ts) (Zft ts)
   have e : writeL (x :: ts) = 32 :: (showT x ++ writeL ts) := rfl
   have hr0 : runN isSp (showT x ++ writeL ts) = 0 := by
     rw [hs]
     show runN isSp (b :: (t ++ writeL ts)) = 0
     unfold runN
     rw [if_neg (by rw [hb]; simp)]
   have hr1 : runN isSp (writeL (x :: ts)) = 1 := by
     rw [e, runN, if_pos (by rfl), hr0]
   rw [← Z3g, hr1, e]
   show allA (showT x ++ writeL ts) = _
   rw [Z4V hr0 (by rw [hs]; simp), hst, if_neg (by simp), List.drop_left, ih]
   rfl
def lettersOK (b : UInt8) : Bool := (Lib.upperB (Lib.upperB b) == Lib.upperB b) && (Lib.upperB (Lib.lowerB b) == Lib.upperB b) && (Lib.lowerB (Lib.lowerB b) == Lib.lowerB b) && (wordB (Lib.upperB b) == wordB b) && (wordB (Lib.lowerB b) == wordB b) && (letB (Lib.upperB b) == letB b) && (letB (Lib.lowerB b) == letB b) && (!(wordB b) || !(isSp b)) && (!(digB b) || !(letB b)) && (!(letB b) || wordB b) && (!(digB b) || wordB b)
theorem ZeT (b : UInt8) : lettersOK b = true := ZaR (p := lettersOK) (by decide +kernel) b
theorem letters (b : UInt8) : Lib.upperB (Lib.upperB b) = Lib.upperB b ∧ Lib.upperB (Lib.lowerB b) = Lib.upperB b ∧ Lib.lowerB (Lib.lowerB b) = Lib.lowerB b ∧ wordB (Lib.upperB b) = wordB b ∧ wordB (Lib.lowerB b) = wordB b ∧ letB (Lib.upperB b) = letB b ∧ letB (Lib.lowerB b) = letB b ∧ (wordB b = true → isSp b = false) ∧ (digB b = true → letB b = false) ∧ (letB b = true → wordB b = true) ∧ (digB b = true → wordB b = true) := by
 have h := ZeT b
 unfold lettersOK at h
 simp only [Bool.and_eq_true, beq_iff_eq, Bool.or_eq_true, Bool.not_eq_true'] at h
 obtain ⟨⟨⟨⟨⟨⟨⟨⟨⟨⟨h1, h2⟩, h3⟩, h4⟩, h5⟩, h6⟩, h7⟩, h8⟩, h9⟩, h10⟩, h11⟩ := h
 refine ⟨h1, h2, h3, h4, h5, h6, h7, fun h => ?_, fun h => ?_, fun h => ?_, fun h => ?_⟩
 · rcases h8 with h8 | h8
   · rw [h] at h8; cases h8
   · exact h8
 · rcases h9 with h9 | h9
   · rw [h] at h9; cases h9
   · exact h9
 · rcases h10 with h10 | h10
   · rw [h] at h10; cases h10
   · exact h10
 · rcases h11 with h11 | h11
   · rw [h] at h11; cases h11
   · exact h11
theorem ZjS (w : List UInt8) : Lib.toUpperA (Lib.toUpperA w) = Lib.toUpperA w := by
 unfold Lib.toUpperA
 rw [List.map_map]
 exact List.map_congr_left fun b _ => (letters b).1
theorem Zjm (w : List UInt8) : Lib.toUpperA (Lib.toLowerA w) = Lib.toUpperA w := by
 unfold Lib.toUpperA Lib.toLowerA
 rw [List.map_map]
 exact List.map_congr_left fun b _ => (letters b).2.1
theorem Zig (w : List UInt8) : Lib.toLowerA (Lib.toLowerA w) = Lib.toLowerA w := by
 unfold Lib.toLowerA
 rw [List.map_map]
 exact List.map_congr_left fun b _ => (letters b).2.2.1
theorem Zbi {p : UInt8 → Bool} (h32 : p 32 = false) {r : List UInt8} (hr : sepL r) : ∀ w : List UInt8, (∀ b ∈ w, p b = true) → runN p (w ++ r) = w.length
 | [], _ => by
   rcases hr with rfl | ⟨t, rfl⟩
   · rfl
   · show runN p (32 :: t) = 0
     rw [runN, if_neg (by rw [h32]; simp)]
 | b :: w, h => by
   show runN p (b :: (w ++ r)) = _
   rw [runN, if_pos (h b List.mem_cons_self), Zbi h32 hr w fun c hc => h c (List.mem_cons_of_mem _ hc)]
   rfl
theorem Zgn {b : UInt8} {w r : List UInt8} (hl : letB b = true) (hw : ∀ c ∈ b :: w, wordB c = true) (hr : sepL r) : stepL ((b :: w) ++ r) = (wordL (b :: w), (b :: w).length) := by
 have h1 : runN wordB ((b :: w) ++ r) = (b :: w).length := Zbi (by rfl) hr _ hw
 have h2 : ((b :: w) ++ r).take (b :: w).length = b :: w := List.take_left
 rw [show (b :: w) ++ r = b :: (w ++ r) from rfl] at h1 h2 ⊢
 rw [stepL, if_pos hl, h1, h2]
theorem Zew {x : T3} {b : UInt8} {w : List UInt8} (hs : showT x = b :: w) (hl : letB b = true) (hw : ∀ c ∈ b :: w, wordB c = true) (hx : wordL (b :: w) = (x, 0)) : rt x :=
 ⟨b, w, hs, (letters b).2.2.2.2.2.2.2.1 (hw b List.mem_cons_self), fun r hr => by rw [hs, Zgn hl hw hr, hx]⟩
theorem Zdd {f : UInt8 → UInt8} (hf : ∀ b, wordB (f b) = wordB b) {w : List UInt8} (h : ∀ b ∈ w, wordB b = true) : ∀ b ∈ w.map f, wordB b = true := fun b hb => by
 obtain ⟨c, hc, rfl⟩ := List.mem_map.1 hb
 rw [hf]
 exact h c hc
theorem ZiR {b : UInt8} {w : List UInt8} (hl : letB b = true) (hw : ∀ c ∈ b :: w, wordB c = true) (hsz : (b :: w).length ≤ 2048) (he : (wordL (b :: w)).2 = 0) : tokO (wordL (b :: w)).1 := by
 by_cases hc : Lib.contains kwB.data.toList (padL (Lib.toUpperA (b :: w))) = true
 · have e : wordL (b :: w) = (⟨1, bl (Lib.toUpperA (b :: w)), 0⟩, 0) := by unfold wordL; rw [if_pos hc]
   rw [e]
   refine ⟨Zew (b := Lib.upperB b) (w := Lib.toUpperA w) (by show (bl (Lib.toUpperA (b :: w))).data.toList = _; rw [Z41]; rfl) (by rw [(letters b).2.2.2.2.2.1]; exact hl) (Zdd (fun c => (letters c).2.2.2.1) hw) ?_, fun h => (by simp at h), fun h => (by simp at h), by show (bl _).size ≤ 2048; rw [Z3z, Zba]; exact hsz⟩
   show wordL (Lib.toUpperA (b :: w)) = _
   unfold wordL
   rw [ZjS, if_pos hc]
 · by_cases h32 : 32 < ((b :: w).length : Int)
   · have e : wordL (b :: w) = (t3D, 30) := by unfold wordL; rw [if_neg hc, if_pos (decide_eq_true h32)]
     rw [e] at he
     cases he
   · have e : wordL (b :: w) = (⟨2, bl (Lib.toLowerA (b :: w)), 0⟩, 0) := by unfold wordL; rw [if_neg hc, if_neg (by rw [decide_eq_false h32]; simp)]
     rw [e]
     refine ⟨Zew (b := Lib.lowerB b) (w := Lib.toLowerA w) (by show (bl (Lib.toLowerA (b :: w))).data.toList = _; rw [Z41]; rfl) (by rw [(letters b).2.2.2.2.2.2.1]; exact hl) (Zdd (fun c => (letters c).2.2.2.2.1) hw) ?_, fun h => (by simp at h), fun h => (by simp at h), by show (bl _).size ≤ 2048; rw [Z3z, Zd9]; exact hsz⟩
     show wordL (Lib.toLowerA (b :: w)) = _
     unfold wordL
     rw [Zjm, if_neg hc, Zd9, if_neg (by rw [decide_eq_false h32]; simp), Zig]
theorem Zgj {d : Nat} (h : d < 10) : ((UInt8.ofNat (48 + d)).toNat : Int) = 48 + d := by
 rw [UInt8.toNat_ofNat_of_lt' (by show 48 + d < 256; omega)]
 omega
theorem Ze9 {d : Nat} (h : d < 10) : digB (UInt8.ofNat (48 + d)) = true := by
 unfold digB digitF
 rw [Zgj h]
 simp
 omega
theorem Zif (u : Nat) : ∀ b ∈ Lib.decDigits u, digB b = true := by
 induction u using Nat.strongRecOn with
 | _ u ih =>
   intro b hb
   rw [Lib.decDigits] at hb
   split at hb
   · rename_i h
     rw [List.mem_singleton] at hb
     subst hb
     exact Ze9 h
   · rename_i h
     rcases List.mem_append.1 hb with hb | hb
     · exact ih (u / 10) qM b hb
     · rw [List.mem_singleton] at hb
       subst hb
       exact Ze9 qM
theorem Zjr (u : Nat) : ∃ b t, Lib.decDigits u = b :: t := by
 cases h : Lib.decDigits u with
 | cons b t => exact ⟨b, t, rfl⟩
 | nil =>
   rw [Lib.decDigits] at h
   split at h
   · cases h
   · simp at h
theorem Zcz {u : Nat} {m : Int} (h : (u : Int) ≤ 9223372036854775807) (hm : m = (u / 10 : Nat)) : numStep (m, 0) (UInt8.ofNat (48 + u % 10)) = ((u : Int), 0) := by
 have hd : u % 10 < 10 := Nat.mod_lt _ qD
 have e0 : ((UInt8.ofNat (48 + u % 10)).toNat : Int) = 48 + (u % 10 : Nat) := Zgj hd
 have e8 : IntKind.u8.wrap (((UInt8.ofNat (48 + u % 10)).toNat : Int) - 48) = ((u % 10 : Nat) : Int) := by rw [e0, w8]; omega
 have ei : IntKind.i64.wrap ((u % 10 : Nat) : Int) = ((u % 10 : Nat) : Int) := Z1r qM qM
 have em : IntKind.i64.wrap (9223372036854775807 - ((u % 10 : Nat) : Int)) = 9223372036854775807 - ((u % 10 : Nat) : Int) := Z1r qM qM
 have eq : IntKind.i64.wrap ((9223372036854775807 - ((u % 10 : Nat) : Int)).tdiv 10) = (9223372036854775807 - ((u % 10 : Nat) : Int)) / 10 := by
   rw [Int.tdiv_eq_ediv_of_nonneg qM]
   exact Z1r qM qM
 have e2 : IntKind.i64.wrap (IntKind.i64.wrap (10 * m) + ((u % 10 : Nat) : Int)) = u := by
   rw [Z1r (n := 10 * m) qM qM, Z1r qM qM]
   omega
 unfold numStep
 rw [e8, ei, em, eq]
 simp only
 rw [e2, if_neg (by rw [decide_eq_false qM]; simp)]
theorem ZgQ (u : Nat) (h : (u : Int) ≤ 9223372036854775807) : (Lib.decDigits u).foldl numStep (0, 0) = ((u : Int), 0) := by
 induction u using Nat.strongRecOn with
 | _ u ih =>
   rw [Lib.decDigits]
   split
   · rename_i h10
     have := Zcz (u := u) (m := 0) h (by rw [Nat.div_eq_of_lt h10]; rfl)
     rw [Nat.mod_eq_of_lt h10] at this
     exact this
   · rename_i h10
     rw [List.foldl_append, ih (u / 10) qM qM]
     exact Zcz h rfl
theorem Zg5 {m : Int} (h0 : 0 ≤ m) (h1 : m ≤ 9223372036854775807) : rt ⟨3, ⟨#[]⟩, m⟩ := by
 obtain ⟨u, rfl⟩ : ∃ u : Nat, m = u := ⟨m.toNat, by omega⟩
 have hs : showT ⟨3, ⟨#[]⟩, (u : Int)⟩ = Lib.decDigits u := by
   show Lib.itoa (u : Int) = _
   unfold Lib.itoa
   rw [if_neg qM]
   rfl
 obtain ⟨b, t, hb⟩ := Zjr u
 have hd := Zif u
 refine ⟨b, t, hs.trans hb, ?_, fun r hr => ?_⟩
 · have := hd b (by rw [hb]; exact List.mem_cons_self)
   exact (letters b).2.2.2.2.2.2.2.1 ((letters b).2.2.2.2.2.2.2.2.2.2 this)
 · rw [hs]
   have hdb : digB b = true := hd b (by rw [hb]; exact List.mem_cons_self)
   have hlb : letB b = false := (letters b).2.2.2.2.2.2.2.2.1 hdb
   have hrun : runN digB (Lib.decDigits u ++ r) = (Lib.decDigits u).length := Zbi (by rfl) hr _ hd
   have hst : stepL (Lib.decDigits u ++ r) = (numL (Lib.decDigits u ++ r), runN digB (Lib.decDigits u ++ r)) := by
     rw [hb]
     show stepL (b :: (t ++ r)) = _
     rw [stepL, if_neg (by rw [hlb]; simp), if_pos hdb]
     rfl
   have hh : headP letB r = false := by
     rcases hr with rfl | ⟨t, rfl⟩ <;> rfl
   have hn : numL (Lib.decDigits u ++ r) = (⟨3, ⟨#[]⟩, (u : Int)⟩, 0) := by
     unfold numL numE
     rw [hrun, List.drop_left, List.take_left, hh, ZgQ u h1]
     rfl
   rw [hst, hn, hrun]
theorem ZiD {b : UInt8} {l : List UInt8} (he : (numL (b :: l)).2 = 0) : tokO (numL (b :: l)).1 := by
 have hl : headP letB ((b :: l).drop (runN digB (b :: l))) = false := by
   cases h : headP letB ((b :: l).drop (runN digB (b :: l)))
   · rfl
   · rw [Zi6 h] at he
     cases he
 have h := Z9n ((b :: l).take (runN digB (b :: l))) 0 (Z8j digB (b :: l)) (Int.le_refl _) qD
 have hr := Zij hl
 unfold refNum at hr
 cases hg : refG ((b :: l).take (runN digB (b :: l))) 0 with
 | none =>
   rw [hg] at hr
   rw [hr] at he
   cases he
 | some v =>
   rw [hg] at hr
   obtain ⟨h1, h2, h3⟩ := h.2 v hg
   have e : numL (b :: l) = (⟨3, ⟨#[]⟩, v⟩, 0) := by
     rw [hr]
     simp only [if_true]
     rw [Z1r qM qM]
   rw [e]
   exact ⟨Zg5 h2 h3, fun _ => ⟨rfl, h2, h3⟩, fun h => (by simp at h), Nat.zero_le _⟩
theorem Z8m {r : List UInt8} (hr : sepL r) : ∀ a c : List UInt8, textL (dblQ a ++ 39 :: r) c = (endT (c ++ a), (dblQ a).length + 1)
 | [], c => by
   show textL (39 :: r) c = _
   rw [List.append_nil]
   rcases hr with rfl | ⟨t, rfl⟩ <;> rfl
 | x :: a, c => by
   by_cases hx : (x == 39) = true
   · have e : x = 39 := by simpa using hx
     subst e
     have ih := Z8m hr a (c ++ [39])
     show textL (39 :: 39 :: (dblQ a ++ 39 :: r)) c = _
     have h2 : (dblQ (39 :: a)).length = (dblQ a).length + 2 := by rw [dblQ, Z63, if_pos (show ((39 : UInt8) == 39) = true by decide), List.length_append]; exact Nat.add_comm 2 _
     rw [textL, if_pos (show ((39 : UInt8) == 39) = true by decide), if_neg qD, ih, h2]
     simp
   · have hx : (x == 39) = false := by simpa using hx
     have e : dblQ (x :: a) = x :: dblQ a := by rw [dblQ, Z63, if_neg (by rw [hx]; simp)]; rfl
     rw [e]
     show textL (x :: (dblQ a ++ 39 :: r)) c = _
     rw [Z4t _ _ _ hx, Z8m hr a (c ++ [x])]
     simp
theorem Zic {l : List UInt8} (he : (textL l []).1.2 = 0) : tokO (textL l []).1.1 := by
 obtain ⟨q1, q2⟩ := ZaE l []
 cases hq : quoF l [] with
 | none => rw [q1 hq] at he; cases he
 | some r =>
   have e := q2 r hq
   by_cases h64 : 64 < (r.1.length : Int)
   · have : endT r.1 = (t3D, 30) := by unfold endT; rw [if_pos (decide_eq_true h64)]
     rw [e, this] at he
     cases he
   · have e2 : endT r.1 = (⟨4, bl r.1, 0⟩, 0) := by unfold endT; rw [if_neg (by rw [decide_eq_false h64]; simp)]
     rw [e, e2]
     have hs : showT ⟨4, bl r.1, 0⟩ = 39 :: (dblQ r.1 ++ [39]) := by
       show 39 :: (dblQ (bl r.1).data.toList ++ [39]) = _
       rw [Z41]
     refine ⟨⟨39, _, hs, by rfl, fun t ht => ?_⟩, fun h => (by simp at h), fun _ => by show (bl r.1).size ≤ 64; rw [Z3z]; omega, by show (bl r.1).size ≤ 2048; rw [Z3z]; omega⟩
     rw [hs]
     have h3 := Z8m ht r.1 []
     have e3 : (39 :: (dblQ r.1 ++ [39])) ++ t = 39 :: (dblQ r.1 ++ 39 :: t) := by simp
     rw [e3, stepL, if_neg (by decide +kernel), if_neg (by decide +kernel), if_pos (show ((39 : UInt8) == 39) = true by decide), h3, List.nil_append, e2]
     simp
theorem ZhS {b : UInt8} {l : List UInt8} (hl : letB b = false) (hd : digB b = false) (hq : (b == 39) = false) (hsp : isSp b = false) (he : (signL (b :: l)).1.2 = 0) : tokO (signL (b :: l)).1.1 := by
 have hst : ∀ t, stepL (b :: t) = signL (b :: t) := fun t => by
   rw [stepL, if_neg (by rw [hl]; simp), if_neg (by rw [hd]; simp), if_neg (by rw [hq]; simp)]
 by_cases h2 : tryL (b :: l) 2 = true
 · cases l with
   | nil => unfold tryL at h2; simp at h2
   | cons c l =>
     have e : signL (b :: c :: l) = ((⟨5, bl [b, c], 0⟩, 0), 2) := by unfold signL; rw [if_pos h2]; rfl
     rw [e]
     have ht : ∀ t, tryL (b :: c :: t) 2 = tryL [b, c] 2 := fun t => by unfold tryL; simp
     refine ⟨⟨b, [c], rfl, hsp, fun r _ => ?_⟩, fun h => (by simp at h), fun h => (by simp at h), by show (bl [b, c]).size ≤ 2048; rw [Z3z]; simp⟩
     show stepL (b :: c :: r) = _
     rw [hst]
     unfold signL
     rw [if_pos (by rw [ht, ← ht l]; exact h2)]
     rfl
 · have h2 : tryL (b :: l) 2 = false := by simpa using h2
   by_cases h1 : tryL (b :: l) 1 = true
   · have e : signL (b :: l) = ((⟨5, bl [b], 0⟩, 0), 1) := by unfold signL; rw [if_neg (by rw [h2]; simp), if_pos h1]; rfl
     rw [e]
     have ht : ∀ t, tryL (b :: t) 1 = tryL [b] 1 := fun t => by unfold tryL; simp
     refine ⟨⟨b, [], rfl, hsp, fun r hr => ?_⟩, fun h => (by simp at h), fun h => (by simp at h), by show (bl [b]).size ≤ 2048; rw [Z3z]; simp⟩
     show stepL (b :: r) = _
     have h3 : tryL (b :: r) 2 = false := by
       rcases hr with rfl | ⟨t, rfl⟩
       · unfold tryL; simp
       · have : tryL (b :: 32 :: t) 2 = tryL [b, 32] 2 := by unfold tryL; simp
         rw [this, Zjp (Zj9 hsp)]
         simp
     rw [hst]
     unfold signL
     rw [if_neg (by rw [h3]; simp), if_pos (by rw [ht, ← ht l]; exact h1)]
     rfl
   · have e : signL (b :: l) = ((t3D, 30), 0) := by unfold signL; rw [if_neg (by rw [h2]; simp), if_neg h1]
     rw [e] at he
     cases he
theorem ZiN {b : UInt8} {l : List UInt8} (hsp : isSp b = false) (hsz : (b :: l).length ≤ 2048) (he : (stepL (b :: l)).1.2 = 0) : tokO (stepL (b :: l)).1.1 := by
 by_cases h1 : letB b = true
 · have hb : wordB b = true := (letters b).2.2.2.2.2.2.2.2.2.1 h1
   have hrun : runN wordB (b :: l) = runN wordB l + 1 := by rw [runN, if_pos hb]
   have hst : stepL (b :: l) = (wordL (b :: l.take (runN wordB l)), runN wordB (b :: l)) := by
     rw [stepL, if_pos h1, hrun, List.take_succ_cons]
   rw [hst] at he ⊢
   refine ZiR h1 (fun c hc => Z8j wordB (b :: l) c (by rw [hrun, List.take_succ_cons]; exact hc)) ?_ he
   simp only [List.length_cons, List.length_take] at hsz ⊢
   omega
 have h1 : letB b = false := by simpa using h1
 by_cases h2 : digB b = true
 · have hst : stepL (b :: l) = (numL (b :: l), runN digB (b :: l)) := by rw [stepL, if_neg (by rw [h1]; simp), if_pos h2]
   rw [hst] at he ⊢
   exact ZiD he
 have h2 : digB b = false := by simpa using h2
 by_cases h3 : (b == 39) = true
 · have hst : stepL (b :: l) = ((textL l []).1, (textL l []).2 + 1) := by rw [stepL, if_neg (by rw [h1]; simp), if_neg (by rw [h2]; simp), if_pos h3]
   rw [hst] at he ⊢
   exact Zic he
 have h3 : (b == 39) = false := by simpa using h3
 have hst : stepL (b :: l) = signL (b :: l) := by rw [stepL, if_neg (by rw [h1]; simp), if_neg (by rw [h2]; simp), if_neg (by rw [h3]; simp)]
 rw [hst] at he ⊢
 exact ZhS h1 h2 h3 hsp he
theorem Zeu : ∀ (l : List UInt8) {b : UInt8} {r : List UInt8}, l.drop (runN isSp l) = b :: r → isSp b = false
 | [], _, _, h => by simp [runN] at h
 | c :: l, b, r, h => by
   by_cases hc : isSp c = true
   · rw [runN, if_pos hc, List.drop_succ_cons] at h
     exact Zeu l h
   · rw [runN, if_neg hc, List.drop_zero] at h
     injection h with h1 h2
     subst h1
     simpa using hc
theorem Zef : ∀ (f : Nat) (l : List UInt8), l.length ≤ 2048 → ∀ x ∈ (allG f l).1, tokO x
 | 0, _, _, x, h => by cases h
 | f + 1, l, hl, x, h => by
   unfold allG at h
   cases hd : l.drop (runN isSp l) with
   | nil => rw [hd] at h; cases h
   | cons b r =>
     rw [hd] at h
     dsimp only at h
     have hlen : (b :: r).length ≤ 2048 := by rw [← hd, List.length_drop]; omega
     split at h
     · cases h
     · rename_i he
       split at h
       · cases h
       · rcases List.mem_cons.1 h with rfl | h
         · exact ZiN (Zeu l hd) hlen (by simpa using he)
         · exact Zef f _ (by rw [List.length_drop]; omega) x h
theorem Ziu (l : List UInt8) : ∀ x ∈ (lexL l).1, tokO x := by
 unfold lexL
 split
 · intro x h; cases h
 · rename_i h
   exact Zef _ l (by simp at h; omega)
theorem Ze2 : ∀ (k u : Nat), u < 10 ^ (k + 1) → Lib.nDigits u ≤ k + 1
 | 0, u, h => by rw [Lib.nDigits_small (by simpa using h)]; exact Nat.le_refl _
 | k + 1, u, h => by
   by_cases h10 : u < 10
   · rw [Lib.nDigits_small h10]; omega
   · rw [Lib.nDigits_big h10]
     have := Ze2 k (u / 10) (by rw [Nat.pow_succ] at h; omega)
     omega
theorem Zd7 {n : Int} (h0 : 0 ≤ n) (h1 : n ≤ 9223372036854775807) : (Lib.itoa n).length ≤ 19 := by
 unfold Lib.itoa
 rw [if_neg qM, Lib.decDigits_length]
 exact Ze2 18 _ (by have : (10 : Nat) ^ (18 + 1) = 10000000000000000000 := qD; omega)
end Go.Proofs.YtbedigkncjbggaaGreatDoor
namespace Go.Pz
open Go Go.Vc
abbrev agv (cs : List Value) : Value := .agg cs.toArray
theorem ZbL {x : Ex} {cs : List Value} {w : World} (h : ExR x (.agg cs.toArray) w) : ∃ k vk vn vs tb nm sl a len cap, cs = exCells k vk vn vs tb nm sl a len cap := by
 obtain ⟨k, vk, vn, vs, tb, nm, sl, a, len, cap, e⟩ := Z5u h
 exact ⟨k, vk, vn, vs, tb, nm, sl, a, len, cap, Z4Y e⟩
theorem Z6M {x : Ex} {cs : List Value} {w : World} (h : ExR x (.agg cs.toArray) w) : cs.length = 8 := by
 obtain ⟨k, vk, vn, vs, tb, nm, sl, a, len, cap, rfl⟩ := ZbL h; rfl
theorem Zb5 {x : Ex} {cs : List Value} {w : World} (h : ExR x (.agg cs.toArray) w) : ∀ u ∈ cs, u.oneCell' = true := by
 obtain ⟨k, vk, vn, vs, tb, nm, sl, a, len, cap, rfl⟩ := ZbL h
 intro u hu
 simp only [exCells, List.mem_cons, List.mem_nil_iff, or_false] at hu
 rcases hu with rfl|rfl|rfl|rfl|rfl|rfl|rfl|rfl <;> rfl
def exE : Enc Ex where
 sz := 8
 R x cs w := ExR x (.agg cs.toArray) w
 v := agv
 pos := by decide
 len := Z6M
 one := Zb5
 nu h := by
   obtain ⟨k, n, h0⟩ := Z4R h
   exact ⟨_, h0, by simp [undef]⟩
 inj _ _ h := Z4Y h
def itE : Enc Itm where
 sz := 9
 R x cs w := ∃ es, cs = .bool x.all :: es ∧ ExR x.ex (.agg es.toArray) w
 v := agv
 pos := by decide
 len := by rintro x cs w ⟨es, rfl, h⟩; simp [Z6M h]
 one := by
   rintro x cs w ⟨es, rfl, h⟩ u hu
   rcases List.mem_cons.1 hu with rfl | hu
   · rfl
   · exact Zb5 h u hu
 nu := by rintro x cs w ⟨es, rfl, h⟩; exact ⟨_, rfl, by simp [undef]⟩
 inj _ _ h := Z4Y h
def kyE : Enc Ky where
 sz := 9
 R x cs w := ∃ es, cs = es ++ [.bool x.desc] ∧ ExR x.ex (.agg es.toArray) w
 v := agv
 pos := by decide
 len := by rintro x cs w ⟨es, rfl, h⟩; simp [Z6M h]
 one := by
   rintro x cs w ⟨es, rfl, h⟩ u hu
   rcases List.mem_append.1 hu with hu | hu
   · exact Zb5 h u hu
   · rw [List.mem_singleton.1 hu]; rfl
 nu := by
   rintro x cs w ⟨es, rfl, h⟩
   obtain ⟨k, n, h0⟩ := Z4R h
   exact ⟨_, by rw [List.getElem?_append_left (by rw [Z6M h]; decide)]; exact h0, by simp [undef]⟩
 inj _ _ h := Z4Y h
def Col.cells (c : Col) : List Value := [.string c.nm, .int .i64 c.ty, .bool c.nn, .bool c.un]
def coE : Enc Col where
 sz := 4
 R x cs _ := cs = x.cells
 v := agv
 pos := by decide
 len := by rintro x cs w rfl; rfl
 one := by
   rintro x cs w rfl u hu
   simp only [Col.cells, List.mem_cons, List.mem_nil_iff, or_false] at hu
   rcases hu with rfl|rfl|rfl|rfl <;> rfl
 nu := by rintro x cs w rfl; exact ⟨_, rfl, by simp [undef]⟩
 inj _ _ h := Z4Y h
abbrev hdv (cs : List Value) : Value := cs.headD undef
theorem ZbD {cs cs' : List Value} (h : cs.length = 1) (h' : cs'.length = 1) (e : hdv cs = hdv cs') : cs = cs' := by
 match cs, cs', h, h' with
 | [a], [b], _, _ => simpa [hdv] using e
def stE : Enc ByteArray where
 sz := 1
 R x cs _ := cs = [.string x]
 v := hdv
 pos := by decide
 len := by rintro x cs w rfl; rfl
 one := by rintro x cs w rfl u hu; rw [List.mem_singleton.1 hu]; rfl
 nu := by rintro x cs w rfl; exact ⟨_, rfl, by simp [undef]⟩
 inj := ZbD
theorem Z9Q {xs : List Ex} {v : Value} {w : World} (h : ExsR xs v w) : ∃ a len cap, v = .slice a len cap := by
 obtain ⟨a, len, cap, e, _⟩ := h; exact ⟨a, len, cap, e⟩
def rwE : Enc (List Ex) where
 sz := 1
 R x cs w := ∃ v, cs = [v] ∧ ExsR x v w
 v := hdv
 pos := by decide
 len := by rintro x cs w ⟨v, rfl, h⟩; rfl
 one := by
   rintro x cs w ⟨v, rfl, h⟩ u hu
   obtain ⟨a, len, cap, rfl⟩ := Z9Q h
   rw [List.mem_singleton.1 hu]; rfl
 nu := by
   rintro x cs w ⟨v, rfl, h⟩
   obtain ⟨a, len, cap, rfl⟩ := Z9Q h
   exact ⟨_, rfl, by simp [undef]⟩
 inj := ZbD
def srE : Enc Src where
 sz := 3
 R x cs w := ∃ v, cs = [.string x.tb, .string x.nm, v] ∧ ExsR x.on v w
 v := agv
 pos := by decide
 len := by rintro x cs w ⟨v, rfl, h⟩; rfl
 one := by
   rintro x cs w ⟨v, rfl, h⟩ u hu
   obtain ⟨a, len, cap, rfl⟩ := Z9Q h
   simp only [List.mem_cons, List.mem_nil_iff, or_false] at hu
   rcases hu with rfl|rfl|rfl <;> rfl
 nu := by rintro x cs w ⟨v, rfl, h⟩; exact ⟨_, rfl, by simp [undef]⟩
 inj _ _ h := Z4Y h
theorem Cel.kids {ps : List (Cel exE)} {a : Option Addr} {len : Nat} {w : World} (h : RowG Cel.cs 8 ps a len w) (hF : CelF exE ps w) : KidsR (ps.map Cel.x) a len w := by
 obtain ⟨hl, hk⟩ := h
 refine ⟨by simp [hl], fun hn => ?_⟩
 obtain ⟨b, o, ha, hr⟩ := hk hn
 refine ⟨b, o, ha, Z7j (ps.map Cel.x) (ps.map Cel.cs) b o w (by simp) (fun i x cs hx hc => ?_) fun j v hj => ?_⟩
 · rw [List.getElem?_map] at hx hc
   cases hp : ps[i]? with
   | none => rw [hp] at hx; cases hx
   | some p =>
     rw [hp] at hx hc
     injection hx with hx
     injection hc with hc
     subst hx hc
     exact ⟨p.h, hF p (List.mem_of_getElem? hp)⟩
 · rw [← List.flatMap_def] at hj
   obtain ⟨x, hx, hu⟩ := Zbz (enc := Cel.cs) (sz := 8) (fun x : Cel exE => x.h) qM hj
   have := hr _ x hx _ v hu
   rwa [show o + 8 * (j / 8) + j % 8 = o + j by rw [Nat.add_assoc, Nat.div_add_mod]] at this
theorem SlE.exs {G : GoS} {xs : List Ex} {v : Value} {w : World} (h : SlE exE G xs v w) : ExsR xs v w := by
 obtain ⟨ps, a, len, cap, rfl, rfl, _, h4, h5, _⟩ := h
 exact ⟨a, len, cap, rfl, Cel.kids h4 h5⟩
theorem ZjE (x : Ex) (v : Value) (w : World) : exE.T x v w ↔ ExR x v w := by
 constructor
 · rintro ⟨cs, rfl, h⟩; exact h
 · intro h
   obtain ⟨k, vk, vn, vs, tb, nm, sl, a, len, cap, e⟩ := Z5u h
   exact ⟨_, e, by show ExR x (Value.agg (exCells k vk vn vs tb nm sl a len cap).toArray) w; rw [← e]; exact h⟩
theorem Z9P (x : Ex) : Ty.rep (ExR x) = Ty.rep (exE.T x) := by
 congr 1; funext v w; exact propext (ZjE x v w).symm
end Go.Pz
set_option maxRecDepth 20000
namespace Go.Proofs.YtbedigkncjbggaaGreatDoor
open Go Go.Vc Go.Shelf
def Za3 : Go.Shelf.Ren := ⟨fun | 156 => 44 | 165 => 80 | 166 => 81 | 169 => 82 | 240 => 129 | 241 => 130 | 276 => 147 | 277 => 148 | n => n, fun | 31 => 24 | 9 => 9 | 3 => 3 | 4 => 4 | 0 => 0 | 20 => 20 | 72 => 118 | 76 => 122 | 70 => 116 | 37 => 37 | 75 => 121 | 127 => 160 | 164 => 172 | 5 => 5 | 80 => 72 | n => n, fun | n => n⟩
theorem lays156 : Go.Proofs.Lays.n156 Tryz.prog Za3 := {
 mixed := by kernel_rfl
 f156 := Tryz.func44.trans (congrArg some qK)
 f165 := Tryz.func80.trans (congrArg some qK)
 f166 := Tryz.func81.trans (congrArg some qK)
 f169 := Tryz.func82.trans (congrArg some qK)
 f240 := Tryz.func129.trans (congrArg some qK)
 f241 := Tryz.func130.trans (congrArg some qK)
 f276 := Tryz.func147.trans (congrArg some qK)
 f277 := Tryz.func148.trans (congrArg some qK)
 t0 := Tryz.underlying0
 a0 := Tryz.isAgg0
 z0 := Tryz.sizeOf0
 v0 := Tryz.zeroValue0
 t3 := Tryz.underlying3
 a3 := Tryz.isAgg3
 z3 := Tryz.sizeOf3
 v3 := Tryz.zeroValue3
 t4 := Tryz.underlying4
 a4 := Tryz.isAgg4
 z4 := Tryz.sizeOf4
 v4 := Tryz.zeroValue4
 t9 := Tryz.underlying9
 a9 := Tryz.isAgg9
 z9 := Tryz.sizeOf9
 v9 := Tryz.zeroValue9
 t20 := Tryz.underlying20
 a20 := Tryz.isAgg20
 z20 := Tryz.sizeOf20
 v20 := Tryz.zeroValue20
 t31 := Tryz.underlying24
 a31 := Tryz.isAgg24
 z31 := Tryz.sizeOf24
 v31 := Tryz.zeroValue24
 t37 := Tryz.underlying37
 a37 := Tryz.isAgg37
 z37 := Tryz.sizeOf37
 v37 := Tryz.zeroValue37
 t70 := Tryz.underlying116
 a70 := Tryz.isAgg116
 z70 := Tryz.sizeOf116
 v70 := Tryz.zeroValue116
 t72 := Tryz.underlying118
 a72 := Tryz.isAgg118
 z72 := Tryz.sizeOf118
 v72 := Tryz.zeroValue118
 t75 := Tryz.underlying121
 a75 := Tryz.isAgg121
 z75 := Tryz.sizeOf121
 v75 := Tryz.zeroValue121
 t76 := Tryz.underlying122
 a76 := Tryz.isAgg122
 z76 := Tryz.sizeOf122
 v76 := Tryz.zeroValue122
 t127 := Tryz.underlying160
 a127 := Tryz.isAgg160
 z127 := Tryz.sizeOf160
 v127 := Tryz.zeroValue160
 t164 := Tryz.underlying172
 a164 := Tryz.isAgg172
 z164 := Tryz.sizeOf172
 v164 := Tryz.zeroValue172 }
theorem extra156 : Builder.Extra Tryz.prog Za3 := {
 sizeBuilder := by kernel_rfl
 liesBuilder := by kernel_rfl
 t5 := Tryz.underlying5
 a5 := Tryz.isAgg5
 z5 := Tryz.sizeOf5
 v5 := Tryz.zeroValue5
 infoByte := by kernel_rfl
 cellsByte := by kernel_rfl
 sizeByte := by kernel_rfl
 neB5 := by decide }
open Go.RowKit in
def Zjy : Go.Shelf.Ren := ⟨fun | 214 => 136 | n => n, fun | 4 => 4 | 9 => 9 | n => n, fun | n => n⟩
open Go.RowKit in
def ZdM : Go.Shelf.Ren := ⟨fun | 121 => 94 | 214 => 136 | n => n, fun | 4 => 4 | 9 => 9 | n => n, fun | n => n⟩
theorem lays121 : Go.Proofs.Lays.n121 Tryz.prog ZdM := {
 mixed := by kernel_rfl
 f121 := Tryz.func94.trans (congrArg some qK)
 f214 := Tryz.func136.trans (congrArg some qK)
 t4 := Tryz.underlying4
 a4 := Tryz.isAgg4
 z4 := Tryz.sizeOf4
 v4 := Tryz.zeroValue4
 t9 := Tryz.underlying9
 a9 := Tryz.isAgg9
 z9 := Tryz.sizeOf9
 v9 := Tryz.zeroValue9 }
open Go.RowKit in
def Zd4 : Go.Shelf.Ren := ⟨fun | 171 => 90 | 243 => 131 | 246 => 132 | 283 => 149 | 284 => 150 | 285 => 151 | 286 => 152 | 129 => 167 | 317 => 166 | 318 => 168 | 319 => 169 | 320 => 170 | 337 => 179 | 338 => 180 | n => n, fun | 3 => 3 | 9 => 9 | 2 => 2 | 4 => 4 | 171 => 175 | 0 => 0 | 53 => 136 | 37 => 37 | 5 => 5 | 173 => 178 | 212 => 193 | 51 => 194 | 20 => 20 | 213 => 195 | 46 => 161 | 232 => 225 | 233 => 226 | n => n, fun | 17 => 2 | 18 => 7 | 19 => 8 | n => n⟩
theorem laysM171 : Go.Proofs.LaysM.n171 Tryz.prog Zd4 := {
 mixed := by kernel_rfl
 f129 := Tryz.func167.trans (congrArg some qK)
 f171 := Tryz.func90.trans (congrArg some qK)
 f243 := Tryz.func131.trans (congrArg some qK)
 f246 := Tryz.func132.trans (congrArg some qK)
 f283 := Tryz.func149.trans (congrArg some qK)
 f284 := Tryz.func150.trans (congrArg some qK)
 f285 := Tryz.func151.trans (congrArg some qK)
 f286 := Tryz.func152.trans (congrArg some qK)
 f317 := Tryz.func166.trans (congrArg some qK)
 f318 := Tryz.func168.trans (congrArg some qK)
 f319 := Tryz.func169.trans (congrArg some qK)
 f320 := Tryz.func170.trans (congrArg some qK)
 f337 := Tryz.func179.trans (congrArg some qK)
 f338 := Tryz.func180.trans (congrArg some qK)
 t0 := Tryz.underlying0
 a0 := Tryz.isAgg0
 z0 := Tryz.sizeOf0
 v0 := Tryz.zeroValue0
 t2 := Tryz.underlying2
 a2 := Tryz.isAgg2
 z2 := Tryz.sizeOf2
 v2 := Tryz.zeroValue2
 t3 := Tryz.underlying3
 a3 := Tryz.isAgg3
 z3 := Tryz.sizeOf3
 v3 := Tryz.zeroValue3
 t4 := Tryz.underlying4
 a4 := Tryz.isAgg4
 z4 := Tryz.sizeOf4
 v4 := Tryz.zeroValue4
 t5 := Tryz.underlying5
 a5 := Tryz.isAgg5
 z5 := Tryz.sizeOf5
 v5 := Tryz.zeroValue5
 t9 := Tryz.underlying9
 a9 := Tryz.isAgg9
 z9 := Tryz.sizeOf9
 v9 := Tryz.zeroValue9
 t20 := Tryz.underlying20
 a20 := Tryz.isAgg20
 z20 := Tryz.sizeOf20
 v20 := Tryz.zeroValue20
 t37 := Tryz.underlying37
 a37 := Tryz.isAgg37
 z37 := Tryz.sizeOf37
 v37 := Tryz.zeroValue37
 t46 := Tryz.underlying161
 a46 := Tryz.isAgg161
 z46 := Tryz.sizeOf161
 v46 := Tryz.zeroValue161
 t51 := Tryz.underlying194
 a51 := Tryz.isAgg194
 z51 := Tryz.sizeOf194
 v51 := Tryz.zeroValue194
 t53 := Tryz.underlying136
 a53 := Tryz.isAgg136
 z53 := Tryz.sizeOf136
 v53 := Tryz.zeroValue136
 t171 := Tryz.underlying175
 a171 := Tryz.isAgg175
 z171 := Tryz.sizeOf175
 v171 := Tryz.zeroValue175
 t173 := Tryz.underlying178
 a173 := Tryz.isAgg178
 z173 := Tryz.sizeOf178
 v173 := Tryz.zeroValue178
 t212 := Tryz.underlying193
 a212 := Tryz.isAgg193
 z212 := Tryz.sizeOf193
 v212 := Tryz.zeroValue193
 t213 := Tryz.underlying195
 a213 := Tryz.isAgg195
 z213 := Tryz.sizeOf195
 t232 := Tryz.underlying225
 a232 := Tryz.isAgg225
 z232 := Tryz.sizeOf225
 v232 := Tryz.zeroValue225
 t233 := Tryz.underlying226
 a233 := Tryz.isAgg226
 z233 := Tryz.sizeOf226
 v233 := Tryz.zeroValue226
 g17 := by kernel_rfl
 g18 := by kernel_rfl
 g19 := by kernel_rfl
 i0 := by kernel_rfl
 i2 := by kernel_rfl
 i3 := by kernel_rfl
 i4 := by kernel_rfl
 i5 := by kernel_rfl
 i9 := by kernel_rfl
 i20 := by kernel_rfl
 i37 := by kernel_rfl
 i46 := by kernel_rfl
 i51 := by kernel_rfl
 i53 := by kernel_rfl
 i171 := by kernel_rfl
 i173 := by kernel_rfl
 i212 := by kernel_rfl
 i232 := by kernel_rfl
 i233 := by kernel_rfl
 m17 := by kernel_rfl
 m18 := by kernel_rfl
 m19 := by kernel_rfl }
open Go.RowKit Go.Sort Go.Lib in
def ZcG : Go.Shelf.Ren := ⟨fun | 173 => 92 | 246 => 132 | 283 => 149 | 284 => 150 | 285 => 151 | 286 => 152 | 129 => 167 | 317 => 166 | 318 => 168 | 319 => 169 | 320 => 170 | 337 => 179 | 338 => 180 | n => n, fun | 2 => 2 | 3 => 3 | 9 => 9 | 4 => 4 | 171 => 175 | 0 => 0 | 53 => 136 | 37 => 37 | 5 => 5 | 173 => 178 | 212 => 193 | 51 => 194 | 20 => 20 | 213 => 195 | 46 => 161 | 232 => 225 | 233 => 226 | n => n, fun | 17 => 2 | 18 => 7 | 19 => 8 | n => n⟩
theorem laysM173 : Go.Proofs.LaysM.n173 Tryz.prog ZcG := {
 mixed := by kernel_rfl
 f129 := Tryz.func167.trans (congrArg some qK)
 f173 := Tryz.func92.trans (congrArg some qK)
 f246 := Tryz.func132.trans (congrArg some qK)
 f283 := Tryz.func149.trans (congrArg some qK)
 f284 := Tryz.func150.trans (congrArg some qK)
 f285 := Tryz.func151.trans (congrArg some qK)
 f286 := Tryz.func152.trans (congrArg some qK)
 f317 := Tryz.func166.trans (congrArg some qK)
 f318 := Tryz.func168.trans (congrArg some qK)
 f319 := Tryz.func169.trans (congrArg some qK)
 f320 := Tryz.func170.trans (congrArg some qK)
 f337 := Tryz.func179.trans (congrArg some qK)
 f338 := Tryz.func180.trans (congrArg some qK)
 t0 := Tryz.underlying0
 a0 := Tryz.isAgg0
 z0 := Tryz.sizeOf0
 v0 := Tryz.zeroValue0
 t2 := Tryz.underlying2
 a2 := Tryz.isAgg2
 z2 := Tryz.sizeOf2
 v2 := Tryz.zeroValue2
 t3 := Tryz.underlying3
 a3 := Tryz.isAgg3
 z3 := Tryz.sizeOf3
 v3 := Tryz.zeroValue3
 t4 := Tryz.underlying4
 a4 := Tryz.isAgg4
 z4 := Tryz.sizeOf4
 v4 := Tryz.zeroValue4
 t5 := Tryz.underlying5
 a5 := Tryz.isAgg5
 z5 := Tryz.sizeOf5
 v5 := Tryz.zeroValue5
 t9 := Tryz.underlying9
 a9 := Tryz.isAgg9
 z9 := Tryz.sizeOf9
 v9 := Tryz.zeroValue9
 t20 := Tryz.underlying20
 a20 := Tryz.isAgg20
 z20 := Tryz.sizeOf20
 v20 := Tryz.zeroValue20
 t37 := Tryz.underlying37
 a37 := Tryz.isAgg37
 z37 := Tryz.sizeOf37
 v37 := Tryz.zeroValue37
 t46 := Tryz.underlying161
 a46 := Tryz.isAgg161
 z46 := Tryz.sizeOf161
 v46 := Tryz.zeroValue161
 t51 := Tryz.underlying194
 a51 := Tryz.isAgg194
 z51 := Tryz.sizeOf194
 v51 := Tryz.zeroValue194
 t53 := Tryz.underlying136
 a53 := Tryz.isAgg136
 z53 := Tryz.sizeOf136
 v53 := Tryz.zeroValue136
 t171 := Tryz.underlying175
 a171 := Tryz.isAgg175
 z171 := Tryz.sizeOf175
 v171 := Tryz.zeroValue175
 t173 := Tryz.underlying178
 a173 := Tryz.isAgg178
 z173 := Tryz.sizeOf178
 v173 := Tryz.zeroValue178
 t212 := Tryz.underlying193
 a212 := Tryz.isAgg193
 z212 := Tryz.sizeOf193
 v212 := Tryz.zeroValue193
 t213 := Tryz.underlying195
 a213 := Tryz.isAgg195
 z213 := Tryz.sizeOf195
 t232 := Tryz.underlying225
 a232 := Tryz.isAgg225
 z232 := Tryz.sizeOf225
 v232 := Tryz.zeroValue225
 t233 := Tryz.underlying226
 a233 := Tryz.isAgg226
 z233 := Tryz.sizeOf226
 v233 := Tryz.zeroValue226
 g17 := by kernel_rfl
 g18 := by kernel_rfl
 g19 := by kernel_rfl
 i0 := by kernel_rfl
 i2 := by kernel_rfl
 i3 := by kernel_rfl
 i4 := by kernel_rfl
 i5 := by kernel_rfl
 i9 := by kernel_rfl
 i20 := by kernel_rfl
 i37 := by kernel_rfl
 i46 := by kernel_rfl
 i51 := by kernel_rfl
 i53 := by kernel_rfl
 i171 := by kernel_rfl
 i173 := by kernel_rfl
 i212 := by kernel_rfl
 i232 := by kernel_rfl
 i233 := by kernel_rfl
 m17 := by kernel_rfl
 m18 := by kernel_rfl
 m19 := by kernel_rfl }
open Go.RowKit Go.Sort Go.Lib in
def Zaf : Go.Shelf.Ren := ⟨fun | 155 => 95 | 154 => 137 | 138 => 158 | 165 => 80 | 143 => 159 | 166 => 81 | 197 => 153 | 169 => 82 | 195 => 174 | 218 => 175 | 240 => 129 | 241 => 130 | 219 => 176 | 260 => 171 | 276 => 147 | 277 => 148 | 217 => 138 | 225 => 184 | 224 => 185 | 267 => 186 | 266 => 160 | 314 => 190 | n => n, fun | 9 => 9 | 3 => 3 | 4 => 4 | 72 => 118 | 0 => 0 | 76 => 122 | 105 => 180 | 21 => 21 | 5 => 5 | 70 => 116 | 20 => 20 | 37 => 37 | 75 => 121 | 127 => 160 | 164 => 172 | 46 => 161 | 119 => 187 | 139 => 210 | 138 => 209 | 146 => 231 | 51 => 194 | 80 => 72 | n => n, fun | 1 => 1 | 3 => 5 | 4 => 6 | n => n⟩
theorem lays155 : Go.Proofs.Lays.n155 Tryz.prog Zaf := {
 mixed := by kernel_rfl
 f138 := Tryz.func158.trans (congrArg some qK)
 f143 := Tryz.func159.trans (congrArg some qK)
 f154 := Tryz.func137.trans (congrArg some qK)
 f155 := Tryz.func95.trans (congrArg some qK)
 f165 := Tryz.func80.trans (congrArg some qK)
 f166 := Tryz.func81.trans (congrArg some qK)
 f169 := Tryz.func82.trans (congrArg some qK)
 f195 := Tryz.func174.trans (congrArg some qK)
 f197 := Tryz.func153.trans (congrArg some qK)
 f217 := Tryz.func138.trans (congrArg some qK)
 f218 := Tryz.func175.trans (congrArg some qK)
 f219 := Tryz.func176.trans (congrArg some qK)
 f224 := Tryz.func185.trans (congrArg some qK)
 f225 := Tryz.func184.trans (congrArg some qK)
 f240 := Tryz.func129.trans (congrArg some qK)
 f241 := Tryz.func130.trans (congrArg some qK)
 f260 := Tryz.func171.trans (congrArg some qK)
 f266 := Tryz.func160.trans (congrArg some qK)
 f267 := Tryz.func186.trans (congrArg some qK)
 f276 := Tryz.func147.trans (congrArg some qK)
 f277 := Tryz.func148.trans (congrArg some qK)
 f314 := Tryz.func190.trans (congrArg some qK)
 t0 := Tryz.underlying0
 a0 := Tryz.isAgg0
 z0 := Tryz.sizeOf0
 v0 := Tryz.zeroValue0
 t3 := Tryz.underlying3
 a3 := Tryz.isAgg3
 z3 := Tryz.sizeOf3
 v3 := Tryz.zeroValue3
 t4 := Tryz.underlying4
 a4 := Tryz.isAgg4
 z4 := Tryz.sizeOf4
 v4 := Tryz.zeroValue4
 t5 := Tryz.underlying5
 a5 := Tryz.isAgg5
 z5 := Tryz.sizeOf5
 v5 := Tryz.zeroValue5
 t9 := Tryz.underlying9
 a9 := Tryz.isAgg9
 z9 := Tryz.sizeOf9
 v9 := Tryz.zeroValue9
 t20 := Tryz.underlying20
 a20 := Tryz.isAgg20
 z20 := Tryz.sizeOf20
 v20 := Tryz.zeroValue20
 t21 := Tryz.underlying21
 a21 := Tryz.isAgg21
 z21 := Tryz.sizeOf21
 v21 := Tryz.zeroValue21
 t37 := Tryz.underlying37
 a37 := Tryz.isAgg37
 z37 := Tryz.sizeOf37
 v37 := Tryz.zeroValue37
 t46 := Tryz.underlying161
 a46 := Tryz.isAgg161
 z46 := Tryz.sizeOf161
 v46 := Tryz.zeroValue161
 t51 := Tryz.underlying194
 a51 := Tryz.isAgg194
 z51 := Tryz.sizeOf194
 v51 := Tryz.zeroValue194
 t70 := Tryz.underlying116
 a70 := Tryz.isAgg116
 z70 := Tryz.sizeOf116
 v70 := Tryz.zeroValue116
 t72 := Tryz.underlying118
 a72 := Tryz.isAgg118
 z72 := Tryz.sizeOf118
 v72 := Tryz.zeroValue118
 t75 := Tryz.underlying121
 a75 := Tryz.isAgg121
 z75 := Tryz.sizeOf121
 v75 := Tryz.zeroValue121
 t76 := Tryz.underlying122
 a76 := Tryz.isAgg122
 z76 := Tryz.sizeOf122
 v76 := Tryz.zeroValue122
 t105 := Tryz.underlying180
 a105 := Tryz.isAgg180
 z105 := Tryz.sizeOf180
 v105 := Tryz.zeroValue180
 t119 := Tryz.underlying187
 a119 := Tryz.isAgg187
 z119 := Tryz.sizeOf187
 t127 := Tryz.underlying160
 a127 := Tryz.isAgg160
 z127 := Tryz.sizeOf160
 v127 := Tryz.zeroValue160
 t138 := Tryz.underlying209
 a138 := Tryz.isAgg209
 z138 := Tryz.sizeOf209
 v138 := Tryz.zeroValue209
 t139 := Tryz.underlying210
 a139 := Tryz.isAgg210
 z139 := Tryz.sizeOf210
 v139 := Tryz.zeroValue210
 t146 := Tryz.underlying231
 a146 := Tryz.isAgg231
 z146 := Tryz.sizeOf231
 v146 := Tryz.zeroValue231
 t164 := Tryz.underlying172
 a164 := Tryz.isAgg172
 z164 := Tryz.sizeOf172
 v164 := Tryz.zeroValue172
 g1 := by kernel_rfl
 g3 := by kernel_rfl
 g4 := by kernel_rfl }
theorem extra155 : Builder.Extra Tryz.prog Zaf := {
 sizeBuilder := by kernel_rfl
 liesBuilder := by kernel_rfl
 t5 := Tryz.underlying5
 a5 := Tryz.isAgg5
 z5 := Tryz.sizeOf5
 v5 := Tryz.zeroValue5
 infoByte := by kernel_rfl
 cellsByte := by kernel_rfl
 sizeByte := by kernel_rfl
 neB5 := by decide }
open Go.RowKit Go.Lib in
def TF (w : World) : Prop := Lib.TabIs Tryz.prog w "internal/strconv.uint64pow10" .u64 Lib.pow10Tab
theorem Z8N (b : Bool) : CallTy Tryz.prog Z8C [.is (.bool b)] (.is (.string ⟨(Lib.formatBool b).toArray⟩)) :=
 .ofShelf0 (ws := [.bool b]) (fun _ _ => by kernel_rfl) fun w => Any.strconv_FormatBool lays121 b w
theorem Z94 (n : Int) (h0 : -9223372036854775808 ≤ n) (h1 : n ≤ 9223372036854775807) : CallF Tryz.prog Z92 [TF] [.is (.int .i64 n), .is (.int .i64 10)] (.is (.string ⟨(Lib.itoa n).toArray⟩)) :=
 .ofShelf (ws := [.int .i64 n, .int .i64 10]) (fun _ _ => by kernel_rfl) fun w hw =>
  (Any.strconv_FormatInt_10 laysM173 n h0 h1 w (hw TF (by simp))).mono fun e w' ⟨h1, k, os, h2⟩ => ⟨h1, h2 ▸ Lib.below_grow _ w (Nat.le_refl _) k os⟩
theorem Z87 (n : Int) (h0 : -9223372036854775808 ≤ n) (h1 : n ≤ 9223372036854775807) : CallF Tryz.prog Zbd [TF] [.is (.int .i64 n)] (.is (.string ⟨(Lib.itoa n).toArray⟩)) :=
 .ofShelf (ws := [.int .i64 n]) (fun _ _ => by kernel_rfl) fun w hw =>
  (Any.strconv_Itoa laysM171 n h0 h1 w (hw TF (by simp))).mono fun e w' ⟨h1, k, os, h2⟩ => ⟨h1, h2 ▸ Lib.below_grow _ w (Nat.le_refl _) k os⟩
theorem Z8A (s : ByteArray) (c : UInt8) (new : ByteArray) (hs : s.size ≤ 2048) (hn : new.size ≤ 2) (hne : ([c] == new.data.toList) = false) : CallF Tryz.prog Z8u [GF] [.is (.string s), .is (.string ⟨#[c]⟩), .is (.string new)] (.is (.string ⟨(repL c new.data.toList s.data.toList).toArray⟩)) := by
 rw [← Zbp c _ _ hne]
 refine .ofShelf (ws := [.string s, .string ⟨#[c]⟩, .string new]) (fun _ _ => by kernel_rfl) fun w hw => ?_
 obtain ⟨m, hm⟩ := hw GF (by simp)
 have hc : Lib.countB s ⟨#[c]⟩ ≤ s.data.toList.length := Z9k c s.data.toList
 rw [Z1k] at hc
 have hp : Lib.countB s ⟨#[c]⟩ * new.size ≤ 2048 * 2 := Nat.mul_le_mul qM hn
 exact Any.strings_ReplaceAll lays155 extra155 s ⟨#[c]⟩ new m w qM hm (by show 1 ≤ 1; omega) qM
theorem Z2x (xs : List ByteArray) (sep : ByteArray) (hn : xs.length ≤ 140737488355328) (hl : (Lib.join (xs.map (·.data.toList)) sep.data.toList).length ≤ 140737488355328) : CallTy Tryz.prog Z5C [.rep (SlE Pz.stE noS xs), .is (.string sep)] (.is (.string ⟨(Lib.join (xs.map (·.data.toList)) sep.data.toList).toArray⟩)) :=
 ⟨fun _ _ => by kernel_rfl, fun E w vs hw ht => by
   obtain ⟨v, rfl, hv⟩ : ∃ v, vs = [v, .string sep] ∧ Pers E w (SlE Pz.stE noS xs v) := by
     cases vs with
     | nil => exact ht.elim
     | cons v vs =>
       obtain ⟨h1, h2⟩ := ht
       cases vs with
       | nil => exact h2.elim
       | cons u vs =>
         obtain ⟨h3, h4⟩ := h2
         cases vs with
         | nil => exact ⟨v, by rw [show u = _ from h3], h1⟩
         | cons _ _ => exact h4.elim
   obtain ⟨ps, a, len, cap, rfl, rfl, hlc, ⟨hlen, hR⟩, hF, _⟩ := hv.now
   by_cases h0 : len = 0
   · subst h0
     have hps : ps = [] := List.length_eq_zero_iff.1 hlen
     subst hps
     refine Calls.mono (Any.strings_Join_none lays156 extra156 a cap sep w) ?_
     rintro e w' ⟨rfl, rfl⟩
     exact ⟨_, rfl, .refl _ _, rfl⟩
   · obtain ⟨b, o, rfl, hr⟩ := hR h0
     have hat : ∀ (j : Nat) (x : ByteArray), (ps.map Cel.x)[j]? = some x → w.cell? ⟨b, o + j, none⟩ = some (.string x) := fun j x hj => by
       rw [List.getElem?_map] at hj
       obtain ⟨p, hp, rfl⟩ := Option.map_eq_some_iff.1 hj
       have h1 := hr j p hp
       have h2 : p.cs = [.string p.x] := hF p (List.mem_of_getElem? hp)
       rw [h2] at h1
       have h3 := h1 0 _ rfl
       rw [show o + Pz.stE.sz * j + 0 = o + j by show o + 1 * j + 0 = _; omega] at h3
       exact h3
     have hbk : b < w.heap.size := by
       cases ps with
       | nil => simp at hlen; omega
       | cons p ps =>
         have h9 := hat 0 p.x rfl
         unfold World.cell? at h9
         cases hb : w.heap[b]? with
         | none => simp [hb] at h9
         | some ob => exact ZO hb
     have := Any.strings_Join lays156 extra156 b o cap (ps.map Cel.x) sep w hat hbk hn (by rw [List.length_map]; omega) hl
     rw [List.length_map, hlen] at this
     refine Calls.mono this ?_
     rintro e w' ⟨rfl, hb⟩
     exact ⟨_, rfl, .of_below hb, rfl⟩⟩
end Go.Proofs.YtbedigkncjbggaaGreatDoor
set_option maxRecDepth 20000
namespace Go.Proofs.YtbedigkncjbggaaGreatDoor
open Go Go.Vc
def okV (v : V3) : Bool := if v.k == 0 then (v.n == 0) && seq v.s ⟨#[]⟩ else if v.k == 1 then seq v.s ⟨#[]⟩ else if v.k == 2 then (v.n.fdiv 2 == 0) && seq v.s ⟨#[]⟩ else ((v.k == 3) && (v.n == 0)) && decide ((v.s.size : Int) ≤ 64)
abbrev qu1 : ByteArray := ⟨#[39]⟩
def showV (v : V3) : ByteArray := if !okV v then ⟨#[]⟩ else if v.k == 1 then ⟨(Lib.itoa v.n).toArray⟩ else if v.k == 2 then ⟨(Lib.toUpperA (Lib.formatBool (v.n == 1))).toArray⟩ else if v.k == 3 then (qu1 ++ ⟨(repL 39 [39, 39] v.s.data.toList).toArray⟩) ++ qu1 else ⟨#[78, 85, 76, 76]⟩
theorem Zih {v : V3} (h : okV v = true) (h3 : (v.k == 3) = true) : v.s.size ≤ 64 := by
 have e : v.k = 3 := by simpa using h3
 unfold okV at h
 rw [e] at h
 simp at h
 omega
theorem Zhp (b : Bool) : ∀ (j : Nat) (c : UInt8), (⟨(Lib.formatBool b).toArray⟩ : ByteArray).data.toList[j]? = some c → c.toNat < 128 := fun j c h => by
 have hm := List.mem_of_getElem? h
 have hall : ∀ b : Bool, ∀ c ∈ (⟨(Lib.formatBool b).toArray⟩ : ByteArray).data.toList, c.toNat < 128 := by decide +kernel
 exact hall b c hm
theorem Ziv (b : Bool) : (⟨(Lib.formatBool b).toArray⟩ : ByteArray).size ≤ 140737488355328 := by
 have : ∀ b : Bool, (⟨(Lib.formatBool b).toArray⟩ : ByteArray).size ≤ 5 := by decide +kernel
 have := this b
 omega
theorem Zhh (c : UInt8) (s : ByteArray) (h : s.size ≤ 64) {new : List UInt8} (hn : new.length ≤ 2) : (⟨(repL c new s.data.toList).toArray⟩ : ByteArray).size ≤ 128 := by
 have h1 := Zaw c hn s.data.toList
 rw [Z1k] at h1
 show (bl _).size ≤ 128
 rw [Z3z]
 omega
theorem ZeI (v : V3) : CallTy Tryz.prog ZeZ [.is (.agg #[.int .i64 v.k, .int .i64 v.n, .string v.s])] (.is (.bool (okV v))) :=
 CallTy.of (fn := Tryz.f91) Tryz.func91 (n := 45) rfl rfl rfl (fun _ _ => by kernel_rfl) fun E W => by
 refine vQ ?_
 refine JO.box rfl rfl fun b1 => ?_
 refine Ja rfl ?_
 refine vP [1] ?_
 refine Jq (Z0 Z3F rfl) ?_
 refine Jq (Z1 Zt rfl rfl) ?_
 refine vS [1, 4] ?_
 apply yk
 refine vQ ?_
 refine Jq (ZK rfl rfl) ?_
 refine Ja rfl ?_
 refine vS [1, 4, 5] ?_
 refine yC rfl (fun ht5 => ?_) (fun ht5 => ?_)
 try simp only [yd, yf] at ht5
 repeat apply yQ
 refine J.reg0 hmx qK qK ?_
 refine yz (Z0 Z3H rfl) ?_
 refine yz (Z1 Z5A rfl rfl) ?_
 refine yz (ZK rfl rfl) ?_
 refine yz (Z2 rfl) ?_
 refine yg rfl rfl rfl (fun hg => Z0 Z3E (.inl rfl)) ?_
 refine yg rfl rfl rfl (fun hg => Z1 Z8 (qR rfl) rfl) ?_
 refine yg rfl rfl rfl (fun hg => Z3d (qR rfl) (.inl rfl)) ?_
 refine yz (ZP rfl rfl rfl id) ?_
 refine yz (Z1s rfl) ?_
 apply yn
 refine FinS.nil0 ?_
 refine vS [2] ?_
 refine vR ?_
 exact JX.ret1is rfl rfl (by unfold okV; rw [if_pos ht5])
 try simp only [yd, yf] at ht5
 refine vQ ?_
 refine Jq (ZK rfl rfl) ?_
 refine Ja rfl ?_
 refine vS [1, 4, 15] ?_
 refine yC rfl (fun ht15 => ?_) (fun ht15 => ?_)
 try simp only [yd, yf] at ht15
 refine vQ ?_
 refine Jq (Z0 Z3E rfl) ?_
 refine Jq (Z1 Z8 rfl rfl) ?_
 refine Jq (Z3d rfl rfl) ?_
 refine Ja rfl ?_
 refine vS [2] ?_
 refine vR ?_
 exact JX.ret1is rfl rfl (by unfold okV; rw [if_neg (by rw [ht5]; simp), if_pos ht15])
 try simp only [yd, yf] at ht15
 refine vQ ?_
 refine Jq (ZK rfl rfl) ?_
 refine Ja rfl ?_
 refine vS [1, 20] ?_
 refine yC rfl (fun ht20 => ?_) (fun ht20 => ?_)
 try simp only [yd, yf] at ht20
 repeat apply yQ
 refine J.reg0 hmx qK qK ?_
 refine yz (Z0 Z3H rfl) ?_
 refine yz (Z1 Z5A rfl rfl) ?_
 refine yz (Zj3 rfl rfl rfl) ?_
 refine yz (ZK rfl rfl) ?_
 refine yz (Z2 rfl) ?_
 refine yg rfl rfl rfl (fun hg => Z0 Z3E (.inl rfl)) ?_
 refine yg rfl rfl rfl (fun hg => Z1 Z8 (qR rfl) rfl) ?_
 refine yg rfl rfl rfl (fun hg => Z3d (qR rfl) (.inl rfl)) ?_
 refine yz (ZP rfl rfl rfl id) ?_
 refine yz (Z1s rfl) ?_
 apply yn
 refine FinS.nil0 ?_
 refine vS [2] ?_
 refine vR ?_
 exact JX.ret1is rfl rfl (by unfold okV; rw [if_neg (by rw [ht5]; simp), if_neg (by rw [ht15]; simp), if_pos ht20]; rfl)
 try simp only [yd, yf] at ht20
 apply yK
 refine vN ?_
 refine J.reg0 hmx qK qK ?_
 refine yz (Z0 Z3F rfl) ?_
 refine yz (Z1 Zt rfl rfl) ?_
 refine yz (ZK rfl rfl) ?_
 refine yz (Z2 rfl) ?_
 refine yg rfl rfl rfl (fun hg => Z0 Z3H (.inl rfl)) ?_
 refine yg rfl rfl rfl (fun hg => Z1 Z5A (qR rfl) rfl) ?_
 refine yg rfl rfl rfl (fun hg => ZK (qR rfl) (.inl rfl)) ?_
 refine yz (ZP rfl rfl rfl id) ?_
 refine yz (Z2 rfl) ?_
 refine yg rfl rfl rfl (fun hg => Z0 Z3E (.inl rfl)) ?_
 refine yg rfl rfl rfl (fun hg => Z1 Z8 (qR rfl) rfl) ?_
 refine yg rfl rfl rfl (fun hg => Z3C Zu (qR rfl)) ?_
 refine yg rfl rfl rfl (fun hg => Z3Y (qR rfl) (.inl rfl)) ?_
 refine yz (ZP rfl rfl rfl id) ?_
 refine yz (Z1s rfl) ?_
 apply yn
 refine FinS.nil0 ?_
 refine vS [2] ?_
 refine vR ?_
 exact JX.ret1is rfl rfl (by unfold okV; rw [if_neg (by rw [ht5]; simp), if_neg (by rw [ht15]; simp), if_neg (by rw [ht20]; simp)])
theorem Zdg (v : V3) (h0 : -9223372036854775808 ≤ v.n) (h1 : v.n ≤ 9223372036854775807) : CallF Tryz.prog ZcE [GF, TF] [.is (.agg #[.int .i64 v.k, .int .i64 v.n, .string v.s])] (.is (.string (showV v))) :=
CallF.of (fn := Tryz.f54) Tryz.func54 (n := 32) rfl rfl rfl (fun _ _ => by kernel_rfl) fun E W => by
 refine vQ ?_
 refine JO.box rfl rfl fun b1 => ?_
 refine Ja rfl ?_
 refine vS [1] ?_
 apply yk
 refine vQ ?_
 refine Jq (ZF (cs := [_, _, _]) Z4k rfl rfl rfl) ?_
 refine Jq (ZI rfl (ZeI v) qA) ?_
 refine Jq (Z67 rfl) ?_
 refine Ja rfl ?_
 refine vS [1, 3] ?_
 refine yC rfl (fun ht3 => ?_) (fun ht3 => ?_)
 try simp only [yd, yf] at ht3
 refine vQ ?_
 refine Ja rfl ?_
 refine vS [2] ?_
 refine vR ?_
 exact JX.ret1is rfl rfl (by unfold showV; rw [if_pos ht3])
 try simp only [yd, yf] at ht3
 refine vQ ?_
 refine Jq (Z0 Z3F rfl) ?_
 refine Jq (Z1 Zt rfl rfl) ?_
 refine Jq (ZK rfl rfl) ?_
 refine Ja rfl ?_
 refine vS [1, 7] ?_
 refine yC rfl (fun ht7 => ?_) (fun ht7 => ?_)
 try simp only [yd, yf] at ht7
 refine vQ ?_
 refine Jq (Z0 Z3H rfl) ?_
 refine Jq (Z1 Z5A rfl rfl) ?_
 refine Jq (ZC rfl (Z94 v.n h0 h1) (by simp) qA) ?_
 refine Ja rfl ?_
 refine vS [2] ?_
 refine vR ?_
 exact JX.ret1is rfl rfl (by unfold showV; rw [if_neg (by rw [ht3]; simp), if_pos ht7])
 try simp only [yd, yf] at ht7
 refine vQ ?_
 refine Jq (Z0 Z3F rfl) ?_
 refine Jq (Z1 Zt rfl rfl) ?_
 refine Jq (ZK rfl rfl) ?_
 refine Ja rfl ?_
 refine vS [1, 14] ?_
 refine yC rfl (fun ht14 => ?_) (fun ht14 => ?_)
 try simp only [yd, yf] at ht14
 refine vQ ?_
 refine Jq (Z0 Z3H rfl) ?_
 refine Jq (Z1 Z5A rfl rfl) ?_
 refine Jq (ZK rfl rfl) ?_
 refine Jq (ZI rfl (Z8N (v.n == 1)) qA) ?_
 refine Jq (ZI rfl (Z6f ⟨(Lib.formatBool (v.n == 1)).toArray⟩ (Ziv _) (Zhp _)) (.one rfl .nil)) ?_
 refine Ja rfl ?_
 refine vS [2] ?_
 refine vR ?_
 exact JX.ret1is rfl rfl (by unfold showV; rw [if_neg (by rw [ht3]; simp), if_neg (by rw [ht7]; simp), if_pos ht14])
 try simp only [yd, yf] at ht14
 refine vQ ?_
 refine Jq (Z0 Z3F rfl) ?_
 refine Jq (Z1 Zt rfl rfl) ?_
 refine Jq (ZK rfl rfl) ?_
 refine Ja rfl ?_
 refine vS [1, 23] ?_
 refine yC rfl (fun ht23 => ?_) (fun ht23 => ?_)
 try simp only [yd, yf] at ht23
 have h64 := Zih (by simpa using ht3) ht23
 have hrs := Zhh 39 v.s h64 (new := [39, 39]) qD
 refine vQ ?_
 refine Jq (Z0 Z3E rfl) ?_
 refine Jq (Z1 Z8 rfl rfl) ?_
 refine Jq (ZC rfl (Z8A v.s 39 ⟨#[39, 39]⟩ qM qD qD) (by simp) qA) ?_
 refine Jq (Z5F rfl rfl (by have : qu1.size = 1 := rfl; show qu1.size + (⟨(repL 39 [39, 39] v.s.data.toList).toArray⟩ : ByteArray).size ≤ 9223372036854775807; omega)) ?_
 refine Jq (Z5F rfl rfl (by have : qu1.size = 1 := rfl; show (qu1 ++ ⟨(repL 39 [39, 39] v.s.data.toList).toArray⟩).size + qu1.size ≤ 9223372036854775807; rw [ByteArray.size_append]; omega)) ?_
 refine Ja rfl ?_
 refine vS [2] ?_
 refine vR ?_
 exact JX.ret1is rfl rfl (by unfold showV; rw [if_neg (by rw [ht3]; simp), if_neg (by rw [ht7]; simp), if_neg (by rw [ht14]; simp), if_pos ht23])
 try simp only [yd, yf] at ht23
 apply yK
 refine vN ?_
 apply yN
 refine Ja rfl ?_
 refine vS [2] ?_
 refine vR ?_
 exact JX.ret1is rfl rfl (by unfold showV; rw [if_neg (by rw [ht3]; simp), if_neg (by rw [ht7]; simp), if_neg (by rw [ht14]; simp), if_neg (by rw [ht23]; simp)])
end Go.Proofs.YtbedigkncjbggaaGreatDoor
set_option maxRecDepth 20000
namespace Go.Proofs.YtbedigkncjbggaaGreatDoor
open Go Go.Vc
structure Sep (c : UInt8) : Prop where
 wd : wordB c = false
 dg : digB c = false
 lt : letB c = false
 nq : (c == 39) = false
 sg : ∀ b l, tryL (b :: c :: l) 2 = false
theorem ZaO {c : UInt8} (h1 : wordB c = false) (h2 : digB c = false) (h3 : letB c = false) (h4 : (c == 39) = false) (h5 : ∀ n : Nat, n < 256 → (!(tryL [UInt8.ofNat n, c] 2)) = true) : Sep c :=
 ⟨h1, h2, h3, h4, fun b l => by
  have := ZaR (p := fun b => !(tryL [b, c] 2)) h5 b
  have e : tryL (b :: c :: l) 2 = tryL [b, c] 2 := by unfold tryL; simp
  rw [e]
  simpa using this⟩
theorem Zgi : Sep 41 := ZaO (by decide +kernel) (by decide +kernel) (by decide +kernel) (by decide +kernel) (by decide +kernel)
theorem Z6G : Sep 32 := ZaO (by decide +kernel) (by decide +kernel) (by decide +kernel) (by decide +kernel) (by decide +kernel)
section
variable {c : UInt8} (hc : Sep c)
theorem Z6y {p : UInt8 → Bool} (h10 : p c = false) (k : List UInt8) : ∀ l : List UInt8, runN p (l ++ c :: k) = runN p l
 | [] => by
   show runN p (c :: k) = 0
   simp [runN, h10]
 | b :: l => by
   rw [List.cons_append, runN, runN, Z6y h10 k l]
theorem ZfT {p : UInt8 → Bool} (h10 : p c = false) (k : List UInt8) : ∀ l : List UInt8, headP p (l ++ c :: k) = headP p l
 | [] => h10
 | _ :: _ => rfl
include hc in
theorem ZhB (l k : List UInt8) : numL (l ++ c :: k) = numL l := by
 have e : numE (l ++ c :: k) = numE l := by
  unfold numE
  rw [Z6y hc.dg, Zaq, ZcM, ZfT hc.lt]
 unfold numL
 rw [e, Z6y hc.dg, Zaq]
include hc in
theorem Z97 (k : List UInt8) : ∀ (l acc : List UInt8), (textL l acc).1.2 = 0 → textL (l ++ c :: k) acc = textL l acc
 | [], acc, h => by cases h
 | [b], acc, h => by
   by_cases hq : (b == 39) = true
   · have : b = 39 := by simpa using hq
     subst this
     show textL (39 :: c :: k) acc = textL [39] acc
     have e : ∀ (d : UInt8) (l : List UInt8), (d == 39) = false → textL (39 :: d :: l) acc = (endT acc, 1) := fun d l hd => by rw [textL, if_pos (by rfl), if_pos (by simp [bne, hd])]
     rw [e c k hc.nq]
     rw [textL]; rfl
   · rw [Z4t b [] acc (by simpa using hq)] at h
     cases h
 | b :: d :: l, acc, h => by
   by_cases hq : (b == 39) = true
   · have : b = 39 := by simpa using hq
     subst this
     rw [List.cons_append, List.cons_append]
     by_cases hd : (d == 39) = true
     · have : d = 39 := by simpa using hd
       subst this
       have e : ∀ l : List UInt8, textL (39 :: 39 :: l) acc = ((textL l (acc ++ [39])).1, (textL l (acc ++ [39])).2 + 2) := fun l => by rw [textL]; rfl
       rw [e] at h
       rw [e, e, Z97 k l _ h]
     · have hd' : (d == 39) = false := by simpa using hd
       have e : ∀ (d : UInt8) (l : List UInt8), (d == 39) = false → textL (39 :: d :: l) acc = (endT acc, 1) := fun d l hd => by rw [textL, if_pos (by rfl), if_pos (by simp [bne, hd])]
       rw [e _ _ hd', e _ _ hd']
   · have hq' : (b == 39) = false := by simpa using hq
     rw [Z4t b _ acc hq'] at h
     have := Z97 k (d :: l) (acc ++ [b]) h
     rw [List.cons_append] at this
     rw [List.cons_append, List.cons_append, Z4t b _ acc hq', Z4t b _ acc hq', this]
include hc in
theorem Zgg (b : UInt8) (l k : List UInt8) : signL ((b :: l) ++ c :: k) = signL (b :: l) := by
 have e1 : tryL ((b :: l) ++ c :: k) 1 = tryL (b :: l) 1 := by
   unfold tryL
   simp
 have e2 : tryL ((b :: l) ++ c :: k) 2 = tryL (b :: l) 2 := by
   cases l with
   | nil =>
     rw [List.cons_append, List.nil_append, hc.sg]
     rfl
   | cons d l =>
     unfold tryL
     simp
 unfold signL
 rw [e1, e2]
 by_cases h2 : tryL (b :: l) 2 = true
 · rw [if_pos h2, if_pos h2]
   cases l with
   | nil => simp [tryL] at h2
   | cons d l => rfl
 rw [if_neg h2, if_neg h2]
 rfl
include hc in
theorem Zgb {b : UInt8} {l k : List UInt8} (h : (stepL (b :: l)).1.2 = 0) : stepL ((b :: l) ++ c :: k) = stepL (b :: l) := by
 rw [List.cons_append]
 by_cases h1 : letB b = true
 · have e : ∀ l : List UInt8, stepL (b :: l) = (wordL ((b :: l).take (runN wordB (b :: l))), runN wordB (b :: l)) := fun l => by rw [stepL, if_pos h1]
   rw [e, e, ← List.cons_append, Z6y hc.wd, Zaq]
 by_cases h2 : digB b = true
 · have e : ∀ l : List UInt8, stepL (b :: l) = (numL (b :: l), runN digB (b :: l)) := fun l => by rw [stepL, if_neg h1, if_pos h2]
   rw [e, e, ← List.cons_append, Z6y hc.dg, ZhB hc]
 by_cases h3 : (b == 39) = true
 · have e : ∀ l : List UInt8, stepL (b :: l) = ((textL l []).1, (textL l []).2 + 1) := fun l => by rw [stepL, if_neg h1, if_neg h2, if_pos h3]
   rw [e] at h
   rw [e, e, Z97 hc k l [] h]
 have e : ∀ l : List UInt8, stepL (b :: l) = signL (b :: l) := fun l => by rw [stepL, if_neg h1, if_neg h2, if_neg h3]
 rw [e, e, ← List.cons_append, Zgg hc]
theorem ZdT (m : List UInt8) : ∀ l : List UInt8, runN isSp l = l.length → runN isSp (l ++ m) = l.length + runN isSp m
 | [], _ => by simp
 | b :: l, h => by
   unfold runN at h
   split at h
   · rename_i hb
     rw [List.cons_append, runN, if_pos hb, ZdT m l (by simpa using h)]
     simp only [List.length_cons]
     omega
   · simp at h
theorem ZcU (k : List UInt8) : ∀ l : List UInt8, runN isSp l ≠ l.length → runN isSp (l ++ c :: k) = runN isSp l
 | [], h => absurd rfl h
 | b :: l, h => by
   rw [List.cons_append, runN, runN]
   split
   · rename_i hb
     rw [ZcU k l (fun e => h (by rw [runN, if_pos hb, e]; rfl))]
   · rfl
include hc in
theorem Z6m (k : List UInt8) : ∀ (n : Nat) (l : List UInt8), l.length ≤ n → (allA l).2 = 0 → allA (l ++ c :: k) = finA (allA l).1 (allA (c :: k))
 | n, l, hn, h => by
   by_cases hs : runN isSp l = l.length
   · have e1 : allA l = ([], 0) := by
       rw [← Z3g, hs, List.drop_length]; rfl
     have e2 : allA (l ++ c :: k) = allA (c :: k) := by
       rw [← Z3g (l ++ c :: k), ZdT (c :: k) l hs, ← Z3g (c :: k)]
       congr 1
       rw [List.drop_append, List.drop_eq_nil_of_le qM, List.nil_append]
       congr 1
       omega
     rw [e1, e2, Zcs]
   · have hle := Z5D isSp l
     have e0 : allA (l ++ c :: k) = allA (l.drop (runN isSp l) ++ c :: k) := by
       rw [← Z3g (l ++ c :: k), ZcU k l hs, ZcM]
     have e1 := Z3g l
     have hsp := ZdV l
     have hlen : (l.drop (runN isSp l)).length ≤ n := by rw [List.length_drop]; omega
     rw [e0, ← e1]
     rw [← e1] at h
     cases hd : l.drop (runN isSp l) with
     | nil =>
       have := congrArg List.length hd
       rw [List.length_drop] at this
       simp at this
       omega
     | cons b r =>
       rw [hd] at h hsp hlen
       rw [Z4V hsp (by simp)] at h ⊢
       by_cases he : (stepL (b :: r)).1.2 = 0
       · have hne : ((stepL (b :: r)).1.2 != 0) = false := by simp [he]
         rw [hne] at h ⊢
         simp only [Bool.false_eq_true, if_false] at h ⊢
         have hp := Z8J he
         have hl2 := Z9H (b :: r)
         have hr : (allA ((b :: r).drop (stepL (b :: r)).2)).2 = 0 := by
           unfold finA at h
           by_cases h9 : ((allA ((b :: r).drop (stepL (b :: r)).2)).2 != 0) = true
           · rw [if_pos h9] at h; exact h
           · simpa using h9
         have hsp2 : runN isSp ((b :: r) ++ c :: k) = 0 := by
           have hb : ¬ isSp b = true := fun hb => by rw [runN, if_pos hb] at hsp; omega
           rw [List.cons_append, runN, if_neg hb]
         rw [Z4V hsp2 (by simp), Zgb hc he, hne]
         simp only [Bool.false_eq_true, if_false]
         rw [List.drop_append_of_le_length hl2]
         match n, hlen with
         | 0, hlen => simp at hlen
         | n + 1, hlen =>
           rw [Z6m k n _ (by rw [List.length_drop]; omega) hr, Zd2]
           have : finA [(stepL (b :: r)).1.1] (allA ((b :: r).drop (stepL (b :: r)).2)) = ([(stepL (b :: r)).1.1] ++ (allA ((b :: r).drop (stepL (b :: r)).2)).1, 0) := by
             unfold finA
             rw [if_neg (by simp [hr])]
           rw [this]
       · rw [if_pos (by simpa using he)] at h
         exact absurd h he
end
theorem ZiQ {c : UInt8} (hc : Sep c) {l k : List UInt8} (h : l.length + k.length + 1 ≤ 2048) (he : (lexL l).2 = 0) (hk : (lexL (c :: k)).2 = 0) : lexL (l ++ c :: k) = ((lexL l).1 ++ (lexL (c :: k)).1, 0) := by
 have e1 : lexL l = allA l := by unfold lexL; rw [if_neg (by simp; omega)]; rfl
 have e2 : lexL (c :: k) = allA (c :: k) := by unfold lexL; rw [if_neg (by simp; omega)]; rfl
 have e3 : lexL (l ++ c :: k) = allA (l ++ c :: k) := by unfold lexL; rw [if_neg (by simp; omega)]; rfl
 rw [e1] at he
 rw [e2] at hk
 rw [e1, e2, e3, Z6m hc k l.length l (Nat.le_refl _) he]
 unfold finA
 rw [if_neg (by simp [hk])]
theorem Zh3 {c : UInt8} (hc : Sep c) {l k : List UInt8} (h : (lexL (l ++ c :: k)).2 = 0) : l.length + k.length + 1 ≤ 2048 := by
 unfold lexL at h
 split at h
 · cases h
 · rename_i h1; simp at h1; omega
theorem ZhN {c : UInt8} (hc : isSp c = true) {l : List UInt8} (h : l.length + 1 ≤ 2048) : lexL (c :: l) = lexL l := by
 have e2 : lexL (c :: l) = allA (c :: l) := by unfold lexL; rw [if_neg (by simp; omega)]; rfl
 have e1 : lexL l = allA l := by unfold lexL; rw [if_neg (by simp; omega)]; rfl
 rw [e1, e2, ← Z3g (c :: l), runN, if_pos hc, List.drop_succ_cons, Z3g]
end Go.Proofs.YtbedigkncjbggaaGreatDoor
set_option maxRecDepth 20000
namespace Go.Proofs.YtbedigkncjbggaaGreatDoor
open Go Go.Vc Go.Pz
abbrev prS (l : List UInt8) : St × Int := readS (lexL l)
theorem Zbw {l : List UInt8} (h : (lexL l).2 ≠ 0) : prS l = (st0, (lexL l).2) := by
 show readS _ = _
 unfold readS; rw [if_neg (by simpa using h)]
theorem Z9A {l : List UInt8} (h : (lexL l).2 = 0) : prS l = readT (lexL l).1 := by
 show readS _ = _
 unfold readS; rw [if_pos (by simpa using h)]
theorem ZeF {l : List UInt8} (h : 2048 < l.length) : lexL l = ([], 30) := by
 unfold lexL; rw [if_pos (by rw [decide_eq_true_eq]; omega)]
theorem ZhY {l : List UInt8} (h : 2048 < l.length) : prS l = (st0, 30) := by
 rw [Zbw (by rw [ZeF h]; decide), ZeF h]
theorem Zau {ts : List T3} (h : (readT ts).2 = 0) : ∃ s r, stmtP (exprP (ts.length + 1)) ts = some (s, r) ∧ skT 5 Z6O r = [] ∧ deepS s = false ∧ readT ts = (s, 0) := by
 unfold readT at h ⊢
 split at h
 · cases h
 rename_i s hs
 split at h
 · cases h
 rename_i hd
 unfold wholeP at hs
 obtain ⟨z, h1, h2⟩ := bnd hs
 split at h2
 · rename_i h3; injection h2 with h2; subst h2
   exact ⟨z.1, z.2, h1, h3, by simpa using hd, by rw [if_neg hd]⟩
 · cases h2
theorem Zha {ts : List T3} {s : St} {r : List T3} (h1 : stmtP (exprP (ts.length + 1)) ts = some (s, r)) (h2 : skT 5 Z6O r = []) (h3 : deepS s = false) : readT ts = (s, 0) := by
 unfold readT wholeP
 rw [h1]
 simp only [Option.bind_some, h2]
 rw [if_neg (by rw [h3]; decide)]
instance : DecidableEq T3 := fun a b => decidable_of_iff (a.k = b.k ∧ a.t = b.t ∧ a.n = b.n) ⟨fun ⟨h1, h2, h3⟩ => by cases a; cases b; simp_all, fun h => by subst h; exact ⟨rfl, rfl, rfl⟩⟩
theorem ZaT {l : List UInt8} (h : (prS l).2 = 0) : (lexL l).2 = 0 := by
 by_cases e : (lexL l).2 = 0
 · exact e
 · rw [Zbw e] at h; exact absurd h e
end Go.Proofs.YtbedigkncjbggaaGreatDoor
