/- What is printed of an expression, as text; it is cut into its tokens. Plain. No condition. -/
import Derived.Test.YtbedigkncjbggaaGreatDoorXQ2
import Derived.Test.YtbedigkncjbggaaGreatDoorXQ4
import Derived.Test.YtbedigkncjbggaaGreatDoorXQ1
set_option maxRecDepth 20000
namespace Go.Proofs.YtbedigkncjbggaaGreatDoor
open Go Go.Vc Go.Pz
abbrev tx (s : ByteArray) : List UInt8 := s.data.toList
def litS (vk vn : Int) (vs : ByteArray) : List UInt8 := (showV ⟨vk, vn, vs⟩).data.toList
def opS (k : Int) : List UInt8 := tx (binT k).t
def parS (x : Ex) (l : List UInt8) : List UInt8 := if big x then 40 :: (l ++ [41]) else l
mutual
def prE : Ex → List UInt8
 | .mk k vk vn vs tb nm _ kids =>
   if k == 1 then litS vk vn vs
   else if k == 2 then (if sq tb em then tx nm else tx tb ++ 46 :: tx nm)
   else if k == 3 then 45 :: hd0 (prEs kids)
   else if k == 4 then [78, 79, 84] ++ 32 :: hd0 (prEs kids)
   else if k == 18 then hd0 (prEs kids) ++ [32, 73, 83, 32, 78, 85, 76, 76]
   else if k == 19 then hd0 (prEs kids) ++ [32, 73, 83, 32, 78, 79, 84, 32, 78, 85, 76, 76]
   else if decide (20 ≤ k) && decide (k ≤ 23) then tx (aggW k) ++ 40 :: ((match prEs kids with | [] => [42] | y :: _ => y.1) ++ [41])
   else if decide (k < 5) || decide (17 < k) then [63]
   else hd0 (prEs kids) ++ 32 :: (opS k ++ 32 :: hd1 (prEs kids))
def prEs : List Ex → List (List UInt8 × List UInt8)
 | [] => []
 | x :: xs => (prE x, parS x (prE x)) :: prEs xs
end
def prO (x : Ex) : List UInt8 := parS x (prE x)
theorem Zjg : Sep 40 := ZaO (by decide +kernel) (by decide +kernel) (by decide +kernel) (by decide +kernel) (by decide +kernel)
theorem ZhU : Sep 46 := ZaO (by decide +kernel) (by decide +kernel) (by decide +kernel) (by decide +kernel) (by decide +kernel)
theorem Z42 {c : UInt8} (hc : Sep c) {l k : List UInt8} {t1 t2 : List T3} (h1 : allA l = (t1, 0)) (h2 : allA (c :: k) = (t2, 0)) : allA (l ++ c :: k) = (t1 ++ t2, 0) := by
 rw [Z6m hc k l.length l (Nat.le_refl _) (by rw [h1]), h1, h2]; rfl
theorem Z9r (k : List UInt8) : allA (32 :: k) = allA k := by
 rw [← Z3g (32 :: k), ← Z3g k]
 have : runN isSp (32 :: k) = runN isSp k + 1 := by rw [runN, if_pos (by decide +kernel)]
 rw [this, List.drop_succ_cons]
structure One (c : UInt8) : Prop where
 st : ∀ m, stepL (c :: m) = ((sg ⟨#[c]⟩, 0), 1)
 sp : isSp c = false
theorem ZaJ {c : UInt8} (h : (!(letB c) && (!(digB c) && (!(c == 39) && (!(isSp c) && tryL [c] 1)))) = true) (h2 : ∀ n : Nat, n < 256 → (!(tryL [c, UInt8.ofNat n] 2)) = true) : One c := by
 simp only [Bool.and_eq_true, Bool.not_eq_true'] at h
 obtain ⟨h1, h3, h4, h5, h6⟩ := h
 refine ⟨fun m => ?_, h5⟩
 have ht : tryL (c :: m) 2 = false := by
   cases m with
   | nil => unfold tryL; simp
   | cons d r =>
     have := ZaR (p := fun d => !(tryL [c, d] 2)) h2 d
     have e : tryL (c :: d :: r) 2 = tryL [c, d] 2 := by unfold tryL; simp
     rw [e]; simpa using this
 have h7 : tryL (c :: m) 1 = true := by
   have e : tryL (c :: m) 1 = tryL [c] 1 := by unfold tryL; simp
   rw [e]; exact h6
 rw [stepL, if_neg (by rw [h1]; simp), if_neg (by rw [h3]; simp), if_neg (by rw [h4]; simp)]
 unfold signL
 rw [if_neg (by rw [ht]; simp), if_pos h7]
 rfl
theorem ZfK : One 40 := ZaJ (by decide +kernel) (by decide +kernel)
theorem ZfG : One 41 := ZaJ (by decide +kernel) (by decide +kernel)
theorem Zfs : One 45 := ZaJ (by decide +kernel) (by decide +kernel)
theorem ZiS : One 46 := ZaJ (by decide +kernel) (by decide +kernel)
theorem Z6s {c : UInt8} (h : One c) {k : List UInt8} {t : List T3} (hk : allA k = (t, 0)) : allA (c :: k) = (sg ⟨#[c]⟩ :: t, 0) := by
 rw [Z4V (by rw [runN, if_neg (by rw [h.sp]; simp)]) (by simp), h.st, if_neg (by simp)]
 show finA [sg ⟨#[c]⟩] (allA k) = _
 rw [hk]; rfl
theorem Zbs {x : T3} (h : rt x) : allA (showT x) = ([x], 0) := by
 have := Zc9 [x] (fun y hy => by rw [List.mem_singleton] at hy; subst hy; exact h)
 rw [← this]
 show _ = allA (32 :: (showT x ++ []))
 rw [Z9r, List.append_nil]
def nmOk (s : ByteArray) : Prop := rt ⟨2, s, 0⟩ ∧ s.size ≤ 2048
theorem Zcp (s : ByteArray) (h : nmOk s) : sq s em = false := by
 obtain ⟨⟨b, t, h1, _⟩, _⟩ := h
 have h2 : s.data.toList = b :: t := h1
 unfold sq
 rw [h2]; rfl
theorem Zcu {s : ByteArray} (h : nmOk s) : allA (tx s) = ([nm_ s], 0) := Zbs h.1
theorem Zi0 {s : ByteArray} (h : s.size ≤ 64) : rt ⟨4, s, 0⟩ := by
 have hs : showT ⟨4, s, 0⟩ = 39 :: (dblQ s.data.toList ++ [39]) := rfl
 refine ⟨39, _, hs, by rfl, fun t ht => ?_⟩
 rw [hs]
 have h3 := Z8m ht s.data.toList []
 have e3 : (39 :: (dblQ s.data.toList ++ [39])) ++ t = 39 :: (dblQ s.data.toList ++ 39 :: t) := by simp
 have e2 : endT s.data.toList = (⟨4, s, 0⟩, 0) := by
   unfold endT
   rw [if_neg (by rw [decide_eq_false (by rw [Z1k]; omega)]; simp)]
 rw [e3, stepL, if_neg (by decide +kernel), if_neg (by decide +kernel), if_pos (show ((39 : UInt8) == 39) = true by decide), h3, List.nil_append, e2]
 simp
theorem Zej {n : Int} : litS 1 n em = showT ⟨3, em, n⟩ := by
 have h : okV ⟨1, n, ⟨#[]⟩⟩ = true := by unfold okV; rw [if_neg (by show ¬ ((1 : Int) == 0) = true; decide), if_pos (by show ((1 : Int) == 1) = true; decide)]; exact (by simp [seq] : seq ⟨#[]⟩ ⟨#[]⟩ = true)
 unfold litS showV showT
 rw [h, if_neg qD, if_pos (by show ((1 : Int) == 1) = true; decide), if_pos (by show ((3 : Int) == 3) = true; decide)]
theorem Zel {s : ByteArray} (h : s.size ≤ 64) : litS 3 0 s = showT ⟨4, s, 0⟩ := by
 have h9 : okV ⟨3, 0, s⟩ = true := by
  unfold okV
  rw [if_neg (by show ¬ ((3 : Int) == 0) = true; decide), if_neg (by show ¬ ((3 : Int) == 1) = true; decide), if_neg (by show ¬ ((3 : Int) == 2) = true; decide)]
  show ((((3 : Int) == 3) && ((0 : Int) == 0)) && decide ((s.size : Int) ≤ 64)) = true
  rw [decide_eq_true qM]
  rfl
 unfold litS showV showT
 rw [h9, if_neg qD, if_neg (by show ¬ ((3 : Int) == 1) = true; decide), if_neg (by show ¬ ((3 : Int) == 2) = true; decide), if_pos (by show ((3 : Int) == 3) = true; decide), if_neg (by show ¬ ((4 : Int) == 3) = true; decide), if_pos (by show ((4 : Int) == 4) = true; decide)]
 show ((qu1 ++ bl _) ++ qu1).data.toList = _
 rw [Z8t, Z8t, Z41]
 rfl
theorem ZdX : litS 2 1 em = tx Z7G := by decide +kernel
theorem Zec : litS 2 0 em = tx Z6r := by decide +kernel
theorem Zek : litS 0 0 em = tx Z2b := by decide +kernel
theorem Z9I {x : Ex} (h : allA (prE x) = (tkE x, 0)) : allA (prO x) = (tkO x, 0) := by
 unfold prO tkO parS parT
 split
 · refine Z6s ZfK ?_
   exact Z42 Zgi h (Z6s ZfG Zan)
 · exact h
theorem Zi1 : allA [32, 73, 83, 32, 78, 85, 76, 76] = ([kw w_IS, kw Z2b], 0) := by decide +kernel
theorem ZiI : allA [32, 73, 83, 32, 78, 79, 84, 32, 78, 85, 76, 76] = ([kw w_IS, kw Z1i, kw Z2b], 0) := by decide +kernel
theorem Zir : allA [78, 79, 84] = ([kw Z1i], 0) := by decide +kernel
theorem Zj0 {q : Int} (h5 : 5 ≤ q) (h17 : q ≤ 17) : allA (opS q) = ([binT q], 0) := by
 have : q = 5 ∨ q = 6 ∨ q = 7 ∨ q = 8 ∨ q = 9 ∨ q = 10 ∨ q = 11 ∨ q = 12 ∨ q = 13 ∨ q = 14 ∨ q = 15 ∨ q = 16 ∨ q = 17 := by omega
 rcases this with rfl|rfl|rfl|rfl|rfl|rfl|rfl|rfl|rfl|rfl|rfl|rfl|rfl <;> decide +kernel
theorem ZhQ {q : Int} (h0 : 20 ≤ q) (h1 : q ≤ 23) : allA (tx (aggW q)) = ([kw (aggW q)], 0) := by
 have : q = 20 ∨ q = 21 ∨ q = 22 ∨ q = 23 := by omega
 rcases this with rfl|rfl|rfl|rfl <;> decide +kernel
theorem Ze6 {q : Int} {x y : Ex} (h5 : 5 ≤ q) (h17 : q ≤ 17) : prE (nd q [x, y]) = prO x ++ 32 :: (opS q ++ 32 :: prO y) := by
 unfold prE
 simp only [prEs]
 rw [if_neg (by simp; omega), if_neg (by simp; omega), if_neg (by simp; omega), if_neg (by simp; omega), if_neg (by simp; omega), if_neg (by simp; omega), if_neg (by simp; omega), if_neg (by simp; omega)]
 rfl
theorem ZiB {q : Int} {x y : Ex} (h5 : 5 ≤ q) (h17 : q ≤ 17) : tkE (nd q [x, y]) = tkO x ++ binT q :: tkO y := by
 unfold tkE
 simp only [tkEs]
 rw [if_neg (by simp; omega), if_neg (by simp; omega), if_neg (by simp; omega), if_neg (by simp; omega), if_neg (by simp; omega), if_neg (by simp; omega), if_neg (by simp; omega)]
 rfl
theorem Ze8 {q : Int} {x : Ex} (h0 : 20 ≤ q) (h1 : q ≤ 23) : prE (nd q [x]) = tx (aggW q) ++ 40 :: (prE x ++ [41]) := by
 conv => lhs; unfold prE
 simp only [prEs]
 rw [if_neg (by simp; omega), if_neg (by simp; omega), if_neg (by simp; omega), if_neg (by simp; omega), if_neg (by simp; omega), if_neg (by simp; omega), if_pos (by simp; omega)]
theorem ZiU {q : Int} {x : Ex} (h0 : 20 ≤ q) (h1 : q ≤ 23) : tkE (nd q [x]) = kw (aggW q) :: sg s_lp :: (tkE x ++ [sg s_rp]) := by
 conv => lhs; unfold tkE
 simp only [tkEs]
 rw [if_neg (by simp; omega), if_neg (by simp; omega), if_neg (by simp; omega), if_neg (by simp; omega), if_neg (by simp; omega), if_neg (by simp; omega), if_pos (by simp; omega)]
theorem ZjF {x : Ex} (h : Wf nmOk x) : allA (prE x) = (tkE x, 0) := by
 induction h with
 | num h0 h1 => exact (congrArg allA Zej).trans (Zbs (Zg5 h0 h1))
 | txt h => exact (congrArg allA (Zel h)).trans (Zbs (Zi0 h))
 | tru => exact (congrArg allA ZdX).trans (by decide +kernel)
 | fls => exact (congrArg allA Zec).trans (by decide +kernel)
 | nul => exact (congrArg allA Zek).trans (by decide +kernel)
 | col h => exact Zcu h
 | @tcol t s ht h =>
   have e : prE (.mk 2 0 0 em t s 0 []) = tx t ++ 46 :: tx s := by
     show (if sq t em = true then _ else _) = _
     rw [if_neg (by rw [Zcp t ht]; simp)]
   have e2 : tkE (.mk 2 0 0 em t s 0 []) = [nm_ t, sg Z2I, nm_ s] := by
     show (if sq t em = true then _ else _) = _
     rw [if_neg (by rw [Zcp t ht]; simp)]
   rw [e, e2]
   exact Z42 ZhU (Zcu ht) (Z6s ZiS (Zcu h))
 | @neg x h ih => exact Z6s Zfs (Z9I ih)
 | @not x h ih => exact Z42 Z6G Zir ((Z9r _).trans (Z9I ih))
 | @isn x h ih => exact Z42 Z6G (Z9I ih) Zi1
 | @iss x h ih => exact Z42 Z6G (Z9I ih) ZiI
 | @bin q x y h5 h17 hx hy ihx ihy =>
   rw [Ze6 h5 h17, ZiB h5 h17]
   exact Z42 Z6G (Z9I ihx) ((Z9r _).trans (Z42 Z6G (Zj0 h5 h17) ((Z9r _).trans (Z9I ihy))))
 | cnt => decide +kernel
 | @agg q x h0 h1 hx ih =>
   rw [Ze8 h0 h1, ZiU h0 h1]
   exact Z42 Zjg (ZhQ h0 h1) (Z6s ZfK (Z42 Zgi ih (Z6s ZfG Zan)))
end Go.Proofs.YtbedigkncjbggaaGreatDoor
set_option maxRecDepth 20000
namespace Go.Proofs.YtbedigkncjbggaaGreatDoor
open Go Go.Vc Go.Pz
abbrev kCT : List UInt8 := [67, 82, 69, 65, 84, 69, 32, 84, 65, 66, 76, 69]
abbrev kCI : List UInt8 := [67, 82, 69, 65, 84, 69, 32, 73, 78, 68, 69, 88]
abbrev kON : List UInt8 := [79, 78]
abbrev kUH : List UInt8 := [85, 83, 73, 78, 71, 32, 72, 65, 83, 72]
abbrev kII : List UInt8 := [73, 78, 83, 69, 82, 84, 32, 73, 78, 84, 79]
abbrev kVA : List UInt8 := [86, 65, 76, 85, 69, 83]
abbrev kSE : List UInt8 := [83, 69, 76, 69, 67, 84]
abbrev kFR : List UInt8 := [70, 82, 79, 77]
abbrev kWH : List UInt8 := [87, 72, 69, 82, 69]
abbrev kGB : List UInt8 := [71, 82, 79, 85, 80, 32, 66, 89]
abbrev kOB : List UInt8 := [79, 82, 68, 69, 82, 32, 66, 89]
abbrev kLI : List UInt8 := [76, 73, 77, 73, 84]
abbrev kUP : List UInt8 := [85, 80, 68, 65, 84, 69]
abbrev kST : List UInt8 := [83, 69, 84]
abbrev kDF : List UInt8 := [68, 69, 76, 69, 84, 69, 32, 70, 82, 79, 77]
abbrev kBE : List UInt8 := [66, 69, 71, 73, 78]
abbrev kCO : List UInt8 := [67, 79, 77, 77, 73, 84]
abbrev kRO : List UInt8 := [82, 79, 76, 76, 66, 65, 67, 75]
abbrev kAS : List UInt8 := [65, 83]
abbrev kJO : List UInt8 := [74, 79, 73, 78]
abbrev kDE : List UInt8 := [68, 69, 83, 67]
abbrev kNN : List UInt8 := [78, 79, 84, 32, 78, 85, 76, 76]
abbrev kUN : List UInt8 := [85, 78, 73, 81, 85, 69]
abbrev kEQ : List UInt8 := [61]
def joinC : List (List UInt8) → List UInt8
 | [] => []
 | x :: xs => x ++ xs.flatMap fun y => 44 :: 32 :: y
theorem cut2 {a b : List UInt8} {ta tb : List T3} (ha : allA a = (ta, 0)) (hb : allA b = (tb, 0)) : allA (a ++ 32 :: b) = (ta ++ tb, 0) := Z42 Z6G ha ((Z9r b).trans hb)
def txTy (t : Int) : List UInt8 := if decide (1 ≤ t) && decide (t ≤ 3) then 32 :: tx (typW t) else []
def txC (c : Col) : List UInt8 := tx c.nm ++ (txTy c.ty ++ ((if c.nn then 32 :: kNN else []) ++ (if c.un then 32 :: kUN else [])))
def txSrc (s : Pz.Src) : List UInt8 := tx s.tb ++ if sq s.nm s.tb then [] else 32 :: (kAS ++ 32 :: tx s.nm)
def txCl (w : List UInt8) (l : List Ex) : List UInt8 := if l.isEmpty then [] else 32 :: (w ++ 32 :: joinC (l.map prE))
def txJ (s : Pz.Src) : List UInt8 := 32 :: (kJO ++ 32 :: (txSrc s ++ txCl kON s.on))
def txFr : List Pz.Src → List UInt8
 | [] => []
 | s :: js => (txSrc s ++ txCl kON s.on) ++ js.flatMap txJ
def txItm (i : Itm) : List UInt8 := if i.all then [42] else prE i.ex
def txKy (k : Ky) : List UInt8 := prE k.ex ++ if k.desc then 32 :: kDE else []
def txR (r : List Ex) : List UInt8 := 40 :: (joinC (r.map prE) ++ [41])
def txSet (p : ByteArray × Ex) : List UInt8 := tx p.1 ++ 32 :: (kEQ ++ 32 :: prE p.2)
def txOr (l : List Ky) : List UInt8 := if l.isEmpty then [] else 32 :: (kOB ++ 32 :: joinC (l.map txKy))
def txLim (n : Int) : List UInt8 := if decide (0 ≤ n) then 32 :: (kLI ++ 32 :: Lib.itoa n) else []
def txNs (l : List ByteArray) : List UInt8 := if l.isEmpty then [] else 32 :: 40 :: (joinC (l.map tx) ++ [41])
def txQ (s : St) : List UInt8 := kSE ++ 32 :: (joinC (s.items.map txItm) ++ 32 :: (kFR ++ 32 :: (txFr s.from_ ++ (txCl kWH s.where_ ++ (txCl kGB s.group ++ (txOr s.order ++ txLim s.limit))))))
def txI (s : St) : List UInt8 := kII ++ 32 :: (tx s.tb ++ (txNs s.names ++ 32 :: (kVA ++ 32 :: joinC (s.rows.map txR))))
def txS (s : St) : List UInt8 :=
 if s.kind == 1 then kCT ++ 32 :: (tx s.tb ++ 32 :: 40 :: (joinC (s.cols.map txC) ++ [41]))
 else if s.kind == 2 then kCI ++ 32 :: (tx s.nm ++ 32 :: (kON ++ 32 :: (tx s.tb ++ 32 :: ((40 :: (joinC (s.names.map tx) ++ [41])) ++ if s.hash then 32 :: kUH else []))))
 else if s.kind == 3 then txI s
 else if s.kind == 4 then txQ s
 else if s.kind == 5 then kUP ++ 32 :: (tx s.tb ++ 32 :: (kST ++ 32 :: (joinC ((s.names.zip s.sets).map txSet) ++ txCl kWH s.where_)))
 else if s.kind == 6 then kDF ++ 32 :: (tx s.tb ++ txCl kWH s.where_)
 else if s.kind == 7 then kBE else if s.kind == 8 then kCO else kRO
end Go.Proofs.YtbedigkncjbggaaGreatDoor
set_option maxRecDepth 20000
namespace Go.Proofs.YtbedigkncjbggaaGreatDoor
open Go Go.Vc Go.Pz
theorem Zf7 {c : UInt8} (hc : Sep c) {l k : List UInt8} (he : (lexL l).2 = 0) (hw : (lexL (l ++ c :: k)).2 = 0) : (lexL (c :: k)).2 = 0 ∧ lexL (l ++ c :: k) = ((lexL l).1 ++ (lexL (c :: k)).1, 0) := by
 have h := Zh3 hc hw
 have e1 : lexL l = allA l := by unfold lexL; rw [if_neg (by simp; omega)]; rfl
 have e2 : lexL (c :: k) = allA (c :: k) := by unfold lexL; rw [if_neg (by simp; omega)]; rfl
 have e3 : lexL (l ++ c :: k) = allA (l ++ c :: k) := by unfold lexL; rw [if_neg (by simp; omega)]; rfl
 have hk : (lexL (c :: k)).2 = 0 := by
   rw [e3, Z6m hc k l.length l (Nat.le_refl _) (by rw [← e1]; exact he)] at hw
   rw [e2]
   unfold finA at hw
   by_cases h9 : ((allA (c :: k)).2 != 0) = true
   · rw [if_pos h9] at hw; exact hw
   · simpa using h9
 exact ⟨hk, ZiQ hc h he hk⟩
theorem Ziw {k : List UInt8} (h : (lexL (32 :: k)).2 = 0) : lexL (32 :: k) = lexL k := by
 unfold lexL at h
 split at h
 · cases h
 · rename_i h1; exact ZhN (by decide +kernel) (by simp at h1; omega)
abbrev tDel : List UInt8 := [100, 101, 108, 101, 116, 101, 32, 102, 114, 111, 109, 32, 116, 32, 119, 104, 101, 114, 101]
theorem ZfC : lexL tDel = (delL [], 0) := by decide +kernel
end Go.Proofs.YtbedigkncjbggaaGreatDoor
set_option maxRecDepth 20000
namespace Go.Proofs.YtbedigkncjbggaaGreatDoor
open Go Go.Vc Go.Pz
theorem Zia (w : List UInt8) : (wordL w).1.n = 0 := by
 unfold wordL
 repeat' split
 all_goals rfl
theorem Zfe (l : List UInt8) : (endT l).1.n = 0 := by
 unfold endT
 split <;> rfl
theorem ZbA : ∀ (l acc : List UInt8), (textL l acc).1.1.n = 0
 | [], acc => by unfold textL; rfl
 | b :: l, acc => by
   cases l with
   | nil =>
     unfold textL
     repeat' split
     all_goals first|rfl|exact Zfe _|(unfold textL; rfl)
   | cons c l =>
     have h1 := ZbA l
     have h2 := ZbA (c :: l)
     unfold textL
     repeat' split
     all_goals first|rfl|exact Zfe _|exact h1 _|exact h2 _
theorem Zim (l : List UInt8) : (signL l).1.1.n = 0 := by
 unfold signL
 repeat' split
 all_goals rfl
theorem ZjV (l : List UInt8) (h : (numL l).1.k = 2) : False := by
 unfold numL at h
 repeat' split at h
 all_goals simp [t3D] at h
theorem ZiK {l : List UInt8} (h : (stepL l).1.1.k = 2) : (stepL l).1.1.n = 0 := by
 cases l with
 | nil => rfl
 | cons b l =>
   by_cases h1 : letB b = true
   · rw [stepL, if_pos h1]; exact Zia _
   by_cases h2 : digB b = true
   · rw [stepL, if_neg h1, if_pos h2] at h; exact (ZjV _ h).elim
   by_cases h3 : (b == 39) = true
   · rw [stepL, if_neg h1, if_neg h2, if_pos h3]; exact ZbA _ _
   rw [stepL, if_neg h1, if_neg h2, if_neg h3]; exact Zim _
theorem Zhv {x : T3} (h : tokO x) (hk : x.k = 2) : nmOk x.t := by
 obtain ⟨k, t, n⟩ := x
 dsimp only at hk
 subst hk
 obtain ⟨b, r, h1, h2, h3⟩ := h.1
 have h4 := h3 [] (.inl rfl)
 have h5 : n = 0 := by
   have := ZiK (l := showT ⟨2, t, n⟩ ++ []) (by rw [h4])
   rw [h4] at this
   exact this
 subst h5
 exact ⟨h.1, h.2.2.2⟩
theorem ZeA (l : List UInt8) : tkL nmOk (lexL l).1 := fun x hx => by
 have h := Ziu l x hx
 exact ⟨Zhv h, fun hk => (h.2.1 hk).2, fun hk => h.2.2.1 hk⟩
theorem Z9G {l : List UInt8} (h : (prS l).2 = 0) : WfS nmOk (prS l).1 ∧ deepS (prS l).1 = false := by
 have he := ZaT h
 rw [Z9A he] at h ⊢
 obtain ⟨s, r, h1, _, h3, h4⟩ := Zau h
 rw [h4]
 exact ⟨Zhj (ZaD _) (Z2v _) _ _ (ZeA l) h1, h3⟩
theorem Zix {l : List UInt8} (h : l.length ≤ 2048) : lexL l = allA l := by unfold lexL; rw [if_neg (by simp; omega)]; rfl
theorem ZgO {x : Ex} {s : St} (h : Wf nmOk x) (hs : s = { stK 6 with tb := n_t, where_ := [x] }) (hd : deepS s = false) (hl : (tDel ++ 32 :: prE x).length ≤ 2048) : prS (tDel ++ 32 :: prE x) = (s, 0) := by
 have e : lexL (tDel ++ 32 :: prE x) = (delL (tkE x), 0) := (Zix hl).trans (cut2 (show allA tDel = (delL [], 0) by decide +kernel) (ZjF h))
 rw [Z9A (by rw [e]), e]
 have hx : exprP ((delL (tkE x)).length + 1) (tkE x) = some (x, []) := by
   rw [← ZcX (n := (delL (tkE x)).length + 1) (tkE x) (by show (tkE x).length < _; simp only [List.length_cons]; omega)]
   have := (ZjC Zcp h).2 [] Zfq
   rw [List.append_nil] at this
   exact this
 refine Zha (r := []) ?_ rfl (hs ▸ hd) |>.trans (by rw [hs])
 rw [ZfJ, hx]; rfl
theorem Zh7 {x : Ex} : txS { stK 6 with tb := n_t, where_ := [x] } = [68, 69, 76, 69, 84, 69, 32, 70, 82, 79, 77, 32, 116, 32, 87, 72, 69, 82, 69, 32] ++ prE x := by
 show kDF ++ 32 :: ([116] ++ txCl kWH [x]) = _
 simp [txCl, joinC]
theorem ZiH {m : List UInt8} (h : (prS (tDel ++ 32 :: m)).2 = 0) (h1 : (prS (tDel ++ 32 :: m)).1.where_.length = 1) : ∃ x, Wf nmOk x ∧ (prS (tDel ++ 32 :: m)).1 = { stK 6 with tb := n_t, where_ := [x] } := by
 have hw := Z9G h
 obtain ⟨a1, a2⟩ := Zf7 Z6G (show (lexL tDel).2 = 0 by rw [ZfC]) (ZaT h)
 have ea0 := Ziw a1
 rw [ea0] at a1 a2
 have e1 : prS (tDel ++ 32 :: m) = readT (delL (lexL m).1) := by rw [Z9A (ZaT h), a2, ZfC]; rfl
 rw [e1] at h h1 hw ⊢
 obtain ⟨s, r, h2, h3, h4, h5⟩ := Zau h
 rw [h5] at h1 hw ⊢
 rw [ZfJ] at h2
 obtain ⟨z, hz, h6⟩ := mpd h2
 injection h6 with h6 h7
 dsimp only at h1 hw ⊢
 refine ⟨z.1, ?_, h6.symm⟩
 have := ZaD (nk := nmOk) _ _ _ (ZeA m) hz
 exact this
end Go.Proofs.YtbedigkncjbggaaGreatDoor
namespace Go.Pz
open Go Go.Vc
mutual
def ect : Ex → Nat
 | .mk _ _ _ _ _ _ _ kids => ects kids + 1
def ects : List Ex → Nat
 | [] => 0
 | x :: xs => ect x + ects xs
end
theorem Z2B (x : Ex) : ect x = ects x.KS + 1 := by cases x; rw [ect]; rfl
theorem Z3V {xs : List Ex} {x : Ex} (h : x ∈ xs) : ect x ≤ ects xs := by
 induction xs with
 | nil => cases h
 | cons y ys ih =>
   rw [ects]
   rcases List.mem_cons.1 h with rfl | h
   · omega
   · have := ih h; omega
theorem ZaA (xs : List Ex) : xs.length ≤ ects xs := by
 induction xs with
 | nil => exact Nat.zero_le _
 | cons y ys ih => 
   rw [ects, List.length_cons]
   have : 1 ≤ ect y := by rw [Z2B]; omega
   omega
mutual
theorem ZhO : ∀ x : Ex, hgt x ≤ ect x
 | .mk _ _ _ _ _ _ _ kids => by rw [hgt, ect]; have := Z9t kids; omega
theorem Z9t : ∀ xs : List Ex, hgts xs ≤ ects xs
 | [] => by rw [hgts, ects]; exact Nat.le_refl _
 | x :: xs => by rw [hgts, ects]; have := ZhO x; have := Z9t xs; omega
end
def Hb (p : Ps Ex) : Prop := ∀ ts z, p ts = some z → ect z.1 + z.2.length ≤ ts.length
theorem Z3R (k vk vn : Int) (vs tb nm : ByteArray) (sl : Int) : ect (.mk k vk vn vs tb nm sl []) = 1 := by rw [ect, ects]
theorem ZaP (k : Int) (x : Ex) : ect (nd k [x]) = ect x + 1 := by rw [ect, ects, ects]
theorem ZhF (k : Int) (x y : Ex) : ect (nd k [x, y]) = ect x + ect y + 1 := by rw [ect, ects, ects, ects]; omega
theorem Zd1 {part : Ps Ex} {k : Int} {ops : List (ByteArray × Int)} (hp : Hb part) {M : Nat} : ∀ (n : Nat) (x : Ex) (ts : List T3) (z : Ex × List T3), ect x + ts.length ≤ M → chainG part k ops n x ts = some z → ect z.1 + z.2.length ≤ M
 | 0, x, ts, z, hM, h => by rw [chainG] at h; injection h with h; subst h; exact hM
 | n + 1, x, ts, z, hM, h => by
   rw [chainG] at h
   split at h
   · injection h with h; subst h; exact hM
   · rename_i q hq
     obtain ⟨y, h1, h2⟩ := bnd h
     have h3 := hp _ _ h1
     have h4 := (Z4s hq).2
     have h5 : 1 ≤ ect y.1 := by
       obtain ⟨y1, y2⟩ := y
       cases y1; rw [ect]; omega
     refine Zd1 hp n _ _ _ ?_ h2
     rw [ZhF]; omega
theorem Z8y {part : Ps Ex} {k : Int} {ops : List (ByteArray × Int)} (hp : Hb part) : Hb (chainP part k ops) := fun ts z h => by
 obtain ⟨y, h1, h2⟩ := bnd h
 exact Zd1 hp _ _ _ _ (hp _ _ h1) h2
section
variable {e : Ps Ex} (he : Hb e)
include he
theorem ZjQ : Hb (kwP e) := fun ts z h => by
 obtain ⟨y, h1, h2⟩ := bnd h
 have h3 := (ZN 1 _ _ h1).2
 split at h2
 · injection h2 with h2; subst h2; rw [Z3R]; dsimp only; omega
 split at h2
 · injection h2 with h2; subst h2; rw [Z3R]; dsimp only; omega
 split at h2
 · injection h2 with h2; subst h2; rw [Z3R]; dsimp only; omega
 split at h2
 · cases h2
 obtain ⟨u, h4, h5⟩ := bnd h2
 have h6 := (Za _ _ _ _ h4).2
 split at h5
 · rename_i hi
   simp only [Bool.and_eq_true] at hi
   obtain ⟨v, h7, rfl⟩ := mpd h5
   have h8 := (Za _ _ _ _ h7).2
   have h9 := (Zy hi.2).2
   rw [Z3R]; dsimp only; omega
 · obtain ⟨x, h7, h8⟩ := bnd h5
   obtain ⟨v, h9, rfl⟩ := mpd h8
   have h10 := he _ _ h7
   have h11 := (Za _ _ _ _ h9).2
   dsimp only
   rw [ZaP]; omega
theorem Zh5 : Hb (atomP e) := fun ts z h => by
 cases ts with
 | nil => cases h
 | cons t r =>
   rw [atomP] at h
   split at h
   · injection h with h; subst h; rw [Z3R]; simp only [List.length_cons]; omega
   split at h
   · injection h with h; subst h; rw [Z3R]; simp only [List.length_cons]; omega
   split at h
   · split at h
     · rename_i hi
       obtain ⟨v, h7, rfl⟩ := mpd h
       have h8 := (ZA _ _ h7).2
       have h9 := (Zy hi).2
       rw [Z3R]; simp only [List.length_cons]; omega
     · injection h with h; subst h; rw [Z3R]; simp only [List.length_cons]; omega
   split at h
   · exact ZjQ he _ _ h
   · obtain ⟨u, h4, h5⟩ := bnd h
     obtain ⟨x, h7, h8⟩ := bnd h5
     obtain ⟨v, h9, rfl⟩ := mpd h8
     have h10 := he _ _ h7
     have h11 := (Za _ _ _ _ h9).2
     have h12 := (Za _ _ _ _ h4).2
     dsimp only; omega
theorem ZbS : ∀ (ts : List T3) (z : Ex × List T3), factorP e ts = some z → ect z.1 + z.2.length ≤ ts.length
 | [], z, h => by rw [factorP] at h; cases h
 | t :: r, z, h => by
   rw [factorP] at h
   split at h
   · obtain ⟨v, h7, rfl⟩ := mpd h
     have := ZbS r v h7
     dsimp only
     rw [ZaP]; simp only [List.length_cons]; omega
   · exact Zh5 he _ _ h
theorem ZiA : Hb (prodP e) := Z8y (ZbS he)
theorem Zd0 : Hb (sumP e) := Z8y (ZiA he)
theorem Zgc {x : Ex} {ts : List T3} {z : Ex × List T3} {M : Nat} (hM : ect x + ts.length ≤ M) (h : cmpP e x ts = some z) : ect z.1 + z.2.length ≤ M := by
 unfold cmpP at h
 split at h
 · rename_i q hq
   obtain ⟨v, h7, rfl⟩ := mpd h
   have h8 := Zd0 he _ _ h7
   have h9 := (Z4s hq).2
   have h5 : 1 ≤ ect v.1 := by
     obtain ⟨y1, y2⟩ := v
     cases y1; rw [ect]; omega
   dsimp only
   rw [ZhF]; omega
 · split at h
   · rename_i hi
     have h9 := (Zy hi).2
     split at h
     · rename_i hj
       obtain ⟨v, h7, rfl⟩ := mpd h
       have h8 := (Za _ _ _ _ h7).2
       have h10 := (Zy hj).2
       dsimp only
       rw [ZaP]; omega
     · obtain ⟨v, h7, rfl⟩ := mpd h
       have h8 := (Za _ _ _ _ h7).2
       dsimp only
       rw [ZaP]; omega
   · injection h with h; subst h; exact hM
theorem ZgF : ∀ (ts : List T3) (z : Ex × List T3), notP e ts = some z → ect z.1 + z.2.length ≤ ts.length
 | [], z, h => by
   rw [notP] at h
   obtain ⟨y, h1, h2⟩ := bnd h
   exact Zgc he (Zd0 he _ _ h1) h2
 | t :: r, z, h => by
   rw [notP] at h
   split at h
   · obtain ⟨v, h7, rfl⟩ := mpd h
     have := ZgF r v h7
     dsimp only
     rw [ZaP]; simp only [List.length_cons]; omega
   · obtain ⟨y, h1, h2⟩ := bnd h
     exact Zgc he (Zd0 he _ _ h1) h2
theorem ZjY : Hb (orP e) := Z8y (Z8y (ZgF he))
end
theorem Zbf : ∀ n, Hb (exprP n)
 | 0, ts, z, h => by cases h
 | n + 1, ts, z, h => ZjY (Zbf n) ts z h
def HB (M : Nat) (x : Ex) : Prop := ect x ≤ M
theorem Zk0 {e : Ps Ex} (he : Hb e) {M : Nat} {ts : List T3} {z : Ex × List T3} (hM : ts.length ≤ M) (h : e ts = some z) : HB M z.1 := by
 have := he _ _ h
 unfold HB; omega
def Pb {α : Type} (f : α → List Ex) (M : Nat) (p : Ps α) : Prop := ∀ ts z, ts.length ≤ M → p ts = some z → ∀ x ∈ f z.1, ect x ≤ M
theorem ZdY {α : Type} {f : α → List Ex} {M : Nat} {p : Ps α} (hd : Dn0 p) (h : Pb f M p) : ∀ n ts z, ts.length ≤ M → listG p n ts = some z → ∀ y ∈ z.1, ∀ x ∈ f y, ect x ≤ M
 | 0, ts, z, _, hz => by rw [listG] at hz; injection hz with hz; subst hz; intro y hy; cases hy
 | n + 1, ts, z, hM, hz => by
   rw [listG] at hz
   split at hz
   · rename_i hi
     obtain ⟨w, h1, h2⟩ := bnd hz
     obtain ⟨y, h3, rfl⟩ := mpd h2
     have h4 := (Zy hi).2
     have h5 := (hd _ _ h1).length_le
     intro v hv
     rcases List.mem_cons.1 hv with rfl | hv
     · exact h _ _ qM h1
     · exact ZdY hd h n _ _ qM h3 v hv
   · injection hz with hz; subst hz; intro y hy; cases hy
theorem Z7W {α : Type} {f : α → List Ex} {M : Nat} {p : Ps α} {most : Nat} (hd : Dn0 p) (h : Pb f M p) {ts : List T3} {z : List α × List T3} (hM : ts.length ≤ M) (hz : listP most p ts = some z) : ∀ y ∈ z.1, ∀ x ∈ f y, ect x ≤ M := by
 obtain ⟨w, h1, h2⟩ := bnd hz
 obtain ⟨y, h3, h4⟩ := bnd h2
 have h5 := (hd _ _ h1).length_le
 split at h4
 · injection h4 with h4; subst h4
   intro v hv
   rcases List.mem_cons.1 hv with rfl | hv
   · exact h _ _ hM h1
   · exact ZdY hd h _ _ _ qM h3 v hv
 · cases h4
theorem leM {a b : List T3} {M : Nat} (h : a <:+ b) (hM : b.length ≤ M) : a.length ≤ M := Nat.le_trans h.length_le hM
section
variable {e : Ps Ex} (hd : Dn e) (he : Hb e) {M : Nat}
include he
theorem e_b : Pb (fun x => [x]) M e := fun ts z hM h x hx => by
 rw [List.mem_singleton.1 hx]
 have := he _ _ h; omega
theorem Zaj {ts : List T3} {z : List Ex × List T3} (hM : ts.length ≤ M) (h : whereP e ts = some z) : ∀ x ∈ z.1, ect x ≤ M := by
 unfold whereP at h
 split at h
 · rename_i hi
   obtain ⟨v, h5, rfl⟩ := mpd h
   intro x hx
   rw [List.mem_singleton.1 hx]
   have := he _ _ h5
   have := (Zy hi).2
   omega
 · injection h with h; subst h; intro x hx; cases hx
include hd
theorem Zeo {most : Nat} {ts : List T3} {z : List Ex × List T3} (hM : ts.length ≤ M) (h : listP most e ts = some z) : ∀ x ∈ z.1, ect x ≤ M := fun x hx => Z7W hd.le (e_b he) hM h x hx x List.mem_cons_self
theorem Zh8 : Pb (fun l => l) M (withinP e) := fun ts z hM h => by
 obtain ⟨a, h1, h2⟩ := bnd h
 obtain ⟨l, h3, h4⟩ := bnd h2
 obtain ⟨v, h5, rfl⟩ := mpd h4
 exact Zeo (z := l) hd he (leM (Za _ _ _ _ h1).1 hM) h3
theorem Zcy : ∀ n ts z, ts.length ≤ M → joinsG e n ts = some z → ∀ s ∈ z.1, ∀ x ∈ s.on, ect x ≤ M
 | 0, ts, z, _, hz => by rw [joinsG] at hz; injection hz with hz; subst hz; intro y hy; cases hy
 | n + 1, ts, z, hM, hz => by
   rw [joinsG] at hz
   split at hz
   · obtain ⟨w, h1, h2⟩ := bnd hz
     obtain ⟨y, h3, rfl⟩ := mpd h2
     have h4 := (Z4L hd _ _ h1).1
     have h5 := Z3q 1 Z19 ts
     intro v hv
     rcases List.mem_cons.1 hv with rfl | hv
     · obtain ⟨a, g1, g2⟩ := bnd h1
       obtain ⟨s, g3, g4⟩ := bnd g2
       obtain ⟨b, g5, g6⟩ := bnd g4
       obtain ⟨x, g7, g8⟩ := mpd g6
       subst g8
       have h6 : b.2.length ≤ M := leM ((Za _ _ _ _ g5).1.trans ((Z3n _ _ g3).1.trans ((Za _ _ _ _ g1).1.trans h5))) hM
       intro y hy
       rw [List.mem_singleton.1 hy]
       have := he _ _ g7; omega
     · exact Zcy n _ _ (leM (h4.trans h5) hM) h3 v hv
   · injection hz with hz; subst hz; intro y hy; cases hy
theorem Zey {ts : List T3} {z : St × List T3} (hM : ts.length ≤ M) (h : stmtP e ts = some z) : ∀ x ∈ exsOf z.1, ect x ≤ M := by
 unfold stmtP at h
 obtain ⟨w, h1, h⟩ := bnd h
 have hw : w.2.length ≤ M := leM (ZN 1 _ _ h1).1 hM
 split at h
 · unfold createP at h
   split at h
   · obtain ⟨n, _, h⟩ := bnd h
     obtain ⟨c, _, rfl⟩ := mpd h
     intro x hx; simp [exsOf, stK] at hx
   · obtain ⟨_, _, h⟩ := bnd h
     obtain ⟨_, _, h⟩ := bnd h
     obtain ⟨_, _, h⟩ := bnd h
     obtain ⟨_, _, h⟩ := bnd h
     obtain ⟨_, _, h⟩ := bnd h
     obtain ⟨_, _, h⟩ := bnd h
     obtain ⟨_, _, h⟩ := bnd h
     split at h
     · obtain ⟨v, _, rfl⟩ := mpd h
       intro x hx; simp [exsOf, stK] at hx
     · injection h with h; subst h
       intro x hx; simp [exsOf, stK] at hx
 split at h
 · obtain ⟨a, g1, h⟩ := bnd h
   obtain ⟨n, g2, h⟩ := bnd h
   have h3 : n.2.length ≤ M := leM ((ZA _ _ g2).1.trans (Za _ _ _ _ g1).1) hw
   have rows : ∀ tb ns us z, us.length ≤ M → insRows e tb ns us = some z → ∀ x ∈ exsOf z.1, ect x ≤ M := fun tb ns us z hu h => by
     obtain ⟨a, k1, h⟩ := bnd h
     obtain ⟨r, k2, rfl⟩ := mpd h
     have := Z7W (Z2A hd.le).le (Zh8 hd he) (leM (Za _ _ _ _ k1).1 hu) k2
     intro x hx
     simp [exsOf, stK] at hx
     obtain ⟨l, hl, hx⟩ := hx
     exact this l hl x hx
   split at h
   · obtain ⟨l, g3, h⟩ := bnd h
     exact rows _ _ _ _ (leM (Z2A ZA.le _ _ g3).1 h3) h
   · exact rows _ _ _ _ h3 h
 split at h
 · obtain ⟨i, g1, h⟩ := bnd h
   obtain ⟨a, g2, h⟩ := bnd h
   obtain ⟨s, g3, h⟩ := bnd h
   obtain ⟨j, g4, h⟩ := bnd h
   have hi : Pb (fun i : Itm => [i.ex]) M (itemP e) := fun us z hu h => by
     unfold itemP at h
     split at h
     · injection h with h; subst h
       intro x hx
       rename_i ht
       rw [List.mem_singleton.1 hx]
       have := (Zy ht).2
       show ect (.mk 0 0 0 em em em 0 []) ≤ M
       rw [Z3R]; omega
     · obtain ⟨v, h5, rfl⟩ := mpd h
       intro x hx
       rw [List.mem_singleton.1 hx]
       have := he _ _ h5
       dsimp only; omega
   have hk : Pb (fun k : Ky => [k.ex]) M (keyP e) := fun us z hu h => by
     obtain ⟨v, h5, h6⟩ := mpd h
     have := he _ _ h5
     split at h6 <;> subst h6 <;> intro x hx <;> rw [List.mem_singleton.1 hx] <;> dsimp only <;> omega
   have b1 := Z7W (Z4N hd).le hi hw g1
   have m1 := leM (Z2p (Z4N hd).le 16 _ _ g1) hw
   have m2 := leM (Za _ _ _ _ g2).1 m1
   have m3 := leM (Z3n _ _ g3).1 m2
   have b2 := Zcy hd he _ _ _ m3 g4
   split at h
   · obtain ⟨w2, k1, h⟩ := bnd h
     obtain ⟨g, k2, h⟩ := bnd h
     obtain ⟨o, k3, h⟩ := bnd h
     obtain ⟨l, k4, rfl⟩ := mpd h
     have m4 : j.2.length ≤ M := by
       have : ∀ n us z, joinsG e n us = some z → z.2 <:+ us := fun n => by
         induction n with
         | zero => intro us z h; rw [joinsG] at h; injection h with h; subst h; exact List.suffix_refl us
         | succ n ih =>
           intro us z h
           rw [joinsG] at h
           split at h
           · obtain ⟨w, h1, h2⟩ := bnd h
             obtain ⟨y, h3, rfl⟩ := mpd h2
             exact (ih _ _ h3).trans ((Z4L hd _ _ h1).1.trans (Z3q _ _ _))
           · injection h with h; subst h; exact List.suffix_refl us
       exact leM (this _ _ _ g4) m3
     have b3 := Zaj he m4 k1
     have m5 : w2.2.length ≤ M := by
       unfold whereP at k1
       split at k1
       · rename_i ht
         obtain ⟨v, h5, rfl⟩ := mpd k1
         exact leM ((hd _ _ h5).1.trans (Zy ht).1) m4
       · injection k1 with k1; subst k1; exact m4
     have b4 : ∀ x ∈ g.1, ect x ≤ M ∧ True := fun x hx => by
       unfold groupP at k2
       split at k2
       · rename_i ht
         obtain ⟨a, q1, q2⟩ := bnd k2
         exact ⟨Zeo hd he (leM ((Za _ _ _ _ q1).1.trans (Zy ht).1) m5) q2 x hx, trivial⟩
       · injection k2 with k2; subst k2; cases hx
     have m6 : g.2.length ≤ M := by
       unfold groupP at k2
       split at k2
       · rename_i ht
         obtain ⟨a, q1, q2⟩ := bnd k2
         exact leM ((Z2p hd.le 16 _ _ q2).trans ((Za _ _ _ _ q1).1.trans (Zy ht).1)) m5
       · injection k2 with k2; subst k2; exact m5
     have b5 : ∀ k ∈ o.1, ect k.ex ≤ M := fun k hx => by
       unfold orderP at k3
       split at k3
       · rename_i ht
         obtain ⟨a, q1, q2⟩ := bnd k3
         exact Z7W (Z4U hd).le hk (leM ((Za _ _ _ _ q1).1.trans (Zy ht).1) m6) q2 k hx _ List.mem_cons_self
       · injection k3 with k3; subst k3; cases hx
     have hs : s.1.on = [] := by
       unfold sourceP at g3
       obtain ⟨n, _, g3⟩ := bnd g3
       split at g3
       · obtain ⟨m, _, rfl⟩ := mpd g3; rfl
       split at g3
       · obtain ⟨m, _, rfl⟩ := mpd g3; rfl
       · injection g3 with g3; subst g3; rfl
     intro x hx
     simp [exsOf, stK, hs] at hx
     rcases hx with ⟨a, ha, rfl⟩ | ⟨_, ⟨a, ha, rfl⟩, hx⟩ | ⟨a, ha, rfl⟩ | hx | hx
     · exact b1 a ha _ List.mem_cons_self
     · exact b2 a ha x hx
     · exact b5 a ha
     · exact b3 x hx
     · exact (b4 x hx).1
   · cases h
 split at h
 · obtain ⟨n, g1, h⟩ := bnd h
   obtain ⟨a, g2, h⟩ := bnd h
   obtain ⟨l, g3, h⟩ := bnd h
   obtain ⟨w2, g4, rfl⟩ := mpd h
   have hs : Pb (fun k : ByteArray × Ex => [k.2]) M (setP e) := fun us z hu h => by
     obtain ⟨a, h1, h2⟩ := bnd h
     obtain ⟨l, h3, h4⟩ := bnd h2
     obtain ⟨v, h5, rfl⟩ := mpd h4
     intro x hx
     rw [List.mem_singleton.1 hx]
     have := he _ _ h5
     have := (Za _ _ _ _ h3).2
     have := (ZA _ _ h1).2
     dsimp only; omega
   have m1 := leM ((Za _ _ _ _ g2).1.trans (ZA _ _ g1).1) hw
   have b1 := Z7W (Z5N hd).le hs m1 g3
   have b2 := Zaj he (leM (Z2p (Z5N hd).le 16 _ _ g3) m1) g4
   intro x hx
   simp [exsOf, stK] at hx
   rcases hx with hx | ⟨a, ha⟩
   · exact b2 x hx
   · exact b1 _ ha _ List.mem_cons_self
 split at h
 · obtain ⟨a, g1, h⟩ := bnd h
   obtain ⟨n, g2, h⟩ := bnd h
   obtain ⟨w2, g3, rfl⟩ := mpd h
   have b2 := Zaj he (leM ((ZA _ _ g2).1.trans (Za _ _ _ _ g1).1) hw) g3
   intro x hx
   simp [exsOf, stK] at hx
   exact b2 x hx
 split at h
 · injection h with h; subst h; intro x hx; simp [exsOf, stK] at hx
 split at h
 · injection h with h; subst h; intro x hx; simp [exsOf, stK] at hx
 split at h
 · injection h with h; subst h; intro x hx; simp [exsOf, stK] at hx
 · cases h
end
end Go.Pz
set_option maxRecDepth 20000
namespace Go.Proofs.YtbedigkncjbggaaGreatDoor
open Go Go.Vc Go.Pz
theorem Z4o (x : Ex) : 1 ≤ ect x := by rw [Z2B]; omega
theorem ect1 {k : Int} {y : Ex} : ect (nd k [y]) = ect y + 1 := by rw [Z2B]; show ects [y] + 1 = _; rw [ects, ects]
theorem ect2 {k : Int} {y z : Ex} : ect (nd k [y, z]) = ect y + ect z + 1 := by rw [Z2B]; show ects [y, z] + 1 = _; rw [ects, ects, ects]; omega
theorem Z5Q (x : Ex) : (prO x).length ≤ (prE x).length + 2 := by
 unfold prO parS
 split
 · simp
 · omega
theorem Z1F {s : ByteArray} (h : nmOk s) : (tx s).length ≤ 2048 := by
 have := h.2
 rw [← Z1k] at this
 exact this
theorem Zfy (q : Int) : (opS q).length ≤ 3 := by
 unfold opS binT
 cases h : binO.find? (fun o => o.2.2 == q) with
 | none => decide
 | some o =>
   have hm := List.mem_of_find?_eq_some h
   have : ∀ o ∈ binO, (tx o.2.1).length ≤ 3 := by decide
   exact this o hm
theorem Zff (q : Int) : (tx (aggW q)).length ≤ 5 := by
 unfold aggW
 repeat' split
 all_goals decide
theorem Zfu {x : Ex} (h : Wf nmOk x) : (prE x).length ≤ 5000 * ect x := by
 induction h with
 | @num n h0 h1 =>
   have h2 := Z4o (lit 1 n em)
   have h3 := Zd7 h0 h1
   have e : prE (lit 1 n em) = Lib.itoa n := Zej
   rw [e]; omega
 | @txt s h =>
   have h2 := Z4o (lit 3 0 s)
   have e : prE (lit 3 0 s) = showT ⟨4, s, 0⟩ := Zel h
   have h6 : (dblQ s.data.toList).length ≤ _ := Zaw 39 (new := [39, 39]) qD s.data.toList
   rw [Z1k] at h6
   rw [e]
   show (39 :: (dblQ s.data.toList ++ [39])).length ≤ _
   simp only [List.length_cons, List.length_append, List.length_nil]
   omega
 | tru => rw [show prE (lit 2 1 em) = tx Z7G from ZdX]; have := Z4o (lit 2 1 em); have : (tx Z7G).length = 4 := rfl; omega
 | fls => rw [show prE (lit 2 0 em) = tx Z6r from Zec]; have := Z4o (lit 2 0 em); have : (tx Z6r).length = 5 := rfl; omega
 | nul => rw [show prE (lit 0 0 em) = tx Z2b from Zek]; have := Z4o (lit 0 0 em); have : (tx Z2b).length = 4 := rfl; omega
 | @col s h => have h1 := Z1F h; have := Z4o (.mk 2 0 0 em em s 0 []); show (tx s).length ≤ _; omega
 | @tcol t s ht h =>
   have h1 := Z1F h
   have h2 := Z1F ht
   have h3 := Z4o (.mk 2 0 0 em t s 0 [])
   have e : prE (.mk 2 0 0 em t s 0 []) = tx t ++ 46 :: tx s := by
     show (if sq t em = true then _ else _) = _
     rw [if_neg (by rw [Zcp t ht]; simp)]
   rw [e, List.length_append, List.length_cons]; omega
 | @neg x h ih => have := Z5Q x; rw [ect1]; show (45 :: prO x).length ≤ _; rw [List.length_cons]; omega
 | @not x h ih => have := Z5Q x; rw [ect1]; show ([78, 79, 84] ++ 32 :: prO x).length ≤ _; simp only [List.length_append, List.length_cons, List.length_nil]; omega
 | @isn x h ih => have := Z5Q x; rw [ect1]; show (prO x ++ [32, 73, 83, 32, 78, 85, 76, 76]).length ≤ _; simp only [List.length_append, List.length_cons, List.length_nil]; omega
 | @iss x h ih => have := Z5Q x; rw [ect1]; show (prO x ++ [32, 73, 83, 32, 78, 79, 84, 32, 78, 85, 76, 76]).length ≤ _; simp only [List.length_append, List.length_cons, List.length_nil]; omega
 | @bin q x y h5 h17 hx hy ihx ihy =>
   have h1 := Z5Q x
   have h2 := Z5Q y
   have h3 := Zfy q
   rw [ect2, Ze6 h5 h17]
   simp only [List.length_append, List.length_cons]; omega
 | cnt => have := Z4o (nd 20 []); show [67, 79, 85, 78, 84, 40, 42, 41].length ≤ _; simp only [List.length_cons, List.length_nil]; omega
 | @agg q x h0 h1 hx ih =>
   have h3 := Zff q
   rw [ect1, Ze8 h0 h1]
   simp only [List.length_append, List.length_cons, List.length_nil]; omega
def opK (x : Ex) (i : Nat) : List UInt8 := (x.KS.map prO).getD i []
theorem Zby : ∀ xs : List Ex, prEs xs = xs.map fun x => (prE x, prO x)
 | [] => rfl
 | x :: xs => by rw [prEs, Zby xs]; rfl
theorem ZjX (x : Ex) : hd0 (prEs x.KS) = opK x 0 ∧ hd1 (prEs x.KS) = opK x 1 := by
 rw [Zby]
 unfold opK
 cases x.KS with
 | nil => exact ⟨rfl, rfl⟩
 | cons y l => cases l with
  | nil => exact ⟨rfl, rfl⟩
  | cons z l => exact ⟨rfl, rfl⟩
theorem Zje (x : Ex) : prE x =
   if x.K == 1 then litS x.VK x.VN x.VS
   else if x.K == 2 then (if sq x.TB em then tx x.NM else tx x.TB ++ 46 :: tx x.NM)
   else if x.K == 3 then 45 :: opK x 0
   else if x.K == 4 then [78, 79, 84] ++ 32 :: opK x 0
   else if x.K == 18 then opK x 0 ++ [32, 73, 83, 32, 78, 85, 76, 76]
   else if x.K == 19 then opK x 0 ++ [32, 73, 83, 32, 78, 79, 84, 32, 78, 85, 76, 76]
   else if decide (20 ≤ x.K) && decide (x.K ≤ 23) then tx (aggW x.K) ++ 40 :: ((match x.KS with | [] => [42] | y :: _ => prE y) ++ [41])
   else if decide (x.K < 5) || decide (17 < x.K) then [63]
   else opK x 0 ++ 32 :: (opS x.K ++ 32 :: opK x 1) := by
 obtain ⟨h0, h1⟩ := ZjX x
 rw [← h0, ← h1]
 cases x with
 | mk k vk vn vs tb nm sl kids =>
   show prE _ = if k == 1 then _ else _
   conv => lhs; unfold prE
   cases kids with
   | nil => rfl
   | cons y l => simp only [Zby]; rfl
theorem Z9M {nk : ByteArray → Prop} {x : Ex} (h : Wf nk x) : ∀ y ∈ x.KS, Wf nk y := by
 cases h <;> intro z hz <;> simp only [Ex.KS, List.mem_cons, List.mem_nil_iff, or_false] at hz
 all_goals first|exact hz.elim|(subst hz; assumption)|(rcases hz with rfl|rfl <;> assumption)
theorem ZiY {nk : ByteArray → Prop} {x : Ex} (h : Wf nk x) : x.KS.length ≤ 2 := by
 cases h <;> simp [Ex.KS]
theorem ZjG {nk : ByteArray → Prop} {x : Ex} (h : Wf nk x) : -9223372036854775808 ≤ x.VN ∧ x.VN ≤ 9223372036854775807 := by
 cases h <;> simp only [Ex.VN] <;> omega
theorem ZjO {x : Ex} (h : Wf nmOk x) : (tx x.TB).length ≤ 2048 ∧ (tx x.NM).length ≤ 2048 := by
 cases h <;> simp only [Ex.TB, Ex.NM] <;> first|exact ⟨by decide, by decide⟩|exact ⟨by decide, Z1F ‹_›⟩|exact ⟨Z1F ‹nmOk _›, Z1F ‹nmOk _›⟩ | skip
 all_goals exact ⟨Z1F qN, Z1F qN⟩
theorem Ze4 {x : Ex} (h : Wf nmOk x) (hx : ect x ≤ 4096) (i : Nat) : (opK x i).length ≤ 20500000 := by
 unfold opK
 rw [List.getD_eq_getElem?_getD, List.getElem?_map]
 cases hi : x.KS[i]? with
 | none => exact Nat.zero_le _
 | some y =>
   have hm := List.mem_of_getElem? hi
   have h1 := Zfu (Z9M h y hm)
   have h2 := Z5Q y
   have h3 := Z3V hm
   rw [Z2B] at hx
   show (prO y).length ≤ _
   omega
theorem Z7Y {x : Ex} (h : Wf nmOk x) (hx : ect x ≤ 4096) : (prE x).length ≤ 20500000 := by
 have := Zfu h
 omega
end Go.Proofs.YtbedigkncjbggaaGreatDoor
namespace Go.Proofs.YtbedigkncjbggaaGreatDoor
open Go Go.Vc Go.Pz
structure Tk where
 ts : List T3
 bb : Nat
 o : Nat
 cap : Nat
variable (T : Tk)
abbrev Tk.k (ts : List T3) : Nat := T.ts.length - ts.length
def Tk.j (ts : List T3) : Nat := if T.k ts = T.cap then T.k ts - 1 else T.k ts
abbrev Tk.G : World → Prop := RowG T3.cells 3 T.ts (some ⟨T.bb, T.o, none⟩) T.ts.length
abbrev Tk.sl (ts : List T3) : Value := .slice (some ⟨T.bb, T.o + 3 * T.j ts, none⟩) ts.length (T.cap - T.k ts)
abbrev PB (b : Nat) (ts : List T3) : Own := ⟨b, Z2N, .is (.agg #[T.sl ts])⟩
variable {T}
theorem Tk.j_eq {ts : List T3} (hc : T.ts.length ≤ T.cap) (hs : ts <:+ T.ts) (h : ts ≠ []) : T.j ts = T.k ts := by
 have := hs.length_le
 have : 0 < ts.length := List.length_pos_iff.2 h
 unfold Tk.j
 rw [if_neg (by show ¬ (T.ts.length - ts.length = T.cap); omega)]
theorem Tk.head {ts : List T3} (hs : ts <:+ T.ts) (h : ts ≠ []) : T.ts[T.k ts]? = some (ts.headD t3D) := by
 obtain ⟨us, e⟩ := hs
 cases ts with
 | nil => exact absurd rfl h
 | cons t r =>
   show T.ts[T.ts.length - (t :: r).length]? = some t
   rw [← e]; simp
theorem Tk.tail {ts : List T3} (hc : T.ts.length ≤ T.cap) (hs : ts <:+ T.ts) (h : ts ≠ []) : (Value.slice (adS (some ⟨T.bb, T.o + 3 * T.j ts, none⟩) 1 (T.cap - T.k ts) 3) (ts.length - 1) (T.cap - T.k ts - 1)) = T.sl ts.tail := by
 have h1 := hs.length_le
 have h2 : 0 < ts.length := List.length_pos_iff.2 h
 have h3 : ts.tail.length = ts.length - 1 := by simp
 rw [Tk.j_eq hc hs h]
 have h4 : T.k ts.tail = T.k ts + 1 := by unfold Tk.k; omega
 have h5 : T.j ts.tail = if T.cap - T.k ts = 1 then T.k ts else T.k ts + 1 := by
   unfold Tk.j
   rw [h4]
   by_cases hq : T.cap - T.k ts = 1
   · rw [if_pos hq, if_pos (by unfold Tk.k at *; omega)]; omega
   · rw [if_neg hq, if_neg (by unfold Tk.k at *; omega)]
 unfold Tk.sl
 rw [h5, h4, h3]
 by_cases hq : T.cap - T.k ts = 1
 · rw [if_pos hq]; unfold adS; rw [if_pos hq]; rfl
 · rw [if_neg hq]; unfold adS; rw [if_neg hq, Option.map_some, Z4j]
   congr 1
end Go.Proofs.YtbedigkncjbggaaGreatDoor
set_option maxRecDepth 20000
namespace Go.Proofs.YtbedigkncjbggaaGreatDoor
open Go Go.Vc
open Go.Pz
theorem Z7V {ts : List T3} (h : ((ts.length : Int) == 0) = false) : ts ≠ [] := fun e => by subst e; cases h
theorem Z2K {ts : List T3} (h : ts ≠ []) : (0 : Int) < ts.length := by have := List.length_pos_iff.2 h; omega
theorem Zf1 {a b : Bool} (h : (a || b) = false) : a = false := by cases a <;> simp_all
theorem Zdr (k : Int) (s : ByteArray) (ts : List T3) : (((((ts.length : Nat) : Int) == 0) ||((ts.headD t3D).k != k)) || !(seq (ts.headD t3D).t s)) = !(isT k s ts) := by
 cases ts with
 | nil => rfl
 | cons t r =>
   rw [Z2F]
   have : ((((t :: r).length : Nat) : Int) == 0) = false := by rw [beq_eq_false_iff_ne]; simp; omega
   rw [this, Bool.false_or]
   show ((!(t.k == k)) || !(sq t.t s)) = !((t.k == k) && sq t.t s)
   rw [← Bool.not_and]
abbrev flt : List PanicEntry := [{ v := .iface Z7S (.agg #[]), recovered := false }]
theorem ZcC {k : Int} {s : ByteArray} {ts : List T3} (h : isT k s ts = true) : ts ≠ [] := fun e => by subst e; cases h
theorem Z3x (T : Tk) (hc : T.ts.length ≤ T.cap) (b : Nat) (ts : List T3) (hts : ts <:+ T.ts) (kd : Int) (s : ByteArray) : CallL Tryz.prog Z7K [PB T b ts] [T.G] [.is (.pointer (some ⟨b, 0, none⟩)), .is (.int .i64 kd), .is (.string s)] (fun _ : Unit => True) (fun _ => [PB T b (skT kd s ts)]) (fun _ => .is (.bool (isT kd s ts))) :=
CallL.of (fn := Tryz.f65) Tryz.func65 (n := 43) rfl rfl rfl (fun _ _ => by kernel_rfl) fun E W hb0 => by
 refine vQ ?_
 refine Ja rfl ?_
 refine vS [0, 1, 2] ?_
 refine J.reg0 hmx qK qK ?_
 refine yz (Z2 rfl) ?_
 refine yz (Z5 rfl) ?_
 refine yz (Z0 Zl rfl) ?_
 refine yz (Z1 Zx rfl rfl) ?_
 refine yz (Zn Z13 rfl) ?_
 refine yz (ZK rfl rfl) ?_
 refine yz (Z2 rfl) ?_
 refine yg rfl rfl rfl (fun hg => Z2 (.inl rfl)) ?_
 refine yg rfl rfl rfl (fun hg => Z5 (qR rfl)) ?_
 refine yg rfl rfl rfl (fun hg => Z0 Zl (qR rfl)) ?_
 refine yg rfl rfl rfl (fun hg => Z1 Zx (qR rfl) rfl) ?_
 refine yg rfl rfl rfl (fun hg => Z7 Z12 (qR rfl) rfl (.inl rfl) qM (Z2K (Z7V hg))) ?_
 refine yg rfl rfl rfl (fun hg => Z0 Z35 (qR rfl)) ?_
 refine yg rfl rfl rfl (fun hg => ZH (enc := T3.cells) (sz := 3) (i := T.k ts) (j := 0) (y := ts.headD t3D) (u := .int .i64 (ts.headD t3D).k) Zt (qR rfl) qI rfl (Tk.head hts (Z7V hg)) (by rw [Tk.j_eq hc hts (Z7V hg)]; omega) rfl) ?_
 refine yg rfl rfl rfl (fun hg => Z2 (.inl rfl)) ?_
 refine yg rfl rfl rfl (fun hg => Z24 (qR rfl) (qR rfl)) ?_
 refine yz (ZT rfl rfl rfl id) ?_
 refine yz (Z2 rfl) ?_
 refine yg rfl rfl rfl (fun hg => Z2 (.inl rfl)) ?_
 refine yg rfl rfl rfl (fun hg => Z5 (qR rfl)) ?_
 refine yg rfl rfl rfl (fun hg => Z0 Zl (qR rfl)) ?_
 refine yg rfl rfl rfl (fun hg => Z1 Zx (qR rfl) rfl) ?_
 refine yg rfl rfl rfl (fun hg => Z7 Z12 (qR rfl) rfl (.inl rfl) qM (Z2K (Z7V (Zf1 hg)))) ?_
 refine yg rfl rfl rfl (fun hg => Z0 Z5O (qR rfl)) ?_
 refine yg rfl rfl rfl (fun hg => ZH (enc := T3.cells) (sz := 3) (i := T.k ts) (j := 1) (y := ts.headD t3D) (u := .string (ts.headD t3D).t) Z8 (qR rfl) qI rfl (Tk.head hts (Z7V (Zf1 hg))) (by rw [Tk.j_eq hc hts (Z7V (Zf1 hg))]; omega) rfl) ?_
 refine yg rfl rfl rfl (fun hg => Z2 (.inl rfl)) ?_
 refine yg rfl rfl rfl (fun hg => Z33 (qR rfl) (qR rfl)) ?_
 refine yz (ZT rfl rfl rfl id) ?_
 apply yn
 refine FinS.nil0 ?_
 refine vS [0, 34] ?_
 refine yC rfl (fun ht34 => ?_) (fun ht34 => ?_)
 try simp only [yd, yf] at ht34
 have hT : isT kd s ts = false := by rw [Zdr] at ht34; simpa using ht34
 rw [show skT kd s ts = ts by unfold skT; rw [hT]; rfl]
 refine vQ ?_
 refine Ja rfl ?_
 refine vS [6] ?_
 refine vR ?_
 exact JX.retL1 rfl () trivial (.refl _) rfl rfl hb0 rfl (Sub.isEq (by rw [hT]))
 try simp only [yd, yf] at ht34
 apply yK
 repeat first|apply yX|apply yB
 have hT : isT kd s ts = true := by rw [Zdr] at ht34; simpa using ht34
 rw [show skT kd s ts = ts.tail by unfold skT; rw [hT]; rfl]
 refine vQ ?_
 refine Jm rfl (Jm rfl (Jq (Z5 rfl) ?_))
 refine Jq (Z0 Zl rfl) ?_
 refine Jq (Z1 Zx rfl rfl) ?_
 refine Jq (Z6j Z13 Z12 rfl rfl qM (by have := Z2K (ZcC hT); omega)) ?_
 refine Jq (Z5 rfl) ?_
 refine Jq (Z0 Zl rfl) ?_
 refine JO.m (Zk (cs' := [_]) rfl rfl qU rfl rfl rfl rfl Z46) (by rfl) ?_
 apply yI
 repeat first|apply yX|apply yB
 refine yL [] .nil ?_
 refine vQ ?_
 refine Ja rfl ?_
 refine vS [6] ?_
 refine vR ?_
 refine JX.retL1 (Lr := []) rfl () trivial (.of_eq ?_) rfl rfl hb0 rfl (Sub.isEq (by rw [hT]))
 exact congrArg (fun v => [Own.mk b Z2N (.is (.agg #[v]))]) (Tk.tail hc hts (ZcC hT))
theorem Ze (T : Tk) (hc : T.ts.length ≤ T.cap) (b : Nat) (ts : List T3) (hts : ts <:+ T.ts) (s : ByteArray) : CallL Tryz.prog Z83 [PB T b ts] [T.G] [.is (.pointer (some ⟨b, 0, none⟩)), .is (.string s)] (fun _ : Unit => True) (fun _ => [PB T b (skT 5 s ts)]) (fun _ => .is (.bool (isT 5 s ts))) :=
CallL.of (fn := Tryz.f27) Tryz.func27 (n := 8) rfl rfl rfl (fun _ _ => by kernel_rfl) fun E W hb0 => by
 refine vQ ?_
 refine Ja rfl ?_
 refine vP [0, 1] ?_
 refine Jm rfl (Jm rfl ?_)
 refine JO.callK (Lr := []) (Z3x T hc b ts hts 5 s) rfl (.refl _) (Z6L qI) qA ?_
 intro z hz
 try dsimp only
 refine Ja rfl ?_
 refine vS [4] ?_
 refine vR ?_
 exact JX.retL1 rfl () trivial (.refl _) rfl rfl hb0 rfl (Sub.refl _)
theorem Zi (T : Tk) (hc : T.ts.length ≤ T.cap) (b : Nat) (ts : List T3) (hts : ts <:+ T.ts) (s : ByteArray) : CallL Tryz.prog Z86 [PB T b ts] [T.G] [.is (.pointer (some ⟨b, 0, none⟩)), .is (.string s)] (fun _ : Unit => True) (fun _ => [PB T b (skT 1 s ts)]) (fun _ => .is (.bool (isT 1 s ts))) :=
CallL.of (fn := Tryz.f104) Tryz.func104 (n := 8) rfl rfl rfl (fun _ _ => by kernel_rfl) fun E W hb0 => by
 refine vQ ?_
 refine Ja rfl ?_
 refine vP [0, 1] ?_
 refine Jm rfl (Jm rfl ?_)
 refine JO.callK (Lr := []) (Z3x T hc b ts hts 1 s) rfl (.refl _) (Z6L qI) qA ?_
 intro z hz
 try dsimp only
 refine Ja rfl ?_
 refine vS [4] ?_
 refine vR ?_
 exact JX.retL1 rfl () trivial (.refl _) rfl rfl hb0 rfl (Sub.refl _)
theorem Zb (pv : Value) (x : Bool) : CallP Tryz.prog Z82 [] [] [.is pv, .is (.bool x)] (x = false) flt (fun _ : Unit => x = true) (fun _ => []) (fun _ => .is (.tuple #[])) :=
CallP.of (fn := Tryz.f28) Tryz.func28 (n := 8) rfl rfl rfl (fun _ _ => by kernel_rfl) fun E W hb0 => by
 refine vQ ?_
 refine Jm rfl (Jq (Z67 rfl) ?_)
 refine vS [5] ?_
 refine yC rfl (fun ht5 => ?_) (fun ht5 => ?_)
 try simp only [yd, yf] at ht5
 refine vQ ?_
 refine Jq (Zz (cs := []) Z84 .nil rfl rfl) ?_
 refine Jq (Zdk (d := .struct #[]) qK rfl rfl) ?_
 refine JO.pan rfl ?_
 exact JX.pnI (by simpa using ht5)
 try simp only [yd, yf] at ht5
 apply yK
 refine JX.normal_ret ?_
 refine JX.toP ?_
 exact JX.retL0 rfl () (by simpa using ht5) (Z1l _) rfl hb0 rfl
theorem Z9i {k : Int} {ts : List T3} (h : isK k ts = true) : ts ≠ [] := fun e => by subst e; cases h
theorem Z6R (k : Int) (ts : List T3) : (decide ((0 : Int) < ((ts.length : Nat) : Int)) && ((ts.headD t3D).k == k)) = isK k ts := by
 cases ts with
 | nil => rfl
 | cons t r => rw [decide_eq_true (show (0 : Int) < (((t :: r).length : Nat) : Int) by simp)]; rfl
theorem Zbb (k : Int) (ts : List T3) : takeP k ts = if isK k ts then some (ts.headD t3D, ts.tail) else none := by cases ts <;> rfl
theorem Z2W {ts : List T3} (h : decide ((0 : Int) < ((ts.length : Nat) : Int)) = true) : ts ≠ [] := fun e => by subst e; cases h
theorem Z1A (T : Tk) (hc : T.ts.length ≤ T.cap) (b : Nat) (ts : List T3) (hts : ts <:+ T.ts) (kd : Int) : CallP Tryz.prog Z7D [PB T b ts] [T.G] [.is (.pointer (some ⟨b, 0, none⟩)), .is (.int .i64 kd)] (takeP kd ts = none) flt (fun z : T3 × List T3 => takeP kd ts = some z) (fun z => [PB T b z.2]) (fun z => .is (tv z.1)) :=
CallP.of (fn := Tryz.f64) Tryz.func64 (n := 40) rfl rfl rfl (fun _ _ => by kernel_rfl) fun E W hb0 => by
 refine vQ ?_
 refine JO.alloc Z2H rfl fun b4 => ?_
 refine vS [0, 1, 4] ?_
 refine J.regS 18 hmx qK qK ?_
 refine yz (Z2 rfl) ?_
 refine yz (Z2 rfl) ?_
 refine yz (Z5 rfl) ?_
 refine yz (Z0 Zl rfl) ?_
 refine yz (Z1 Zx rfl rfl) ?_
 refine yz (Zn Z13 rfl) ?_
 refine yz (Z25 rfl rfl) ?_
 refine yz (Z2 rfl) ?_
 refine yg rfl rfl rfl (fun hg => Z2 (.inl rfl)) ?_
 refine yg rfl rfl rfl (fun hg => Z5 (qR rfl)) ?_
 refine yg rfl rfl rfl (fun hg => Z0 Zl (qR rfl)) ?_
 refine yg rfl rfl rfl (fun hg => Z1 Zx (qR rfl) rfl) ?_
 refine yg rfl rfl rfl (fun hg => Z7 Z12 (qR rfl) rfl (.inl rfl) qM (Z2K (Z2W hg))) ?_
 refine yg rfl rfl rfl (fun hg => Z0 Z35 (qR rfl)) ?_
 refine yg rfl rfl rfl (fun hg => ZH (enc := T3.cells) (sz := 3) (i := T.k ts) (j := 0) (y := ts.headD t3D) (u := .int .i64 (ts.headD t3D).k) Zt (qR rfl) qI rfl (Tk.head hts (Z2W hg)) (by rw [Tk.j_eq hc hts (Z2W hg)]; omega) rfl) ?_
 refine yg rfl rfl rfl (fun hg => Z2 (.inl rfl)) ?_
 refine yg rfl rfl rfl (fun hg => ZK (qR rfl) (qR rfl)) ?_
 refine yz (ZP rfl rfl rfl id) ?_
 apply yn
 refine FinS.tail0 ?_
 refine JO.callPK (Lr := _) (Zb (.pointer (some ⟨b, 0, none⟩)) _) rfl (Z1l _) Z16 qA (fun hbad => ?_) ?_
 · exact JX.pnI (by rw [Zbb, ← Z6R, hbad]; rfl)
 intro z hz
 have hK : isK kd ts = true := by rw [← Z6R]; exact hz
 refine vD ?_
 refine vP [0, 4] ?_
 refine Jm rfl (Jq (Z5 rfl) ?_)
 refine Jq (Z0 Zl rfl) ?_
 refine Jq (Z1 Zx rfl rfl) ?_
 refine Jq (Z7 Z12 rfl rfl rfl qM (Z2K (Z9i hK))) ?_
 refine Jq (Z2Q (enc := T3.cells) (sz := 3) (i := T.k ts) (y := ts.headD t3D) (cs := T3.cells (ts.headD t3D)) Z10 rfl qI rfl (Tk.head hts (Z9i hK)) (by rw [Tk.j_eq hc hts (Z9i hK)]; rfl) rfl) ?_
 refine JO.alloc Z2H rfl fun b5 => ?_
 refine JO.m (Z3 rfl rfl qU qC qO Z1h) (by rfl) ?_
 refine vP [0, 4, 5] ?_
 refine Jm rfl (Jm rfl (Jq (Z5 rfl) ?_))
 refine Jq (Z0 Zl rfl) ?_
 refine Jq (Z1 Zx rfl rfl) ?_
 refine Jq (Z6j Z13 Z12 rfl rfl qM (by have := Z2K (Z9i hK); omega)) ?_
 refine Jq (Z5 rfl) ?_
 refine Jq (Z0 Zl rfl) ?_
 refine JO.m (Zk (cs' := [_]) rfl rfl qU rfl rfl rfl rfl Z46) (by rfl) ?_
 refine vP [4, 5] ?_
 refine Jq (ZF (cs := [_, _, _]) Z10 rfl rfl rfl) ?_
 refine JO.m (Z3 rfl rfl qU qC qO Z1h) (by rfl) ?_
 refine vS [4] ?_
 refine vR ?_
 refine JX.toP ?_
 exact JX.retLC (Lr := [_, _]) (L1 := fun z : T3 × List T3 => [PB T b z.2]) (R := fun z => .is (tv z.1)) rfl (ts.headD t3D, ts.tail) (by rw [Zbb, hK]; rfl) (List.Perm.trans (List.perm_append_comm (l₁ := [_, _]) (l₂ := [_])) (.of_eq (congrArg (fun v => Own.mk b Z2N (.is (.agg #[v])) :: [_, _]) (Tk.tail hc hts (Z9i hK))))) rfl hb0 rfl Z10 HasOwn.mem rfl rfl
theorem ZJ (T : Tk) (hc : T.ts.length ≤ T.cap) (b : Nat) (ts : List T3) (hts : ts <:+ T.ts)  : CallP Tryz.prog Z4S [PB T b ts] [T.G] [.is (.pointer (some ⟨b, 0, none⟩))] (nameP ts = none) flt (fun z : ByteArray × List T3 => nameP ts = some z) (fun z => [PB T b z.2]) (fun z => .is (.string z.1)) :=
CallP.of (fn := Tryz.f105) Tryz.func105 (n := 6) rfl rfl rfl (fun _ _ => by kernel_rfl) fun E W hb0 => by
 refine vQ ?_
 refine Ja rfl ?_
 refine vP [0] ?_
 refine Jm rfl ?_
 refine JO.callPK (Lr := []) (Z1A T hc b ts hts 2) rfl (.refl _) (Z6L qI) qA (fun hbad => ?_) ?_
 · exact JX.pnI (by unfold nameP; rw [hbad]; rfl)
 intro z hz
 refine vD ?_
 refine Jq (Z4d (off := 1) qK rfl rfl) ?_
 refine Ja rfl ?_
 refine vS [2] ?_
 refine vR ?_
 refine JX.toP ?_
 exact JX.retL1 (L1 := fun z : ByteArray × List T3 => [PB T b z.2]) (R := fun z => .is (.string z.1)) rfl (z.1.t, z.2) (by unfold nameP; rw [hz]; rfl) (.refl _) rfl rfl hb0 rfl (Sub.refl _)
theorem Sub.leaf {L : List Own} {Φ : List (World → Prop)} {k vk vn : Int} {vs tb nm : ByteArray} {sl : Int} : Sub L Φ (.is (.agg (exCells k vk vn vs tb nm sl none 0 0).toArray)) (.rep (ExR (.mk k vk vn vs tb nm sl []))) := fun E v w hf e => by
 rw [show v = _ from e]
 exact fun w' _ => ZcJ
theorem Z2G (k : Int) (kids : List Ex) : CallTy Tryz.prog Zde [.is (.int .i64 k), .rep (ExsR kids)] (.rep (ExR (nd k kids))) :=
 CallTy.of (fn := Tryz.f164) Tryz.func164 (n := 8) rfl rfl rfl (fun _ _ => by kernel_rfl) fun E W => by
 refine J.openExs (s := 1) rfl (fun a len cap b0 o0 hl ha => ?_)
 refine vQ ?_
 refine JO.alloc ZZ rfl fun b4 => ?_
 refine vP [0, 1, 4] ?_
 refine Jm rfl (Jm rfl (Jq (Zz (cs := [_, _, _, _, _, _, _, _]) Z5R (.cons rfl (.cons rfl .nil)) rfl rfl) ?_))
 refine JO.m (Z3 rfl rfl qU qC qO Zo) (by rfl) ?_
 refine vS [4] ?_
 refine vR ?_
 exact JX.retCsub rfl rfl Z9 HasOwn.mem rfl rfl (Sub.exMk List.mem_cons_self)
theorem Z3p (vk vn : Int) (vs : ByteArray) : CallTy Tryz.prog ZaZ [.is (.agg #[.int .i64 vk, .int .i64 vn, .string vs])] (.rep (ExR (lit vk vn vs))) :=
 CallTy.of (fn := Tryz.f193) Tryz.func193 (n := 5) rfl rfl rfl (fun _ _ => by kernel_rfl) fun E W => by
 refine vQ ?_
 refine JO.box rfl rfl fun b1 => ?_
 refine JO.alloc ZZ rfl fun b2 => ?_
 refine vP [1, 2] ?_
 refine Jq (ZF (cs := [_, _, _]) Z4k rfl rfl rfl) ?_
 refine Jq (Zz (cs := [_, _, _, _, _, _, _, _]) Z5R (.cons rfl (.cons rfl .nil)) rfl rfl) ?_
 refine JO.m (Z3 rfl rfl qU qC qO Zo) (by rfl) ?_
 refine vS [2] ?_
 refine vR ?_
 exact JX.retCsub rfl rfl Z9 HasOwn.mem rfl rfl Sub.leaf
theorem ZbZ {e : Ps Ex} {ts : List T3} (h : isT 5 Z1d ts = true) : factorP e ts = (factorP e ts.tail).map fun z => (nd 3 [z.1], z.2) := by
 obtain ⟨t, r, rfl, _⟩ := Z4J h
 rw [factorP, if_pos h]; rfl
theorem ZbQ {e : Ps Ex} {ts : List T3} (h : isT 5 Z1d ts = false) : factorP e ts = atomP e ts := by
 cases ts with
 | nil => rw [factorP]
 | cons t r => rw [factorP, if_neg (by rw [h]; decide)]
theorem ZS {k : Int} {s : ByteArray} {ts : List T3} (h : isT k s ts = true) : skT k s ts = ts.tail := by unfold skT; rw [h]; rfl
theorem ZV {k : Int} {s : ByteArray} {ts : List T3} (h : isT k s ts = false) : skT k s ts = ts := by unfold skT; rw [h]; rfl
theorem Zm {ts us : List T3} (h : ts <:+ us) : ts.tail <:+ us := (List.tail_suffix ts).trans h
theorem Z5H (T : Tk) (hc : T.ts.length ≤ T.cap) (b : Nat) (ts : List T3) (hts : ts <:+ T.ts) (e : Ps Ex) (hat : CallP Tryz.prog Z2O [PB T b (ts)] [T.G, AF] [.is (.pointer (some ⟨b, 0, none⟩))] (atomP e (ts) = none) flt (fun z : Ex × List T3 => atomP e (ts) = some z) (fun z => [PB T b z.2]) (fun z => .rep (ExR z.1))) (ih : ∀ us, us <:+ T.ts → us.length < ts.length → CallP Tryz.prog Z1G [PB T b (us)] [T.G, AF] [.is (.pointer (some ⟨b, 0, none⟩))] (factorP e (us) = none) flt (fun z : Ex × List T3 => factorP e (us) = some z) (fun z => [PB T b z.2]) (fun z => .rep (ExR z.1))) : CallP Tryz.prog Z1G [PB T b ts] [T.G, AF] [.is (.pointer (some ⟨b, 0, none⟩))] (factorP e ts = none) flt (fun z : Ex × List T3 => factorP e ts = some z) (fun z => [PB T b z.2]) (fun z => .rep (ExR z.1)) :=
CallP.of (fn := Tryz.f191) Tryz.func191 (n := 11) rfl rfl rfl (fun _ _ => by kernel_rfl) fun E W hb0 => by
 refine vQ ?_
 refine JO.alloc ZZ rfl fun b2 => ?_
 refine vP [0, 2] ?_
 refine Jm rfl ?_
 refine JO.callK (Lr := [_]) (Ze T hc b ts hts Z1d) rfl (.swap _ _ _) qF qA ?_
 intro z hz
 refine vD ?_
 refine vS [0, 2, 4] ?_
 refine yC rfl (fun ht4 => ?_) (fun ht4 => ?_)
 try simp only [yd, yf] at ht4
 rw [ZS ht4]
 refine vQ ?_
 refine Jm rfl ?_
 refine JO.callPK (Lr := [_]) (ih ts.tail (Zm hts) (Zy ht4).2) rfl (.refl _) qF qA (fun hbad => ?_) ?_
 · exact JX.pnI (by rw [ZbZ ht4, hbad]; rfl)
 intro z hz
 refine vD ?_
 refine JO.openA (s := 6) rfl (fun a6 l6 q6 b6_ o6_ _ _ => ?_)
 refine Jq (ZE (cs := [_, _, _, _, _, _, _, _]) ZR qM qM (.cons rfl .nil) rfl rfl rfl) ?_
 refine JO.callK (Lr := [_, _]) ((Z2G 3 [z.1]).toL (L0 := []) (Φ0 := []) (Zp := fun _ : Unit => True) (L1 := fun _ => []) (R := fun _ => .rep (ExR (nd 3 [z.1]))) () trivial rfl (fun _ _ _ h => h)) rfl (Z1l _) Z16 (.one rfl (.sub rfl (Sub.newExs [XC.mk' (z.1) (z.1).K (z.1).VK (z.1).VN (z.1).VS (z.1).TB (z.1).NM (z.1).SL a6 l6 q6] rfl (fun p hp => by rw [List.mem_singleton] at hp; subst hp; (repeat first|exact yh|apply yx))) .nil)) ?_
 intro _ _
 refine vD ?_
 refine JO.m (Z3 rfl rfl qU qC qO Zo) (by rfl) ?_
 refine vS [2] ?_
 refine vR ?_
 refine JX.toP ?_
 exact JX.retLCs (Lr := [_]) (L1 := fun z : Ex × List T3 => [PB T b z.2]) (R := fun z => .rep (ExR z.1)) rfl (nd 3 [z.1], z.2) (by rw [ZbZ ht4, hz]; rfl) (.refl _) rfl rfl hb0 rfl Z9 HasOwn.mem Z1I (Sub.refl _)
 try simp only [yd, yf] at ht4
 apply yK
 repeat first|apply yX|apply yB
 rw [ZV ht4]
 refine vQ ?_
 refine Jm rfl ?_
 refine JO.callPK (Lr := [_]) (hat) rfl (.refl _) qF qA (fun hbad => ?_) ?_
 · exact JX.pnI (by rw [ZbQ ht4, hbad])
 intro z hz
 refine vD ?_
 refine JO.m (Z3 rfl rfl qU qC qO Zo) (by rfl) ?_
 refine vS [2] ?_
 refine vR ?_
 refine JX.toP ?_
 exact JX.retLCs (Lr := [_]) (L1 := fun z : Ex × List T3 => [PB T b z.2]) (R := fun z => .rep (ExR z.1)) rfl z (by rw [ZbQ ht4, hz]) (.refl _) rfl rfl hb0 rfl Z9 HasOwn.mem Z1I (Sub.refl _)
theorem Z4w (T : Tk) (hc : T.ts.length ≤ T.cap) (b : Nat) (e : Ps Ex) (N : Nat) (hat : ∀ ts, ts <:+ T.ts → ts.length ≤ N → CallP Tryz.prog Z2O [PB T b (ts)] [T.G, AF] [.is (.pointer (some ⟨b, 0, none⟩))] (atomP e (ts) = none) flt (fun z : Ex × List T3 => atomP e (ts) = some z) (fun z => [PB T b z.2]) (fun z => .rep (ExR z.1))) : ∀ n ts, ts <:+ T.ts → ts.length ≤ N → ts.length ≤ n → CallP Tryz.prog Z1G [PB T b (ts)] [T.G, AF] [.is (.pointer (some ⟨b, 0, none⟩))] (factorP e (ts) = none) flt (fun z : Ex × List T3 => factorP e (ts) = some z) (fun z => [PB T b z.2]) (fun z => .rep (ExR z.1))
 | n, ts, hts, hN, hn => Z5H T hc b ts hts e (hat ts hts hN) fun us hus hl => by
  cases n with
  | zero => omega
  | succ n => exact Z4w T hc b e N hat n us hus qM qM
theorem Zgx (s : ByteArray) (h : Lib.fields s.data.toList = [s.data.toList]) (hs : s.size < 4294967281) (ha : ∀ (j : Nat) (b : UInt8), s.data.toList[j]? = some b → b.toNat < 128) : CallF Tryz.prog Z6W [AF] [.is (.string s)] (.newSl (.cells ([Value.string s] : List Value).toArray 9 (0, 0)) 1 1) := by
 have h1 := Zam s hs ha
 rw [h] at h1
 have e : (⟨s.data.toList.toArray⟩ : ByteArray) = s := by rw [Array.toArray_toList]
 simp only [List.map_cons, List.map_nil, e] at h1
 exact h1
abbrev wd (i : Nat) (s : ByteArray) (ts : List T3) : List T3 := if i = 0 then ts else ts.tail
theorem Zq (T : Tk) (hc : T.ts.length ≤ T.cap) (b : Nat) (ts : List T3) (hts : ts <:+ T.ts) (s : ByteArray) (h : Lib.fields s.data.toList = [s.data.toList]) (hs : s.size < 4294967281) (ha : ∀ (j : Nat) (b : UInt8), s.data.toList[j]? = some b → b.toNat < 128) : CallP Tryz.prog Z7C [PB T b ts] [T.G, AF] [.is (.pointer (some ⟨b, 0, none⟩)), .is (.string s)] (wantP 1 s ts = none) flt (fun z : Unit × List T3 => wantP 1 s ts = some z) (fun z => [PB T b z.2]) (fun _ => .is (.tuple #[])) :=
CallP.of (fn := Tryz.f108) Tryz.func108 (n := 19) rfl rfl rfl (fun _ _ => by kernel_rfl) fun E W hb0 => by
 refine vQ ?_
 refine Jm rfl (Jq (ZC rfl (Zgx s h hs ha) (by simp) qA) ?_)
 refine JO.openNew (s := 7) rfl (fun r7 => ?_)
 refine Jq (Zn ZW rfl) ?_
 refine Jm rfl ?_
 refine vS [0, 7, 8, 9] ?_
 apply yk
 repeat apply yQ
 refine J.loopG (α := Nat) (fun i => [(0, .is (.pointer (some ⟨b, 0, none⟩))), (7, .is (.slice (some ⟨r7, 0, none⟩) 1 1)), (8, .is (.int .i64 1)), (9, .is (.int .i64 (i : Int)))]) (fun i => [PB T b (wd i s ts)]) (fun i => fun _ => True) (fun i => i ≤ 1 ∧ (i = 1 → isT 1 s ts = true)) (fun i => 1 - i) 0 [0, 7, 8, 9] (.cons rfl (.cons rfl (.cons rfl (.cons rfl .nil)))) rfl (fun _ => trivial) ⟨by omega, by omega⟩ fun i ⟨hi, hT⟩ => ?_
 try dsimp only
 try dsimp only at hi
 try dsimp only at hT
 refine vQ ?_
 refine Jq (ZU rfl rfl) ?_
 refine vS [0, 7, 8, 9, 10] ?_
 refine yC rfl (fun ht10 => ?_) (fun ht10 => ?_)
 try simp only [yd, yf] at ht10
 apply yK
 refine vN ?_
 apply yk
 obtain rfl : i = 0 := by omega
 rw [show wd 0 s ts = ts from rfl]
 refine vQ ?_
 refine Jq (Z7 Z1x rfl rfl rfl qM qM) ?_
 refine Jq (Z7M (cs := [Value.string s]) Z8 rfl qI rfl) ?_
 refine Ja rfl ?_
 refine vP [0, 5, 7, 8, 9] ?_
 refine Jm rfl (Jm rfl (Jm rfl ?_))
 refine JO.callK (Lr := []) (Zi T hc b ts hts s) rfl (.refl _) (Z6L qI) qA ?_
 intro z hz
 try dsimp only
 refine JO.callPK (Lr := _) (Zb (.pointer (some ⟨b, 0, none⟩)) (isT 1 s ts)) rfl (Z1l _) Z16 qA (fun hbad => ?_) ?_
 · exact JX.pnI (by unfold wantP; rw [hbad]; rfl)
 intro z hz
 refine vD ?_
 refine vS [0, 7, 8, 9] ?_
 rw [show skT 1 s ts = wd 1 s ts by unfold skT; rw [hz]; rfl]
 refine vQ ?_
 refine Jq (ZD (cc := 1) rfl rfl qM qM qM) ?_
 refine Jm rfl ?_
 apply yI
 repeat refine JX.normal_block ?_
 refine JX.roundG (x := 0) 1 ?_ ?_ [0, 7, 8, 9] ?_ ?_ ?_ ?_
 · exact ⟨by omega, fun _ => hz⟩
 · exact qM
 · exact qS
 · exact qH
 · exact qG
 · exact fun _ _ _ => fun _ _ => trivial
 try simp only [yd, yf] at ht10
 repeat apply yQ
 refine J.exit ?_
 repeat first|refine yH ?_|refine yM rfl ?_|refine yE ?_
 repeat first|apply yX|apply yB
 refine JX.normal_ret ?_
 refine JX.toP ?_
 obtain rfl : i = 1 := by omega
 exact JX.retL0 (L1 := fun z : Unit × List T3 => [PB T b z.2]) (R := fun _ => .is (.tuple #[])) rfl ((), ts.tail) (by unfold wantP; rw [hT rfl]; rfl) (.refl _) rfl hb0 rfl
end Go.Proofs.YtbedigkncjbggaaGreatDoor
