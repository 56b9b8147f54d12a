/- What the program reads of tokens: its grammar, in plain words. No condition. -/
import Derived.Test.YtbedigkncjbggaaGreatDoorXG3
namespace Go.Vc
open Go
abbrev yX := @JX.next
abbrev yB := @JX.normal_block
abbrev yP := @JX.ret_pass
abbrev yR := @JX.ret_block
abbrev yH := @JX.hit
abbrev yM := @JX.miss
abbrev yE := @JX.exit_pass
abbrev yQ := @J.seq
abbrev yN := @J.plain
abbrev yI := @JO.nil
abbrev yh := @List.mem_cons_self
abbrev yx := @List.mem_cons_of_mem
abbrev yc := @List.mem_cons
theorem yd {p : Prop} [Decidable p] : (decide p = true) = p := decide_eq_true_eq
theorem yf {p : Prop} [Decidable p] : (decide p = false) ↔ ¬ p := decide_eq_false_iff_not
theorem ya {α : Type _} {l : List α} : [] ++ l = l := rfl
theorem yb {α : Type _} {a : α} {l k : List α} : (a :: l) ++ k = a :: (l ++ k) := rfl
abbrev yU := @Upd.there
abbrev yi := @Z1e
abbrev ye := @Z6q
abbrev yo := @Z4B
abbrev yJ := @JO.t
abbrev yL := @J.sel
abbrev yC := @J.cond
abbrev yT := @J.ret
abbrev yK := @J.skip
abbrev yk := @J.block
abbrev yn := @RT.nil
abbrev yz := @RT.t
abbrev yg := @RT.g
end Go.Vc
namespace Go.Vc
open Go
theorem qF {p : Prop} (h : p := by intro F hF; repeat (first | (rcases yc.1 hF with rfl | hF; · (repeat first | exact yh | apply yx)) | (cases hF; done))) : p := h
theorem qI {p : Prop} (h : p := by repeat first | exact yh | apply yx) : p := h
theorem qU {p : Prop} (h : p := by repeat first | exact .here | apply yU) : p := h
theorem qC {p : Prop} (h : p := by first | exact yi rfl rfl | exact ye) : p := h
theorem qO {p : Prop} (h : p := by first | exact yi rfl rfl | exact ye | exact yo) : p := h
theorem qM {p : Prop} (h : p := by omega) : p := h
theorem qD {p : Prop} (h : p := by decide) : p := h
theorem qX {p : Prop} (h : p := by first | (simp [binR, *]; done) | (simp [binG, *]; done) | (simp [opOf, *]; done) | simp [binR, binG, opOf, *]) : p := h
theorem qN {p : Prop} (h : p := by assumption) : p := h
theorem qP {p : Prop} (h : p := by first | exact List.Perm.refl _ | exact List.perm_middle (l₁ := []) | exact List.perm_middle (l₁ := [_]) | exact List.perm_middle (l₁ := [_, _]) | exact List.perm_middle (l₁ := [_, _, _]) | exact List.perm_middle (l₁ := [_, _, _, _])) : p := h
theorem qW {p : Prop} (h : p := by first | exact hus | (refine List.IsSuffix.trans ?_ hus; (repeat (first | exact List.suffix_refl _ | assumption | exact Rv.suf (by assumption) | exact InvW.suf (by assumption) | exact skRB_suf | (refine List.IsSuffix.trans skRB_suf ?_) | (refine List.IsSuffix.trans (List.tail_suffix _) ?_) | (refine List.IsSuffix.trans (Rv.suf (by assumption)) ?_) | (refine List.IsSuffix.trans (InvW.suf (by assumption)) ?_))))) : p := h
theorem vD {G H : Prop} (n : H) (h : H → G := by intro n; (try dsimp only [ya, yb]); exact n) : G := h n
theorem qK {p : Prop} (h : p := by kernel_rfl) : p := h
theorem yV {p : Prop} (h : p := by repeat first | exact .here | apply Tl.past | apply Tl.there) : p := h
theorem qS {p : Prop} (h : p := by repeat first | exact .nil | apply Sel.cons rfl) : p := h
theorem qA {p : Prop} (h : p := by repeat first | exact .nil | apply Args.one rfl) : p := h
theorem qG {p : Prop} (h : p := by exact fun G hG => by repeat (first | exact hG | refine List.mem_cons_of_mem _ ?_)) : p := h
theorem qH {p : Prop} (h : p := by repeat (first | exact .all | exact .nil | refine Has.own (by repeat first | exact .here | apply Tl.past | apply Tl.there) ?_ | refine Has.cons (by repeat (first | exact .here | apply Pk.past | apply Pk.there)) ?_)) : p := h
theorem qB {p : Prop} (h : p := by repeat (first | exact .slnil | exact List.Sublist.refl _ | apply List.Sublist.cons_cons | apply List.Sublist.cons)) : p := h
theorem qR {π : Prop} {K : List (Nat × Ty)} {x : Operand} {T : Ty} (h : opTy K x = some (.opt π T)) : KnG π K x T := .inr ⟨_, h, fun h => h⟩
def yG (_ : List Nat) : Prop := True
section
variable {P : Program} {c : Ctx} {K K0 : List (Nat × Ty)} {L : List Own} {Φ : List (World → Prop)} {x : Code} {Q : Exit → Act → World → Prop} {ops : Array Oper} {rest : List Oper} {op : Op} {d : Nat} {ty : TypeId} {pos : String} {after : Array Edge} {T : Ty} {u : Operand}
theorem yS {s : List Nat} (_ : yG s) (h : Sel K s K0) (hj : J P c K0 L Φ x Q) : J P c K L Φ x Q := J.sel s h hj
theorem Jq (h : Ob P L Φ (Kn K) ⟨some d, op, ty, pos, after, none⟩ T) (n : JO P c ((d, T) :: K) L Φ ops rest Q) (hd : Nat.blt d c.n = true := by exact rfl) : JO P c K L Φ ops (⟨some d, op, ty, pos, after, none⟩ :: rest) Q := JO.t h hd n
theorem Jm (h : Kn K u T) (n : JO P c ((d, T) :: K) L Φ ops rest Q) (hd : Nat.blt d c.n = true := by exact rfl) : JO P c K L Φ ops (⟨some d, .move u, ty, pos, after, none⟩ :: rest) Q := JO.t (Z2 h) hd n
theorem Ja (h : Kn K u T) (n : JO P c ((d, T) :: K) L Φ ops rest Q) (hd : Nat.blt d c.n = true := by exact rfl) : JO P c K L Φ ops (⟨some d, .assign u, ty, pos, after, none⟩ :: rest) Q := JO.t (Z1s h) hd n
end
theorem vN {G H : Prop} (n : H) (h : H → G := by intro n; (repeat first | apply yI | apply yX | apply yB); (repeat apply yQ); exact n) : G := h n
theorem vS (s : List Nat) {G H : Prop} (n : H) (h : yG s → H → G := by intro t n; (repeat first | apply yI | apply yX | apply yB); refine yS t (by repeat first | exact .nil | apply Sel.cons rfl) ?_; (repeat apply yQ); exact n) : G := h trivial n
theorem vP (s : List Nat) {G H : Prop} (n : H) (h : yG s → H → G := by intro t n; (repeat first | apply yI | apply yX | apply yB); refine yS t (by repeat first | exact .nil | apply Sel.cons rfl) ?_; (repeat apply yQ); apply yN; exact n) : G := h trivial n
theorem vR {G H : Prop} (n : H) (h : H → G := by intro n; (repeat apply yQ); apply yT; (repeat first | apply yP | apply yR); exact n) : G := h n
theorem vQ {G H : Prop} (n : H) (h : H → G := by intro n; (repeat apply yQ); apply yN; exact n) : G := h n
end Go.Vc
namespace Go.Vc
open Go
theorem qZ {p : Prop} (h : p := by first | decide | (simp only [Z4c, List.length_append, List.length_cons, List.length_nil]; omega) | omega | (simp only [Z4c, List.length_append, List.length_cons, List.length_nil] at *; omega)) : p := h
end Go.Vc
namespace Go.Pz
open Go Go.Vc
abbrev w_OR : ByteArray := ⟨#[79, 82]⟩
abbrev Z1P : ByteArray := ⟨#[65, 78, 68]⟩
abbrev ZY : ByteArray := ⟨#[78, 79, 84]⟩
abbrev w_IS : ByteArray := ⟨#[73, 83]⟩
abbrev Z1D : ByteArray := ⟨#[78, 85, 76, 76]⟩
abbrev Z8A : ByteArray := ⟨#[84, 82, 85, 69]⟩
abbrev Z6U : ByteArray := ⟨#[70, 65, 76, 83, 69]⟩
abbrev Z3L : ByteArray := ⟨#[67, 79, 85, 78, 84]⟩
abbrev Za7 : ByteArray := ⟨#[83, 85, 77]⟩
abbrev Zan : ByteArray := ⟨#[77, 73, 78]⟩
abbrev Zad : ByteArray := ⟨#[77, 65, 88]⟩
abbrev Z6e : ByteArray := ⟨#[84, 65, 66, 76, 69]⟩
abbrev Za8 : ByteArray := ⟨#[73, 78, 68, 69, 88]⟩
abbrev w_ON : ByteArray := ⟨#[79, 78]⟩
abbrev Z5u : ByteArray := ⟨#[85, 83, 73, 78, 71]⟩
abbrev Z9V : ByteArray := ⟨#[72, 65, 83, 72]⟩
abbrev ZcX : ByteArray := ⟨#[73, 78, 84]⟩
abbrev Zbn : ByteArray := ⟨#[66, 79, 79, 76]⟩
abbrev Zby : ByteArray := ⟨#[84, 69, 88, 84]⟩
abbrev Z3S : ByteArray := ⟨#[80, 82, 73, 77, 65, 82, 89]⟩
abbrev Zfw : ByteArray := ⟨#[75, 69, 89]⟩
abbrev Z20 : ByteArray := ⟨#[85, 78, 73, 81, 85, 69]⟩
abbrev Z9T : ByteArray := ⟨#[73, 78, 84, 79]⟩
abbrev Z3A : ByteArray := ⟨#[86, 65, 76, 85, 69, 83]⟩
abbrev Z4z : ByteArray := ⟨#[70, 82, 79, 77]⟩
abbrev ZS : ByteArray := ⟨#[73, 78, 78, 69, 82]⟩
abbrev Z3K : ByteArray := ⟨#[74, 79, 73, 78]⟩
abbrev Z3E : ByteArray := ⟨#[87, 72, 69, 82, 69]⟩
abbrev Z39 : ByteArray := ⟨#[71, 82, 79, 85, 80]⟩
abbrev w_BY : ByteArray := ⟨#[66, 89]⟩
abbrev Z2f : ByteArray := ⟨#[79, 82, 68, 69, 82]⟩
abbrev Z1L : ByteArray := ⟨#[76, 73, 77, 73, 84]⟩
abbrev Z7C : ByteArray := ⟨#[65, 83, 67]⟩
abbrev Z4C : ByteArray := ⟨#[68, 69, 83, 67]⟩
abbrev w_AS : ByteArray := ⟨#[65, 83]⟩
abbrev Zbf : ByteArray := ⟨#[83, 69, 84]⟩
abbrev Z3V : ByteArray := ⟨#[67, 82, 69, 65, 84, 69]⟩
abbrev Z5g : ByteArray := ⟨#[73, 78, 83, 69, 82, 84]⟩
abbrev Z53 : ByteArray := ⟨#[83, 69, 76, 69, 67, 84]⟩
abbrev Z5f : ByteArray := ⟨#[85, 80, 68, 65, 84, 69]⟩
abbrev Z5a : ByteArray := ⟨#[68, 69, 76, 69, 84, 69]⟩
abbrev Z6V : ByteArray := ⟨#[66, 69, 71, 73, 78]⟩
abbrev Z5W : ByteArray := ⟨#[67, 79, 77, 77, 73, 84]⟩
abbrev Z4H : ByteArray := ⟨#[82, 79, 76, 76, 66, 65, 67, 75]⟩
abbrev s_lp : ByteArray := ⟨#[40]⟩
abbrev s_rp : ByteArray := ⟨#[41]⟩
abbrev ZC : ByteArray := ⟨#[44]⟩
abbrev Z8r : ByteArray := ⟨#[59]⟩
abbrev Z14 : ByteArray := ⟨#[42]⟩
abbrev Z2x : ByteArray := ⟨#[43]⟩
abbrev Z1d : ByteArray := ⟨#[45]⟩
abbrev Z22 : ByteArray := ⟨#[47]⟩
abbrev Z3d : ByteArray := ⟨#[37]⟩
abbrev s_eq : ByteArray := ⟨#[61]⟩
abbrev s_ne : ByteArray := ⟨#[60, 62]⟩
abbrev s_lt : ByteArray := ⟨#[60]⟩
abbrev s_le : ByteArray := ⟨#[60, 61]⟩
abbrev s_gt : ByteArray := ⟨#[62]⟩
abbrev s_ge : ByteArray := ⟨#[62, 61]⟩
abbrev Z2T : ByteArray := ⟨#[46]⟩
def sq (a b : ByteArray) : Bool := a.data.toList == b.data.toList
theorem Z2L (a b : ByteArray) : seq a b = sq a b := by unfold seq sq; rw [ByteArray.toList_eq, ByteArray.toList_eq]
abbrev Ps (α : Type) := List T3 → Option (α × List T3)
def isT (k : Int) (s : ByteArray) : List T3 → Bool
 | t :: _ => (t.k == k) && sq t.t s
 | [] => false
def skT (k : Int) (s : ByteArray) (ts : List T3) : List T3 := if isT k s ts then ts.tail else ts
def wantP (k : Int) (s : ByteArray) : Ps Unit := fun ts => if isT k s ts then some ((), ts.tail) else none
def takeP (k : Int) : Ps T3
 | t :: r => if t.k == k then some (t, r) else none
 | [] => none
def nameP : Ps ByteArray := fun ts => (takeP 2 ts).map fun z => (z.1.t, z.2)
abbrev em : ByteArray := ⟨#[]⟩
abbrev nd (k : Int) (kids : List Ex) : Ex := .mk k 0 0 em em em 0 kids
abbrev lit (vk vn : Int) (vs : ByteArray) : Ex := .mk 1 vk vn vs em em 0 []
abbrev ex0 : Ex := .mk 0 0 0 em em em 0 []
def opOf (k : Int) : List (ByteArray × Int) → List T3 → Option Int
 | [], _ => none
 | (s, n) :: l, ts => if isT k s ts then some n else opOf k l ts
def chainG (part : Ps Ex) (k : Int) (ops : List (ByteArray × Int)) : Nat → Ex → Ps Ex
 | 0, x, ts => some (x, ts)
 | n + 1, x, ts => match opOf k ops ts with
   | none => some (x, ts)
   | some q => (part ts.tail).bind fun z => chainG part k ops n (nd q [x, z.1]) z.2
def chainP (part : Ps Ex) (k : Int) (ops : List (ByteArray × Int)) : Ps Ex := fun ts => (part ts).bind fun z => chainG part k ops z.2.length z.1 z.2
abbrev mulO : List (ByteArray × Int) := [(Z14, 7), (Z22, 8), (Z3d, 9)]
abbrev addO : List (ByteArray × Int) := [(Z2x, 5), (Z1d, 6)]
abbrev cmpO : List (ByteArray × Int) := [(s_eq, 10), (s_ne, 11), (s_lt, 12), (s_le, 13), (s_gt, 14), (s_ge, 15)]
def aggK (s : ByteArray) : Option Int := if sq s Z3L then some 20 else if sq s Za7 then some 21 else if sq s Zan then some 22 else if sq s Zad then some 23 else none
def kwP (e : Ps Ex) : Ps Ex := fun ts => (takeP 1 ts).bind fun z =>
 if sq z.1.t Z8A then some (lit 2 1 em, z.2)
 else if sq z.1.t Z6U then some (lit 2 0 em, z.2)
 else if sq z.1.t Z1D then some (lit 0 0 em, z.2)
 else match aggK z.1.t with
   | none => none
   | some q => (wantP 5 s_lp z.2).bind fun y =>
     if sq z.1.t Z3L && isT 5 Z14 y.2 then (wantP 5 s_rp y.2.tail).map fun v => (nd 20 [], v.2)
     else (e y.2).bind fun x => (wantP 5 s_rp x.2).map fun v => (nd q [x.1], v.2)
def atomP (e : Ps Ex) : Ps Ex
 | [] => none
 | t :: r =>
   if t.k == 3 then some (lit 1 t.n em, r)
   else if t.k == 4 then some (lit 3 0 t.t, r)
   else if t.k == 2 then (if isT 5 Z2T r then (nameP r.tail).map fun z => (.mk 2 0 0 em t.t z.1 0 [], z.2) else some (.mk 2 0 0 em em t.t 0 [], r))
   else if t.k == 1 then kwP e (t :: r)
   else (wantP 5 s_lp (t :: r)).bind fun y => (e y.2).bind fun x => (wantP 5 s_rp x.2).map fun v => (x.1, v.2)
def factorP (e : Ps Ex) : Ps Ex
 | [] => atomP e []
 | t :: r => if isT 5 Z1d (t :: r) then (factorP e r).map fun z => (nd 3 [z.1], z.2) else atomP e (t :: r)
def prodP (e : Ps Ex) : Ps Ex := chainP (factorP e) 5 mulO
def sumP (e : Ps Ex) : Ps Ex := chainP (prodP e) 5 addO
def cmpP (e : Ps Ex) (x : Ex) : Ps Ex := fun ts => match opOf 5 cmpO ts with
 | some q => (sumP e ts.tail).map fun z => (nd q [x, z.1], z.2)
 | none => if isT 1 w_IS ts then (if isT 1 ZY ts.tail then (wantP 1 Z1D ts.tail.tail).map fun v => (nd 19 [x], v.2) else (wantP 1 Z1D ts.tail).map fun v => (nd 18 [x], v.2)) else some (x, ts)
def notP (e : Ps Ex) : Ps Ex
 | [] => (sumP e []).bind fun z => cmpP e z.1 z.2
 | t :: r => if isT 1 ZY (t :: r) then (notP e r).map fun z => (nd 4 [z.1], z.2) else (sumP e (t :: r)).bind fun z => cmpP e z.1 z.2
def andP (e : Ps Ex) : Ps Ex := chainP (notP e) 1 [(Z1P, 16)]
def orP (e : Ps Ex) : Ps Ex := chainP (andP e) 1 [(w_OR, 17)]
def exprP : Nat → Ps Ex
 | 0 => fun _ => none
 | n + 1 => orP (exprP n)
def exprX : Ps Ex := fun ts => exprP (ts.length + 1) ts
def listG {α : Type} (part : Ps α) : Nat → Ps (List α)
 | 0, ts => some ([], ts)
 | n + 1, ts => if isT 5 ZC ts then (part ts.tail).bind fun z => (listG part n z.2).map fun y => (z.1 :: y.1, y.2) else some ([], ts)
def listP {α : Type} (most : Nat) (part : Ps α) : Ps (List α) := fun ts => (part ts).bind fun z => (listG part z.2.length z.2).bind fun y => if y.1.length + 1 ≤ most then some (z.1 :: y.1, y.2) else none
def withinP {α : Type} (part : Ps α) : Ps (List α) := fun ts => (wantP 5 s_lp ts).bind fun a => (listP 16 part a.2).bind fun l => (wantP 5 s_rp l.2).map fun v => (l.1, v.2)
structure Col where
 nm : ByteArray
 ty : Int
 nn : Bool
 un : Bool
structure Src where
 tb : ByteArray
 nm : ByteArray
 on : List Ex
structure Itm where
 all : Bool
 ex : Ex
structure Ky where
 ex : Ex
 desc : Bool
structure St where
 kind : Int
 tb : ByteArray
 nm : ByteArray
 cols : List Col
 names : List ByteArray
 rows : List (List Ex)
 items : List Itm
 from_ : List Src
 where_ : List Ex
 group : List Ex
 order : List Ky
 limit : Int
 sets : List Ex
 hash : Bool
def st0 : St := ⟨0, em, em, [], [], [], [], [], [], [], [], 0, [], false⟩
def stK (k : Int) : St := ⟨k, em, em, [], [], [], [], [], [], [], [], -1, [], false⟩
def typeP : Ps Int := fun ts => if isT 1 ZcX ts then some (1, ts.tail) else if isT 1 Zbn ts then some (2, ts.tail) else if isT 1 Zby ts then some (3, ts.tail) else none
def colEnd (n : ByteArray) (t : Int) (nn : Bool) : Ps Col := fun ts =>
 if isT 1 Z3S ts then (wantP 1 Zfw ts.tail).map fun v => (⟨n, t, true, true⟩, v.2) else some (⟨n, t, nn, isT 1 Z20 ts⟩, skT 1 Z20 ts)
def colP : Ps Col := fun ts => (nameP ts).bind fun n => (typeP n.2).bind fun t =>
 if isT 1 ZY t.2 then (wantP 1 Z1D t.2.tail).bind fun v => colEnd n.1 t.1 true v.2 else colEnd n.1 t.1 false t.2
def createP : Ps St := fun ts =>
 if isT 1 Z6e ts then (nameP ts.tail).bind fun n => (withinP colP n.2).map fun c => ({ stK 1 with tb := n.1, cols := c.1 }, c.2)
 else (wantP 1 Za8 ts).bind fun a => (nameP a.2).bind fun n => (wantP 1 w_ON n.2).bind fun b => (nameP b.2).bind fun t => (wantP 5 s_lp t.2).bind fun c => (nameP c.2).bind fun m => (wantP 5 s_rp m.2).bind fun d =>
   if isT 1 Z5u d.2 then (wantP 1 Z9V d.2.tail).map fun v => ({ stK 2 with nm := n.1, tb := t.1, names := [m.1], hash := true }, v.2)
   else some ({ stK 2 with nm := n.1, tb := t.1, names := [m.1] }, d.2)
def isLp : List T3 → Bool
 | t :: _ => (t.k == 5) && (sq t.t s_lp && (t.n == 0))
 | [] => false
def insRows (e : Ps Ex) (tb : ByteArray) (ns : List ByteArray) : Ps St := fun ts => (wantP 1 Z3A ts).bind fun a => (listP 32 (withinP e) a.2).map fun r => ({ stK 3 with tb := tb, names := ns, rows := r.1 }, r.2)
def insertP (e : Ps Ex) : Ps St := fun ts => (wantP 1 Z9T ts).bind fun a => (nameP a.2).bind fun n =>
 if isLp n.2 then (withinP nameP n.2).bind fun l => insRows e n.1 l.1 l.2 else insRows e n.1 [] n.2
def itemP (e : Ps Ex) : Ps Itm := fun ts => if isT 5 Z14 ts then some (⟨true, ex0⟩, ts.tail) else (e ts).map fun z => (⟨false, z.1⟩, z.2)
def isK (k : Int) : List T3 → Bool
 | t :: _ => t.k == k
 | [] => false
def sourceP : Ps Src := fun ts => (nameP ts).bind fun n =>
 if isT 1 w_AS n.2 then (nameP n.2.tail).map fun m => (⟨n.1, m.1, []⟩, m.2)
 else if isK 2 n.2 then (nameP n.2).map fun m => (⟨n.1, m.1, []⟩, m.2) else some (⟨n.1, n.1, []⟩, n.2)
def keyP (e : Ps Ex) : Ps Ky := fun ts => (e ts).map fun z => if isT 1 Z7C z.2 then (⟨z.1, false⟩, z.2.tail) else (⟨z.1, isT 1 Z4C z.2⟩, skT 1 Z4C z.2)
def whereP (e : Ps Ex) : Ps (List Ex) := fun ts => if isT 1 Z3E ts then (e ts.tail).map fun z => ([z.1], z.2) else some ([], ts)
def joinP (e : Ps Ex) : Ps Src := fun ts => (wantP 1 Z3K ts).bind fun a => (sourceP a.2).bind fun s => (wantP 1 w_ON s.2).bind fun b => (e b.2).map fun x => ({ s.1 with on := [x.1] }, x.2)
def joinsG (e : Ps Ex) : Nat → Ps (List Src)
 | 0, ts => some ([], ts)
 | n + 1, ts => if isT 1 ZS ts || isT 1 Z3K ts then (joinP e (skT 1 ZS ts)).bind fun s => (joinsG e n s.2).map fun y => (s.1 :: y.1, y.2) else some ([], ts)
def groupP (e : Ps Ex) : Ps (List Ex) := fun ts => if isT 1 Z39 ts then (wantP 1 w_BY ts.tail).bind fun a => listP 16 e a.2 else some ([], ts)
def orderP (e : Ps Ex) : Ps (List Ky) := fun ts => if isT 1 Z2f ts then (wantP 1 w_BY ts.tail).bind fun a => listP 16 (keyP e) a.2 else some ([], ts)
def limitP : Ps Int := fun ts => if isT 1 Z1L ts then (takeP 3 ts.tail).map fun z => (z.1.n, z.2) else some (-1, ts)
def queryP (e : Ps Ex) : Ps St := fun ts => (listP 16 (itemP e) ts).bind fun i => (wantP 1 Z4z i.2).bind fun a => (sourceP a.2).bind fun s => (joinsG e s.2.length s.2).bind fun j =>
 if j.1.length + 1 ≤ 4 then (whereP e j.2).bind fun w => (groupP e w.2).bind fun g => (orderP e g.2).bind fun o => (limitP o.2).map fun l =>
  ({ stK 4 with items := i.1, from_ := s.1 :: j.1, where_ := w.1, group := g.1, order := o.1, limit := l.1 }, l.2)
 else none
def setP (e : Ps Ex) : Ps (ByteArray × Ex) := fun ts => (nameP ts).bind fun n => (wantP 5 s_eq n.2).bind fun a => (e a.2).map fun x => ((n.1, x.1), x.2)
def updateP (e : Ps Ex) : Ps St := fun ts => (nameP ts).bind fun n => (wantP 1 Zbf n.2).bind fun a => (listP 16 (setP e) a.2).bind fun l => (whereP e l.2).map fun w =>
 ({ stK 5 with tb := n.1, names := l.1.map (·.1), sets := l.1.map (·.2), where_ := w.1 }, w.2)
def removeP (e : Ps Ex) : Ps St := fun ts => (wantP 1 Z4z ts).bind fun a => (nameP a.2).bind fun n => (whereP e n.2).map fun w => ({ stK 6 with tb := n.1, where_ := w.1 }, w.2)
def stmtP (e : Ps Ex) : Ps St := fun ts => (takeP 1 ts).bind fun w =>
 if sq w.1.t Z3V then createP w.2 else if sq w.1.t Z5g then insertP e w.2 else if sq w.1.t Z53 then queryP e w.2
 else if sq w.1.t Z5f then updateP e w.2 else if sq w.1.t Z5a then removeP e w.2
 else if sq w.1.t Z6V then some (stK 7, w.2) else if sq w.1.t Z5W then some (stK 8, w.2) else if sq w.1.t Z4H then some (stK 9, w.2) else none
mutual
def hgt : Ex → Nat
 | .mk _ _ _ _ _ _ _ kids => hgts kids + 1
def hgts : List Ex → Nat
 | [] => 0
 | x :: xs => max (hgt x) (hgts xs)
end
def exsOf (s : St) : List Ex := s.rows.flatten ++ s.items.map (·.ex) ++ (s.from_.map (·.on)).flatten ++ s.order.map (·.ex) ++ s.where_ ++ s.group ++ s.sets
def deepS (s : St) : Bool := (exsOf s).any fun x => decide (32 < hgt x)
def wholeP (ts : List T3) : Option St := (stmtP (exprP (ts.length + 1)) ts).bind fun z => match skT 5 Z8r z.2 with | [] => some z.1 | _ :: _ => none
def readT (ts : List T3) : St × Int := match wholeP ts with
 | none => (st0, 30)
 | some s => if deepS s then (st0, 31) else (s, 0)
def readS (l : List T3 × Int) : St × Int := if l.2 == 0 then readT l.1 else (st0, l.2)
end Go.Pz
namespace Go.Pz
open Go Go.Vc
def Lt (r ts : List T3) : Prop := r <:+ ts ∧ r.length < ts.length
theorem Lt.trans {a b c : List T3} (h : Lt a b) (k : b <:+ c) : Lt a c := ⟨h.1.trans k, Nat.lt_of_lt_of_le h.2 k.length_le⟩
theorem Lt.trans' {a b c : List T3} (h : a <:+ b) (k : Lt b c) : Lt a c := ⟨h.trans k.1, Nat.lt_of_le_of_lt h.length_le k.2⟩
theorem Lt.cons (t : T3) (r : List T3) : Lt r (t :: r) := ⟨List.suffix_cons t r, by simp⟩
def Dn {α : Type} (p : Ps α) : Prop := ∀ ts z, p ts = some z → Lt z.2 ts
def Dn0 {α : Type} (p : Ps α) : Prop := ∀ ts z, p ts = some z → z.2 <:+ ts
theorem Dn.le {α : Type} {p : Ps α} (h : Dn p) : Dn0 p := fun ts z e => (h ts z e).1
theorem Z56 {k : Int} {s : ByteArray} {ts : List T3} (h : isT k s ts = true) : ∃ t r, ts = t :: r ∧ t.k = k ∧ t.t.data.toList = s.data.toList := by
 cases ts with
 | nil => cases h
 | cons t r => 
   simp only [isT, Bool.and_eq_true, beq_iff_eq, sq] at h
   exact ⟨t, r, rfl, h.1, h.2⟩
theorem Zz {k : Int} {s : ByteArray} {ts : List T3} (h : isT k s ts = true) : Lt ts.tail ts := by
 obtain ⟨t, r, rfl, _⟩ := Z56 h
 exact Lt.cons t r
theorem Z3c (k : Int) (s : ByteArray) (ts : List T3) : skT k s ts <:+ ts := by
 unfold skT; split
 · exact List.tail_suffix ts
 · exact List.suffix_refl ts
theorem Z8 (k : Int) (s : ByteArray) : Dn (wantP k s) := fun ts z h => by
 unfold wantP at h
 split at h
 · rename_i hi; injection h with h; subst h; exact Zz hi
 · cases h
theorem ZP (k : Int) : Dn (takeP k) := fun ts z h => by
 cases ts with
 | nil => cases h
 | cons t r =>
   rw [takeP] at h
   split at h
   · injection h with h; subst h; exact Lt.cons t r
   · cases h
theorem Dn.map {α β : Type} {p : Ps α} (hp : Dn p) (f : α × List T3 → β) : Dn (fun ts => (p ts).map fun z => (f z, z.2)) := fun ts z h => by
 obtain ⟨y, hy, rfl⟩ := Option.map_eq_some_iff.1 h
 exact hp ts y hy
theorem Zw : Dn nameP := (ZP 2).map _
theorem bnd {α β : Type} {p : Option α} {f : α → Option β} {z : β} (h : p.bind f = some z) : ∃ y, p = some y ∧ f y = some z := Option.bind_eq_some_iff.1 h
theorem mpd {α β : Type} {p : Option α} {f : α → β} {z : β} (h : p.map f = some z) : ∃ y, p = some y ∧ f y = z := Option.map_eq_some_iff.1 h
theorem Z4O {k : Int} {q : Int} : ∀ {l : List (ByteArray × Int)} {ts : List T3}, opOf k l ts = some q → Lt ts.tail ts
 | [], _, h => by cases h
 | (s, n) :: l, ts, h => by
   unfold opOf at h
   split at h
   · rename_i hi; exact Zz hi
   · exact Z4O h
theorem ZcB {part : Ps Ex} {k : Int} {ops : List (ByteArray × Int)} (hp : Dn0 part) : ∀ (n : Nat) (x : Ex), Dn0 (chainG part k ops n x)
 | 0, x, ts, z, h => by unfold chainG at h; injection h with h; subst h; exact List.suffix_refl ts
 | n + 1, x, ts, z, h => by
   unfold chainG at h
   split at h
   · injection h with h; subst h; exact List.suffix_refl ts
   · rename_i q hq
     obtain ⟨y, h1, h2⟩ := bnd h
     exact ((ZcB hp n _ _ _ h2).trans (hp _ _ h1)).trans (Z4O hq).1
theorem Z7y {part : Ps Ex} {k : Int} {ops : List (ByteArray × Int)} (hp : Dn part) : Dn (chainP part k ops) := fun ts z h => by
 obtain ⟨y, h1, h2⟩ := bnd h
 exact Lt.trans' (ZcB hp.le _ _ _ _ h2) (hp _ _ h1)
theorem Zkn {e : Ps Ex} (he : Dn0 e) : Dn (kwP e) := fun ts z h => by
 obtain ⟨y, h1, h2⟩ := bnd h
 have h3 := ZP 1 _ _ h1
 split at h2
 · injection h2 with h2; subst h2; exact h3
 · split at h2
   · injection h2 with h2; subst h2; exact h3
   · split at h2
     · injection h2 with h2; subst h2; exact h3
     · split at h2
       · cases h2
       · obtain ⟨u, h4, h5⟩ := bnd h2
         have h6 := Lt.trans (Z8 _ _ _ _ h4) h3.1
         split at h5
         · rename_i hi
           simp only [Bool.and_eq_true] at hi
           obtain ⟨v, h7, rfl⟩ := mpd h5
           exact Lt.trans (Z8 _ _ _ _ h7) ((Zz hi.2).1.trans h6.1)
         · obtain ⟨v, h7, h8⟩ := bnd h5
           obtain ⟨v', h9, rfl⟩ := mpd h8
           exact Lt.trans (Z8 _ _ _ _ h9) ((he _ _ h7).trans h6.1)
theorem Zd9 {e : Ps Ex} (he : Dn0 e) : Dn (atomP e) := fun ts z h => by
 cases ts with
 | nil => cases h
 | cons t r =>
   rw [atomP] at h
   split at h
   · injection h with h; subst h; exact Lt.cons t r
   · split at h
     · injection h with h; subst h; exact Lt.cons t r
     · split at h
       · split at h
         · rename_i hi
           obtain ⟨v, h7, rfl⟩ := mpd h
           exact Lt.trans (Zw _ _ h7) ((Zz hi).1.trans (Lt.cons t r).1)
         · injection h with h; subst h; exact Lt.cons t r
       · split at h
         · exact Zkn he _ _ h
         · obtain ⟨u, h4, h5⟩ := bnd h
           obtain ⟨v, h7, h8⟩ := bnd h5
           obtain ⟨v', h9, rfl⟩ := mpd h8
           exact Lt.trans (Z8 _ _ _ _ h9) ((he _ _ h7).trans (Z8 _ _ _ _ h4).1)
theorem Z3Y {e : Ps Ex} (he : Dn0 e) : Dn (factorP e)
 | [], z, h => by rw [factorP] at h; exact Zd9 he _ _ h
 | t :: r, z, h => by
   rw [factorP] at h
   split at h
   · obtain ⟨v, h7, rfl⟩ := mpd h
     exact Lt.trans (Z3Y he r v h7) (Lt.cons t r).1
   · exact Zd9 he _ _ h
theorem Z6b {e : Ps Ex} (he : Dn0 e) : Dn (prodP e) := Z7y (Z3Y he)
theorem Z2z {e : Ps Ex} (he : Dn0 e) : Dn (sumP e) := Z7y (Z6b he)
theorem ZeQ {e : Ps Ex} (he : Dn0 e) (x : Ex) : Dn0 (cmpP e x) := fun ts z h => by
 unfold cmpP at h
 split at h
 · rename_i q hq
   obtain ⟨v, h7, rfl⟩ := mpd h
   exact (Z2z he _ _ h7).1.trans (Z4O hq).1
 · split at h
   · rename_i hi
     split at h
     · rename_i hj
       obtain ⟨v, h7, rfl⟩ := mpd h
       exact ((Z8 _ _ _ _ h7).1.trans (Zz hj).1).trans (Zz hi).1
     · obtain ⟨v, h7, rfl⟩ := mpd h
       exact (Z8 _ _ _ _ h7).1.trans (Zz hi).1
   · injection h with h; subst h; exact List.suffix_refl ts
theorem Z6g {e : Ps Ex} (he : Dn0 e) : Dn (notP e)
 | [], z, h => by
   rw [notP] at h
   obtain ⟨y, h1, h2⟩ := bnd h
   exact Lt.trans' (ZeQ he _ _ _ h2) (Z2z he _ _ h1)
 | t :: r, z, h => by
   rw [notP] at h
   split at h
   · obtain ⟨v, h7, rfl⟩ := mpd h
     exact Lt.trans (Z6g he r v h7) (Lt.cons t r).1
   · obtain ⟨y, h1, h2⟩ := bnd h
     exact Lt.trans' (ZeQ he _ _ _ h2) (Z2z he _ _ h1)
theorem Z6T {e : Ps Ex} (he : Dn0 e) : Dn (andP e) := Z7y (Z6g he)
theorem Zhm {e : Ps Ex} (he : Dn0 e) : Dn (orP e) := Z7y (Z6T he)
theorem Z2l : ∀ n, Dn (exprP n)
 | 0, ts, z, h => by cases h
 | n + 1, ts, z, h => Zhm (Z2l n).le ts z h
theorem Z5U : Dn exprX := fun ts z h => Z2l _ ts z h
def Eq_ (n : Nat) (e e' : Ps Ex) : Prop := ∀ ts, ts.length < n → e ts = e' ts
theorem Zn {α β : Type} {p : Option α} {f g : α → Option β} (h : ∀ y, p = some y → f y = g y) : p.bind f = p.bind g := by
 cases p with
 | none => rfl
 | some y => exact h y rfl
theorem ZcH {part part' : Ps Ex} {k : Int} {ops : List (ByteArray × Int)} {N : Nat} (hp : Dn0 part) (h : Eq_ N part part') : ∀ (n : Nat) (x : Ex) (ts : List T3), ts.length ≤ N → chainG part k ops n x ts = chainG part' k ops n x ts
 | 0, _, _, _ => rfl
 | n + 1, x, ts, hl => by
   unfold chainG
   split
   · rfl
   · rename_i q hq
     have h1 := Z4O hq
     rw [← h ts.tail (by have := h1.2; omega)]
     exact Zn fun y hy => ZcH hp h n _ _ (by have := (hp _ _ hy).length_le; have := h1.2; omega)
theorem Z7x {part part' : Ps Ex} {k : Int} {ops : List (ByteArray × Int)} {N : Nat} (hp : Dn part) (h : Eq_ N part part') : Eq_ N (chainP part k ops) (chainP part' k ops) := fun ts hl => by
 unfold chainP
 rw [← h ts hl]
 exact Zn fun y hy => ZcH hp.le h _ _ _ (by have := (hp _ _ hy).2; omega)
section
variable {e e' : Ps Ex} {N : Nat} (h : Eq_ N e e')
include h
theorem ZkX (ts : List T3) (hl : ts.length ≤ N) : kwP e ts = kwP e' ts := by
 unfold kwP
 refine Zn fun y hy => ?_
 have h1 := (ZP 1 _ _ hy).2
 split
 · rfl
 · split
   · rfl
   · split
     · rfl
     · split
       · rfl
       · refine Zn fun u hu => ?_
         have h2 := (Z8 _ _ _ _ hu).2
         split
         · rfl
         · rw [h u.2 qM]
theorem ZcZ : ∀ (ts : List T3), ts.length ≤ N → atomP e ts = atomP e' ts
 | [], _ => rfl
 | t :: r, hl => by
   rw [atomP, atomP, ZkX h (t :: r) hl]
   have hb : ((wantP 5 s_lp (t :: r)).bind fun y => (e y.2).bind fun x => (wantP 5 s_rp x.2).map fun v => (x.1, v.2)) = ((wantP 5 s_lp (t :: r)).bind fun y => (e' y.2).bind fun x => (wantP 5 s_rp x.2).map fun v => (x.1, v.2)) :=
     Zn fun y hy => by
       have h1 := (Z8 _ _ _ _ hy).2
       rw [h y.2 qM]
   rw [hb]
theorem Zbj : ∀ (ts : List T3), ts.length ≤ N → factorP e ts = factorP e' ts
 | [], hl => by rw [factorP, factorP]; exact ZcZ h [] hl
 | t :: r, hl => by
   rw [factorP, factorP, Zbj r (by simp at hl; omega), ZcZ h (t :: r) hl]
end
theorem ZhO {e e' : Ps Ex} {N : Nat} (he : Dn0 e) (h : Eq_ N e e') : Eq_ (N + 1) (prodP e) (prodP e') := Z7x (Z3Y he) fun ts hl => Zbj h ts qM
theorem Zcg {e e' : Ps Ex} {N : Nat} (he : Dn0 e) (h : Eq_ N e e') : Eq_ (N + 1) (sumP e) (sumP e') := Z7x (Z6b he) (ZhO he h)
theorem ZeV {e e' : Ps Ex} {N : Nat} (he : Dn0 e) (h : Eq_ N e e') (x : Ex) : Eq_ (N + 1) (cmpP e x) (cmpP e' x) := fun ts hl => by
 unfold cmpP
 split
 · rename_i q hq
   rw [Zcg he h ts.tail (by have := (Z4O hq).2; omega)]
 · rfl
theorem Zfh {e e' : Ps Ex} {N : Nat} (he : Dn0 e) (h : Eq_ N e e') : Eq_ (N + 1) (notP e) (notP e')
 | [], hl => by
   rw [notP, notP, ← Zcg he h [] hl]
   exact Zn fun y hy => ZeV he h _ _ (by have := (Z2z he _ _ hy).2; omega)
 | t :: r, hl => by
   rw [notP, notP, Zfh he h r (by simp at hl; omega), ← Zcg he h (t :: r) hl]
   congr 1
   exact Zn fun y hy => ZeV he h _ _ (by have := (Z2z he _ _ hy).2; omega)
theorem Zjx {e e' : Ps Ex} {N : Nat} (he : Dn0 e) (h : Eq_ N e e') : Eq_ (N + 1) (andP e) (andP e') := Z7x (Z6g he) (Zfh he h)
theorem Zgi {e e' : Ps Ex} {N : Nat} (he : Dn0 e) (h : Eq_ N e e') : Eq_ (N + 1) (orP e) (orP e') := Z7x (Z6T he) (Zjx he h)
theorem Zbh : ∀ n m, n ≤ m → Eq_ n (exprP n) (exprP m)
 | 0, _, _ => fun ts hl => absurd hl qM
 | n + 1, 0, h => absurd h qM
 | n + 1, m + 1, h => Zgi (Z2l n).le (Zbh n m qM)
theorem Ze1 {n : Nat} : Eq_ n exprX (exprP n) := fun ts hl => (Zbh (ts.length + 1) n qM) ts qM
theorem Z8O (ts : List T3) : exprX ts = orP exprX ts := by
 show orP (exprP ts.length) ts = orP exprX ts
 exact (Zgi (N := ts.length) Z5U.le Ze1 ts qM).symm
end Go.Pz
namespace Go.Pz
open Go Go.Vc
abbrev binL : List (Int × ByteArray × Int × Int) := [(1, w_OR, 17, 1), (1, Z1P, 16, 2), (5, s_eq, 10, 4), (5, s_ne, 11, 4), (5, s_lt, 12, 4), (5, s_le, 13, 4), (5, s_gt, 14, 4), (5, s_ge, 15, 4), (5, Z2x, 5, 5), (5, Z1d, 6, 5), (5, Z14, 7, 6), (5, Z22, 8, 6), (5, Z3d, 9, 6)]
def binG : List (Int × ByteArray × Int × Int) → List T3 → Int × Int
 | [], _ => (0, 0)
 | (k, s, q, b) :: l, ts => if isT k s ts then (q, b) else binG l ts
def binR (ts : List T3) : Int × Int := binG binL ts
def loopR (e : Int → Ps Ex) (least : Int) : Nat → Ex → Bool → Ps Ex
 | 0, x, _, ts => some (x, ts)
 | m + 1, x, c, ts =>
   if (decide (0 < (binR ts).1) && decide (least < (binR ts).2)) && !(c && decide (4 ≤ (binR ts).2)) then (e (binR ts).2 ts.tail).bind fun z => loopR e least m (nd (binR ts).1 [x, z.1]) (c || decide ((binR ts).2 ≤ 4)) z.2
   else if (((binR ts).1 == 0 && decide (least < 4)) && !c) && isT 1 w_IS ts then (wantP 1 Z1D (skT 1 ZY ts.tail)).bind fun v => loopR e least m (nd (if isT 1 ZY ts.tail then 19 else 18) [x]) true v.2
   else some (x, ts)
theorem Z4 {k k' : Int} {s s' : ByteArray} {ts : List T3} (h : isT k s ts = true) (hne : (k == k' && (s.data.toList == s'.data.toList)) = false) : isT k' s' ts = false := by
 obtain ⟨t, r, rfl, h1, h2⟩ := Z56 h
 show ((t.k == k') && (t.t.data.toList == s'.data.toList)) = false
 rw [h1, h2]
 exact hne
inductive Cls (ts : List T3) : Prop where
 | or (h : binR ts = (17, 1)) (h1 : isT 1 w_OR ts = true) (h2 : opOf 1 [(Z1P, 16)] ts = none) (h3 : opOf 5 cmpO ts = none) (h4 : opOf 5 addO ts = none) (h5 : opOf 5 mulO ts = none) (h6 : isT 1 w_IS ts = false) (h7 : opOf 1 [(w_OR, 17)] ts = some 17)
 | and (h : binR ts = (16, 2)) (h1 : opOf 1 [(w_OR, 17)] ts = none) (h2 : opOf 1 [(Z1P, 16)] ts = some 16) (h3 : opOf 5 cmpO ts = none) (h4 : opOf 5 addO ts = none) (h5 : opOf 5 mulO ts = none) (h6 : isT 1 w_IS ts = false)
 | cmp (q : Int) (hq : 0 < q) (h : binR ts = (q, 4)) (h1 : opOf 1 [(w_OR, 17)] ts = none) (h2 : opOf 1 [(Z1P, 16)] ts = none) (h3 : opOf 5 cmpO ts = some q) (h4 : opOf 5 addO ts = none) (h5 : opOf 5 mulO ts = none) (h6 : isT 1 w_IS ts = false)
 | add (q : Int) (hq : 0 < q) (h : binR ts = (q, 5)) (h1 : opOf 1 [(w_OR, 17)] ts = none) (h2 : opOf 1 [(Z1P, 16)] ts = none) (h3 : opOf 5 cmpO ts = none) (h4 : opOf 5 addO ts = some q) (h5 : opOf 5 mulO ts = none) (h6 : isT 1 w_IS ts = false)
 | mul (q : Int) (hq : 0 < q) (h : binR ts = (q, 6)) (h1 : opOf 1 [(w_OR, 17)] ts = none) (h2 : opOf 1 [(Z1P, 16)] ts = none) (h3 : opOf 5 cmpO ts = none) (h4 : opOf 5 addO ts = none) (h5 : opOf 5 mulO ts = some q) (h6 : isT 1 w_IS ts = false)
 | no (h : binR ts = (0, 0)) (h1 : opOf 1 [(w_OR, 17)] ts = none) (h2 : opOf 1 [(Z1P, 16)] ts = none) (h3 : opOf 5 cmpO ts = none) (h4 : opOf 5 addO ts = none) (h5 : opOf 5 mulO ts = none)
theorem cls (ts : List T3) : Cls ts := by
 cases h0 : isT 1 w_OR ts with
 | true =>
   have n_w_AND : isT 1 Z1P ts = false := Z4 h0 qD
   have n_s_eq : isT 5 s_eq ts = false := Z4 h0 qD
   have n_s_ne : isT 5 s_ne ts = false := Z4 h0 qD
   have n_s_lt : isT 5 s_lt ts = false := Z4 h0 qD
   have n_s_le : isT 5 s_le ts = false := Z4 h0 qD
   have n_s_gt : isT 5 s_gt ts = false := Z4 h0 qD
   have n_s_ge : isT 5 s_ge ts = false := Z4 h0 qD
   have n_s_plus : isT 5 Z2x ts = false := Z4 h0 qD
   have n_s_minus : isT 5 Z1d ts = false := Z4 h0 qD
   have n_s_star : isT 5 Z14 ts = false := Z4 h0 qD
   have n_s_slash : isT 5 Z22 ts = false := Z4 h0 qD
   have n_s_pct : isT 5 Z3d ts = false := Z4 h0 qD
   have n_w_IS : isT 1 w_IS ts = false := Z4 h0 qD
   exact .or qX h0 qX qX qX qX n_w_IS qX
 | false =>
 cases h1 : isT 1 Z1P ts with
 | true =>
   have n_w_OR : isT 1 w_OR ts = false := Z4 h1 qD
   have n_s_eq : isT 5 s_eq ts = false := Z4 h1 qD
   have n_s_ne : isT 5 s_ne ts = false := Z4 h1 qD
   have n_s_lt : isT 5 s_lt ts = false := Z4 h1 qD
   have n_s_le : isT 5 s_le ts = false := Z4 h1 qD
   have n_s_gt : isT 5 s_gt ts = false := Z4 h1 qD
   have n_s_ge : isT 5 s_ge ts = false := Z4 h1 qD
   have n_s_plus : isT 5 Z2x ts = false := Z4 h1 qD
   have n_s_minus : isT 5 Z1d ts = false := Z4 h1 qD
   have n_s_star : isT 5 Z14 ts = false := Z4 h1 qD
   have n_s_slash : isT 5 Z22 ts = false := Z4 h1 qD
   have n_s_pct : isT 5 Z3d ts = false := Z4 h1 qD
   have n_w_IS : isT 1 w_IS ts = false := Z4 h1 qD
   exact .and qX qX qX qX qX qX n_w_IS
 | false =>
 cases c0 : isT 5 s_eq ts with
 | true =>
   have n_w_OR : isT 1 w_OR ts = false := Z4 c0 qD
   have n_w_AND : isT 1 Z1P ts = false := Z4 c0 qD
   have n_s_ne : isT 5 s_ne ts = false := Z4 c0 qD
   have n_s_lt : isT 5 s_lt ts = false := Z4 c0 qD
   have n_s_le : isT 5 s_le ts = false := Z4 c0 qD
   have n_s_gt : isT 5 s_gt ts = false := Z4 c0 qD
   have n_s_ge : isT 5 s_ge ts = false := Z4 c0 qD
   have n_s_plus : isT 5 Z2x ts = false := Z4 c0 qD
   have n_s_minus : isT 5 Z1d ts = false := Z4 c0 qD
   have n_s_star : isT 5 Z14 ts = false := Z4 c0 qD
   have n_s_slash : isT 5 Z22 ts = false := Z4 c0 qD
   have n_s_pct : isT 5 Z3d ts = false := Z4 c0 qD
   have n_w_IS : isT 1 w_IS ts = false := Z4 c0 qD
   exact .cmp 10 qD qX qX qX qX qX qX n_w_IS
 | false =>
 cases c1 : isT 5 s_ne ts with
 | true =>
   have n_w_OR : isT 1 w_OR ts = false := Z4 c1 qD
   have n_w_AND : isT 1 Z1P ts = false := Z4 c1 qD
   have n_s_eq : isT 5 s_eq ts = false := Z4 c1 qD
   have n_s_lt : isT 5 s_lt ts = false := Z4 c1 qD
   have n_s_le : isT 5 s_le ts = false := Z4 c1 qD
   have n_s_gt : isT 5 s_gt ts = false := Z4 c1 qD
   have n_s_ge : isT 5 s_ge ts = false := Z4 c1 qD
   have n_s_plus : isT 5 Z2x ts = false := Z4 c1 qD
   have n_s_minus : isT 5 Z1d ts = false := Z4 c1 qD
   have n_s_star : isT 5 Z14 ts = false := Z4 c1 qD
   have n_s_slash : isT 5 Z22 ts = false := Z4 c1 qD
   have n_s_pct : isT 5 Z3d ts = false := Z4 c1 qD
   have n_w_IS : isT 1 w_IS ts = false := Z4 c1 qD
   exact .cmp 11 qD qX qX qX qX qX qX n_w_IS
 | false =>
 cases c2 : isT 5 s_lt ts with
 | true =>
   have n_w_OR : isT 1 w_OR ts = false := Z4 c2 qD
   have n_w_AND : isT 1 Z1P ts = false := Z4 c2 qD
   have n_s_eq : isT 5 s_eq ts = false := Z4 c2 qD
   have n_s_ne : isT 5 s_ne ts = false := Z4 c2 qD
   have n_s_le : isT 5 s_le ts = false := Z4 c2 qD
   have n_s_gt : isT 5 s_gt ts = false := Z4 c2 qD
   have n_s_ge : isT 5 s_ge ts = false := Z4 c2 qD
   have n_s_plus : isT 5 Z2x ts = false := Z4 c2 qD
   have n_s_minus : isT 5 Z1d ts = false := Z4 c2 qD
   have n_s_star : isT 5 Z14 ts = false := Z4 c2 qD
   have n_s_slash : isT 5 Z22 ts = false := Z4 c2 qD
   have n_s_pct : isT 5 Z3d ts = false := Z4 c2 qD
   have n_w_IS : isT 1 w_IS ts = false := Z4 c2 qD
   exact .cmp 12 qD qX qX qX qX qX qX n_w_IS
 | false =>
 cases c3 : isT 5 s_le ts with
 | true =>
   have n_w_OR : isT 1 w_OR ts = false := Z4 c3 qD
   have n_w_AND : isT 1 Z1P ts = false := Z4 c3 qD
   have n_s_eq : isT 5 s_eq ts = false := Z4 c3 qD
   have n_s_ne : isT 5 s_ne ts = false := Z4 c3 qD
   have n_s_lt : isT 5 s_lt ts = false := Z4 c3 qD
   have n_s_gt : isT 5 s_gt ts = false := Z4 c3 qD
   have n_s_ge : isT 5 s_ge ts = false := Z4 c3 qD
   have n_s_plus : isT 5 Z2x ts = false := Z4 c3 qD
   have n_s_minus : isT 5 Z1d ts = false := Z4 c3 qD
   have n_s_star : isT 5 Z14 ts = false := Z4 c3 qD
   have n_s_slash : isT 5 Z22 ts = false := Z4 c3 qD
   have n_s_pct : isT 5 Z3d ts = false := Z4 c3 qD
   have n_w_IS : isT 1 w_IS ts = false := Z4 c3 qD
   exact .cmp 13 qD qX qX qX qX qX qX n_w_IS
 | false =>
 cases c4 : isT 5 s_gt ts with
 | true =>
   have n_w_OR : isT 1 w_OR ts = false := Z4 c4 qD
   have n_w_AND : isT 1 Z1P ts = false := Z4 c4 qD
   have n_s_eq : isT 5 s_eq ts = false := Z4 c4 qD
   have n_s_ne : isT 5 s_ne ts = false := Z4 c4 qD
   have n_s_lt : isT 5 s_lt ts = false := Z4 c4 qD
   have n_s_le : isT 5 s_le ts = false := Z4 c4 qD
   have n_s_ge : isT 5 s_ge ts = false := Z4 c4 qD
   have n_s_plus : isT 5 Z2x ts = false := Z4 c4 qD
   have n_s_minus : isT 5 Z1d ts = false := Z4 c4 qD
   have n_s_star : isT 5 Z14 ts = false := Z4 c4 qD
   have n_s_slash : isT 5 Z22 ts = false := Z4 c4 qD
   have n_s_pct : isT 5 Z3d ts = false := Z4 c4 qD
   have n_w_IS : isT 1 w_IS ts = false := Z4 c4 qD
   exact .cmp 14 qD qX qX qX qX qX qX n_w_IS
 | false =>
 cases c5 : isT 5 s_ge ts with
 | true =>
   have n_w_OR : isT 1 w_OR ts = false := Z4 c5 qD
   have n_w_AND : isT 1 Z1P ts = false := Z4 c5 qD
   have n_s_eq : isT 5 s_eq ts = false := Z4 c5 qD
   have n_s_ne : isT 5 s_ne ts = false := Z4 c5 qD
   have n_s_lt : isT 5 s_lt ts = false := Z4 c5 qD
   have n_s_le : isT 5 s_le ts = false := Z4 c5 qD
   have n_s_gt : isT 5 s_gt ts = false := Z4 c5 qD
   have n_s_plus : isT 5 Z2x ts = false := Z4 c5 qD
   have n_s_minus : isT 5 Z1d ts = false := Z4 c5 qD
   have n_s_star : isT 5 Z14 ts = false := Z4 c5 qD
   have n_s_slash : isT 5 Z22 ts = false := Z4 c5 qD
   have n_s_pct : isT 5 Z3d ts = false := Z4 c5 qD
   have n_w_IS : isT 1 w_IS ts = false := Z4 c5 qD
   exact .cmp 15 qD qX qX qX qX qX qX n_w_IS
 | false =>
 cases a0 : isT 5 Z2x ts with
 | true =>
   have n_w_OR : isT 1 w_OR ts = false := Z4 a0 qD
   have n_w_AND : isT 1 Z1P ts = false := Z4 a0 qD
   have n_s_eq : isT 5 s_eq ts = false := Z4 a0 qD
   have n_s_ne : isT 5 s_ne ts = false := Z4 a0 qD
   have n_s_lt : isT 5 s_lt ts = false := Z4 a0 qD
   have n_s_le : isT 5 s_le ts = false := Z4 a0 qD
   have n_s_gt : isT 5 s_gt ts = false := Z4 a0 qD
   have n_s_ge : isT 5 s_ge ts = false := Z4 a0 qD
   have n_s_minus : isT 5 Z1d ts = false := Z4 a0 qD
   have n_s_star : isT 5 Z14 ts = false := Z4 a0 qD
   have n_s_slash : isT 5 Z22 ts = false := Z4 a0 qD
   have n_s_pct : isT 5 Z3d ts = false := Z4 a0 qD
   have n_w_IS : isT 1 w_IS ts = false := Z4 a0 qD
   exact .add 5 qD qX qX qX qX qX qX n_w_IS
 | false =>
 cases a1 : isT 5 Z1d ts with
 | true =>
   have n_w_OR : isT 1 w_OR ts = false := Z4 a1 qD
   have n_w_AND : isT 1 Z1P ts = false := Z4 a1 qD
   have n_s_eq : isT 5 s_eq ts = false := Z4 a1 qD
   have n_s_ne : isT 5 s_ne ts = false := Z4 a1 qD
   have n_s_lt : isT 5 s_lt ts = false := Z4 a1 qD
   have n_s_le : isT 5 s_le ts = false := Z4 a1 qD
   have n_s_gt : isT 5 s_gt ts = false := Z4 a1 qD
   have n_s_ge : isT 5 s_ge ts = false := Z4 a1 qD
   have n_s_plus : isT 5 Z2x ts = false := Z4 a1 qD
   have n_s_star : isT 5 Z14 ts = false := Z4 a1 qD
   have n_s_slash : isT 5 Z22 ts = false := Z4 a1 qD
   have n_s_pct : isT 5 Z3d ts = false := Z4 a1 qD
   have n_w_IS : isT 1 w_IS ts = false := Z4 a1 qD
   exact .add 6 qD qX qX qX qX qX qX n_w_IS
 | false =>
 cases m0 : isT 5 Z14 ts with
 | true =>
   have n_w_OR : isT 1 w_OR ts = false := Z4 m0 qD
   have n_w_AND : isT 1 Z1P ts = false := Z4 m0 qD
   have n_s_eq : isT 5 s_eq ts = false := Z4 m0 qD
   have n_s_ne : isT 5 s_ne ts = false := Z4 m0 qD
   have n_s_lt : isT 5 s_lt ts = false := Z4 m0 qD
   have n_s_le : isT 5 s_le ts = false := Z4 m0 qD
   have n_s_gt : isT 5 s_gt ts = false := Z4 m0 qD
   have n_s_ge : isT 5 s_ge ts = false := Z4 m0 qD
   have n_s_plus : isT 5 Z2x ts = false := Z4 m0 qD
   have n_s_minus : isT 5 Z1d ts = false := Z4 m0 qD
   have n_s_slash : isT 5 Z22 ts = false := Z4 m0 qD
   have n_s_pct : isT 5 Z3d ts = false := Z4 m0 qD
   have n_w_IS : isT 1 w_IS ts = false := Z4 m0 qD
   exact .mul 7 qD qX qX qX qX qX qX n_w_IS
 | false =>
 cases m1 : isT 5 Z22 ts with
 | true =>
   have n_w_OR : isT 1 w_OR ts = false := Z4 m1 qD
   have n_w_AND : isT 1 Z1P ts = false := Z4 m1 qD
   have n_s_eq : isT 5 s_eq ts = false := Z4 m1 qD
   have n_s_ne : isT 5 s_ne ts = false := Z4 m1 qD
   have n_s_lt : isT 5 s_lt ts = false := Z4 m1 qD
   have n_s_le : isT 5 s_le ts = false := Z4 m1 qD
   have n_s_gt : isT 5 s_gt ts = false := Z4 m1 qD
   have n_s_ge : isT 5 s_ge ts = false := Z4 m1 qD
   have n_s_plus : isT 5 Z2x ts = false := Z4 m1 qD
   have n_s_minus : isT 5 Z1d ts = false := Z4 m1 qD
   have n_s_star : isT 5 Z14 ts = false := Z4 m1 qD
   have n_s_pct : isT 5 Z3d ts = false := Z4 m1 qD
   have n_w_IS : isT 1 w_IS ts = false := Z4 m1 qD
   exact .mul 8 qD qX qX qX qX qX qX n_w_IS
 | false =>
 cases m2 : isT 5 Z3d ts with
 | true =>
   have n_w_OR : isT 1 w_OR ts = false := Z4 m2 qD
   have n_w_AND : isT 1 Z1P ts = false := Z4 m2 qD
   have n_s_eq : isT 5 s_eq ts = false := Z4 m2 qD
   have n_s_ne : isT 5 s_ne ts = false := Z4 m2 qD
   have n_s_lt : isT 5 s_lt ts = false := Z4 m2 qD
   have n_s_le : isT 5 s_le ts = false := Z4 m2 qD
   have n_s_gt : isT 5 s_gt ts = false := Z4 m2 qD
   have n_s_ge : isT 5 s_ge ts = false := Z4 m2 qD
   have n_s_plus : isT 5 Z2x ts = false := Z4 m2 qD
   have n_s_minus : isT 5 Z1d ts = false := Z4 m2 qD
   have n_s_star : isT 5 Z14 ts = false := Z4 m2 qD
   have n_s_slash : isT 5 Z22 ts = false := Z4 m2 qD
   have n_w_IS : isT 1 w_IS ts = false := Z4 m2 qD
   exact .mul 9 qD qX qX qX qX qX qX n_w_IS
 | false =>
 exact .no qX qX qX qX qX qX
end Go.Pz
namespace Go.Pz
open Go Go.Vc
theorem Z7R {part : Ps Ex} {k : Int} {ops : List (ByteArray × Int)} (hp : Dn part) : ∀ (n m : Nat) (x : Ex) (ts : List T3), ts.length ≤ n → ts.length ≤ m → chainG part k ops n x ts = chainG part k ops m x ts
 | 0, m, x, ts, h, _ => by
   have : ts = [] := List.length_eq_zero_iff.1 qM
   subst this
   cases m with
   | zero => rfl
   | succ m => rw [chainG, chainG, show opOf k ops [] = none by induction ops with | nil => rfl | cons a l ih => obtain ⟨s, n⟩ := a; exact ih]
 | n + 1, 0, x, ts, _, h => by
   have : ts = [] := List.length_eq_zero_iff.1 qM
   subst this
   rw [chainG, chainG, show opOf k ops [] = none by induction ops with | nil => rfl | cons a l ih => obtain ⟨s, n⟩ := a; exact ih]
 | n + 1, m + 1, x, ts, h, h' => by
   unfold chainG
   split
   · rfl
   · rename_i q hq
     have h1 := (Z4O hq).2
     exact Zn fun y hy => Z7R hp n m _ _ (by have := (hp _ _ hy).2; omega) (by have := (hp _ _ hy).2; omega)
def chainC (part : Ps Ex) (k : Int) (ops : List (ByteArray × Int)) (x : Ex) : Ps Ex := fun ts => chainG part k ops ts.length x ts
theorem Z6f (part : Ps Ex) (k : Int) (ops : List (ByteArray × Int)) (ts : List T3) : chainP part k ops ts = (part ts).bind fun z => chainC part k ops z.1 z.2 := rfl
theorem Z9D {part : Ps Ex} {k : Int} {ops : List (ByteArray × Int)} {x : Ex} {ts : List T3} (h : opOf k ops ts = none) : chainC part k ops x ts = some (x, ts) := by
 unfold chainC
 cases ts.length with
 | zero => rfl
 | succ n => rw [chainG, h]
theorem Z8N {part : Ps Ex} {k q : Int} {ops : List (ByteArray × Int)} {x : Ex} {ts : List T3} (hp : Dn part) (h : opOf k ops ts = some q) : chainC part k ops x ts = (part ts.tail).bind fun z => chainC part k ops (nd q [x, z.1]) z.2 := by
 have h1 := (Z4O h).2
 unfold chainC
 rw [Z7R hp _ (ts.length + 1) x ts qM qM, chainG, h]
 exact Zn fun y hy => Z7R hp _ _ _ _ (by have := (hp _ _ hy).2; omega) qM
theorem Z7A {e : Int → Ps Ex} {l : Int} {m : Nat} {x : Ex} {c : Bool} : loopR e l m x c [] = some (x, []) := by
 cases m with
 | zero => rfl
 | succ m => simp [loopR, binR, binG, isT]
theorem Z5I {e : Int → Ps Ex} {l : Int} (he : ∀ b, Dn (e b)) : ∀ (n m : Nat) (x : Ex) (c : Bool) (ts : List T3), ts.length ≤ n → ts.length ≤ m → loopR e l n x c ts = loopR e l m x c ts
 | 0, m, x, c, ts, h, _ => by
   have : ts = [] := List.length_eq_zero_iff.1 qM
   subst this; rw [Z7A, Z7A]
 | n + 1, 0, x, c, ts, _, h => by
   have : ts = [] := List.length_eq_zero_iff.1 qM
   subst this; rw [Z7A, Z7A]
 | n + 1, m + 1, x, c, ts, h, h' => by
   rw [loopR, loopR]
   split
   · refine Zn fun y hy => Z5I he n m _ _ _ ?_ ?_ <;> (have h1 := (he _ _ _ hy).2; have h2 : ts.tail.length ≤ ts.length := (List.tail_suffix ts).length_le; simp at h1; omega)
   · split
     · refine Zn fun y hy => Z5I he n m _ _ _ ?_ ?_ <;> (have h1 := (Z8 _ _ _ _ hy).2; have h2 := (Z3c 1 ZY ts.tail).length_le; simp at h2; omega)
     · rfl
def loopC (e : Int → Ps Ex) (l : Int) (x : Ex) (c : Bool) : Ps Ex := fun ts => loopR e l ts.length x c ts
theorem ZdD {e : Int → Ps Ex} (he : ∀ b, Dn (e b)) (l : Int) (x : Ex) (c : Bool) (ts : List T3) : loopC e l x c ts =
   if (decide (0 < (binR ts).1) && decide (l < (binR ts).2)) && !(c && decide (4 ≤ (binR ts).2)) then (e (binR ts).2 ts.tail).bind fun z => loopC e l (nd (binR ts).1 [x, z.1]) (c || decide ((binR ts).2 ≤ 4)) z.2
   else if (((binR ts).1 == 0 && decide (l < 4)) && !c) && isT 1 w_IS ts then (wantP 1 Z1D (skT 1 ZY ts.tail)).bind fun v => loopC e l (nd (if isT 1 ZY ts.tail then 19 else 18) [x]) true v.2
   else some (x, ts) := by
 unfold loopC
 rw [Z5I he _ (ts.length + 1) x c ts qM qM, loopR]
 split
 · refine Zn fun y hy => Z5I he _ _ _ _ _ ?_ qM
   have h1 := (he _ _ _ hy).2; have h2 : ts.tail.length ≤ ts.length := (List.tail_suffix ts).length_le; omega
 · split
   · refine Zn fun y hy => Z5I he _ _ _ _ _ ?_ qM
     have h1 := (Z8 _ _ _ _ hy).2; have h2 := (Z3c 1 ZY ts.tail).length_le; simp at h2; omega
   · rfl
def lev (b : Int) : Ps Ex := if b = 0 then orP exprX else if b = 1 then andP exprX else if b = 2 then notP exprX else if b = 4 then sumP exprX else if b = 5 then prodP exprX else factorP exprX
theorem Zgk (b : Int) : Dn (lev b) := by
 have h := Z5U.le
 unfold lev
 repeat' split
 · exact Zhm h
 · exact Z6T h
 · exact Z6g h
 · exact Z2z h
 · exact Z6b h
 · exact Z3Y h
theorem bas {α β γ : Type} (p : Option α) (f : α → Option β) (g : β → Option γ) : (p.bind f).bind g = p.bind fun x => (f x).bind g := Option.bind_assoc p f g
section
theorem fD : Dn (factorP exprX) := Z3Y Z5U.le
theorem pD : Dn (prodP exprX) := Z6b Z5U.le
theorem nD : Dn (notP exprX) := Z6g Z5U.le
theorem aD : Dn (andP exprX) := Z6T Z5U.le
end
end Go.Pz
namespace Go.Pz
open Go Go.Vc
section
section
variable {l b q : Int} {x : Ex} {c : Bool} {ts : List T3}
theorem stStop (h : binR ts = (q, b)) (hq : 0 < q) (hl : (decide (l < b) && !(c && decide (4 ≤ b))) = false) : (loopC lev) l x c ts = some (x, ts) := by
 have h1 : ((decide (0 < q) && decide (l < b)) && !(c && decide (4 ≤ b))) = false := by rw [Bool.and_assoc, hl, Bool.and_false]
 have h2 : (q == 0) = false := by rw [beq_eq_false_iff_ne]; omega
 rw [ZdD Zgk, h, if_neg (by rw [h1]; decide), if_neg (by rw [h2]; simp)]
theorem stNo (h : binR ts = (0, 0)) (hl : ((decide (l < 4) && !c) && isT 1 w_IS ts) = false) : (loopC lev) l x c ts = some (x, ts) := by
 rw [ZdD Zgk, h, if_neg (by simp), if_neg (by rw [show (((0 : Int) == 0 && decide (l < 4)) && !c) = (decide (l < 4) && !c) from rfl, hl]; decide)]
end
theorem loop2t (x : Ex) (ts : List T3) : (loopC lev) 2 x true ts = some (x, ts) := by
 cases cls ts with
 | mul q hq h h1 h2 h3 h4 h5 h6 => exact stStop h hq qD
 | add q hq h h1 h2 h3 h4 h5 h6 => exact stStop h hq qD
 | cmp q hq h h1 h2 h3 h4 h5 h6 => exact stStop h hq qD
 | and h h1 h2 h3 h4 h5 h6 => exact stStop h qD qD
 | or h h1 h2 h3 h4 h5 h6 h7 => exact stStop h qD qD
 | no h h1 h2 h3 h4 h5 => exact stNo h (by rfl)
theorem Z5J {ts : List T3} (h : isT 1 ZY ts = true) : notP exprX ts = (notP exprX ts.tail).bind fun z => (loopC lev) 2 (nd 4 [z.1]) true z.2 := by
 obtain ⟨t, r, rfl, _⟩ := Z56 h
 rw [notP, if_pos h]
 show (notP exprX r).map _ = (notP exprX r).bind _
 cases notP exprX r with
 | none => rfl
 | some y => exact (loop2t _ _).symm
end
end Go.Pz
namespace Go.Pz
open Go Go.Vc
theorem Zig : Dn typeP := fun ts z h => by
 unfold typeP at h
 split at h
 · rename_i hi; injection h with h; subst h; exact Zz hi
 split at h
 · rename_i hi; injection h with h; subst h; exact Zz hi
 split at h
 · rename_i hi; injection h with h; subst h; exact Zz hi
 · cases h
theorem Zci (n : ByteArray) (t : Int) (nn : Bool) : Dn0 (colEnd n t nn) := fun ts z h => by
 unfold colEnd at h
 split at h
 · rename_i hi
   obtain ⟨v, h7, rfl⟩ := mpd h
   exact (Z8 _ _ _ _ h7).1.trans (Zz hi).1
 · injection h with h; subst h; exact Z3c _ _ _
theorem ZbR : Dn colP := fun ts z h => by
 obtain ⟨n, h1, h2⟩ := bnd h
 obtain ⟨t, h3, h4⟩ := bnd h2
 have h5 : Lt t.2 ts := Lt.trans (Zig _ _ h3) (Zw _ _ h1).1
 split at h4
 · rename_i hi
   obtain ⟨v, h6, h7⟩ := bnd h4
   exact Lt.trans' ((Zci _ _ _ _ _ h7).trans ((Z8 _ _ _ _ h6).1.trans (Zz hi).1)) h5
 · exact Lt.trans' (Zci _ _ _ _ _ h4) h5
theorem Zb4 {α : Type} {part : Ps α} (hp : Dn0 part) : ∀ n, Dn0 (listG part n)
 | 0, ts, z, h => by rw [listG] at h; injection h with h; subst h; exact List.suffix_refl ts
 | n + 1, ts, z, h => by
   rw [listG] at h
   split at h
   · rename_i hi
     obtain ⟨w, h1, h2⟩ := bnd h
     obtain ⟨y, h3, rfl⟩ := mpd h2
     exact (Zb4 hp n _ _ h3).trans ((hp _ _ h1).trans (Zz hi).1)
   · injection h with h; subst h; exact List.suffix_refl ts
theorem Z2w {α : Type} {part : Ps α} (hp : Dn0 part) (most : Nat) : Dn0 (listP most part) := fun ts z h => by
 obtain ⟨w, h1, h2⟩ := bnd h
 obtain ⟨y, h3, h4⟩ := bnd h2
 split at h4
 · injection h4 with h4; subst h4; exact (show y.2 <:+ w.2 from Zb4 hp _ _ _ h3).trans (hp _ _ h1)
 · cases h4
theorem Z3a {α : Type} {part : Ps α} (hp : Dn part) (most : Nat) : Dn (listP most part) := fun ts z h => by
 obtain ⟨w, h1, h2⟩ := bnd h
 obtain ⟨y, h3, h4⟩ := bnd h2
 split at h4
 · injection h4 with h4; subst h4; exact Lt.trans' (show y.2 <:+ w.2 from Zb4 hp.le _ _ _ h3) (hp _ _ h1)
 · cases h4
theorem Z2a {α : Type} {part : Ps α} (hp : Dn0 part) : Dn (withinP part) := fun ts z h => by
 obtain ⟨a, h1, h2⟩ := bnd h
 obtain ⟨l, h3, h4⟩ := bnd h2
 obtain ⟨v, h5, rfl⟩ := mpd h4
 exact Lt.trans (Z8 _ _ _ _ h5) ((Z2w hp 16 _ _ h3).trans (Z8 _ _ _ _ h1).1)
theorem Z3X {e : Ps Ex} (he : Dn e) : Dn (itemP e) := fun ts z h => by
 unfold itemP at h
 split at h
 · rename_i hi; injection h with h; subst h; exact Zz hi
 · obtain ⟨v, h5, rfl⟩ := mpd h; exact he _ _ h5
theorem Z4I {e : Ps Ex} (he : Dn e) : Dn (keyP e) := fun ts z h => by
 obtain ⟨v, h5, h6⟩ := mpd h
 have h7 := he _ _ h5
 split at h6
 · rename_i hi; subst h6; exact Lt.trans (Zz hi) h7.1
 · subst h6; exact Lt.trans' (Z3c _ _ _) h7
theorem Z4F {e : Ps Ex} (he : Dn e) : Dn (setP e) := fun ts z h => by
 obtain ⟨a, h1, h2⟩ := bnd h
 obtain ⟨l, h3, h4⟩ := bnd h2
 obtain ⟨v, h5, rfl⟩ := mpd h4
 exact Lt.trans (he _ _ h5) ((Z8 _ _ _ _ h3).1.trans (Zw _ _ h1).1)
theorem Z2E : Dn sourceP := fun ts z h => by
 obtain ⟨a, h1, h2⟩ := bnd h
 have h3 := Zw _ _ h1
 split at h2
 · rename_i hi
   obtain ⟨v, h5, rfl⟩ := mpd h2
   exact Lt.trans (Zw _ _ h5) ((Zz hi).1.trans h3.1)
 split at h2
 · obtain ⟨v, h5, rfl⟩ := mpd h2
   exact Lt.trans (Zw _ _ h5) h3.1
 · injection h2 with h2; subst h2; exact h3
theorem Z4u {e : Ps Ex} (he : Dn e) : Dn (joinP e) := fun ts z h => by
 obtain ⟨a, h1, h2⟩ := bnd h
 obtain ⟨s, h3, h4⟩ := bnd h2
 obtain ⟨b, h5, h6⟩ := bnd h4
 obtain ⟨v, h7, rfl⟩ := mpd h6
 exact Lt.trans (he _ _ h7) ((Z8 _ _ _ _ h5).1.trans ((Z2E _ _ h3).1.trans (Z8 _ _ _ _ h1).1))
def Stop (q : List T3) : Prop := ∀ k s, (k == 5 && (sq s Z8r || sq s s_rp)) = false → isT k s q = false
def Stab {α : Type} (q : List T3) (p p' : Ps α) : Prop := ∀ l z, p l = some z → p' (l ++ q) = some (z.1, z.2 ++ q)
section
variable {q : List T3} (hq : Stop q)
theorem Zed {k : Int} {s : ByteArray} {l : List T3} (h : isT k s l = true) : l ≠ [] := by
 obtain ⟨t, r, rfl, _⟩ := Z56 h; simp
include hq
section
variable {e e' : Ps Ex} (he : Stab q e e')
include he
end
section
variable {e e' : Ps Ex} (he : Stab q e e') (hd : Dn e)
include he
include hd
end
end
end Go.Pz
set_option maxRecDepth 20000
namespace Go.Pz
open Go Go.Vc
theorem Z2d {k : Int} {s : ByteArray} {t : T3} {r : List T3} (h : isT k s (t :: r) = true) : wantP k s (t :: r) = some ((), r) := by
 unfold wantP; rw [if_pos h]; rfl
theorem ZjF {k : Int} {t : T3} {r : List T3} (h : (t.k == k) = true) : takeP k (t :: r) = some (t, r) := by
 rw [takeP, if_pos h]
theorem Z60 {t : T3} {r : List T3} (h : (t.k == 2) = true) : nameP (t :: r) = some (t.t, r) := by
 unfold nameP; rw [ZjF h]; rfl
abbrev kw (s : ByteArray) : T3 := ⟨1, s, 0⟩
abbrev nm_ (s : ByteArray) : T3 := ⟨2, s, 0⟩
abbrev sg (s : ByteArray) : T3 := ⟨5, s, 0⟩
end Go.Pz
set_option maxRecDepth 20000
namespace Go.Pz
open Go Go.Vc
abbrev binO : List (Int × ByteArray × Int) := [(5, Z2x, 5), (5, Z1d, 6), (5, Z14, 7), (5, Z22, 8), (5, Z3d, 9), (5, s_eq, 10), (5, s_ne, 11), (5, s_lt, 12), (5, s_le, 13), (5, s_gt, 14), (5, s_ge, 15), (1, Z1P, 16), (1, w_OR, 17)]
def aggW (k : Int) : ByteArray := if k == 20 then Z3L else if k == 21 then Za7 else if k == 22 then Zan else Zad
def binT (k : Int) : T3 := ((binO.find? (fun o => o.2.2 == k)).map fun o => (⟨o.1, o.2.1, 0⟩ : T3)).getD t3D
inductive Wf (nk : ByteArray → Prop) : Ex → Prop
 | num {n : Int} (h0 : 0 ≤ n) (h1 : n ≤ 9223372036854775807) : Wf nk (lit 1 n em)
 | txt {s : ByteArray} (h : s.size ≤ 64) : Wf nk (lit 3 0 s)
 | tru : Wf nk (lit 2 1 em)
 | fls : Wf nk (lit 2 0 em)
 | nul : Wf nk (lit 0 0 em)
 | col {s : ByteArray} (h : nk s) : Wf nk (.mk 2 0 0 em em s 0 [])
 | tcol {t s : ByteArray} (ht : nk t) (h : nk s) : Wf nk (.mk 2 0 0 em t s 0 [])
 | neg {x : Ex} (h : Wf nk x) : Wf nk (nd 3 [x])
 | not {x : Ex} (h : Wf nk x) : Wf nk (nd 4 [x])
 | isn {x : Ex} (h : Wf nk x) : Wf nk (nd 18 [x])
 | iss {x : Ex} (h : Wf nk x) : Wf nk (nd 19 [x])
 | bin {q : Int} {x y : Ex} (h5 : 5 ≤ q) (h17 : q ≤ 17) (hx : Wf nk x) (hy : Wf nk y) : Wf nk (nd q [x, y])
 | cnt : Wf nk (nd 20 [])
 | agg {q : Int} {x : Ex} (h0 : 20 ≤ q) (h1 : q ≤ 23) (hx : Wf nk x) : Wf nk (nd q [x])
def litT (vk vn : Int) (vs : ByteArray) : T3 := if vk == 1 then ⟨3, em, vn⟩ else if vk == 3 then ⟨4, vs, 0⟩ else if vk == 2 then (if vn == 1 then kw Z8A else kw Z6U) else kw Z1D
def big (x : Ex) : Bool := decide (0 < x.KS.length) && decide (x.K < 20)
abbrev hd0 {α : Type} (l : List (List α × List α)) : List α := (l.getD 0 ([], [])).2
abbrev hd1 {α : Type} (l : List (List α × List α)) : List α := (l.getD 1 ([], [])).2
def parT (x : Ex) (l : List T3) : List T3 := if big x then sg s_lp :: (l ++ [sg s_rp]) else l
mutual
def tkE : Ex → List T3
 | .mk k vk vn vs tb nm _ kids =>
   if k == 1 then [litT vk vn vs]
   else if k == 2 then (if sq tb em then [nm_ nm] else [nm_ tb, sg Z2T, nm_ nm])
   else if k == 3 then sg Z1d :: hd0 (tkEs kids)
   else if k == 4 then kw ZY :: hd0 (tkEs kids)
   else if k == 18 then hd0 (tkEs kids) ++ [kw w_IS, kw Z1D]
   else if k == 19 then hd0 (tkEs kids) ++ [kw w_IS, kw ZY, kw Z1D]
   else if decide (20 ≤ k) then kw (aggW k) :: sg s_lp :: ((match tkEs kids with | [] => [sg Z14] | y :: _ => y.1) ++ [sg s_rp])
   else hd0 (tkEs kids) ++ binT k :: hd1 (tkEs kids)
def tkEs : List Ex → List (List T3 × List T3)
 | [] => []
 | x :: xs => (tkE x, parT x (tkE x)) :: tkEs xs
end
def tkO (x : Ex) : List T3 := parT x (tkE x)
structure Nx (r : List T3) : Prop where
 dot : isT 5 Z2T r = false
 mul : opOf 5 mulO r = none
 add : opOf 5 addO r = none
 cmp : opOf 5 cmpO r = none
 is : isT 1 w_IS r = false
 and : opOf 1 [(Z1P, 16)] r = none
 or : opOf 1 [(w_OR, 17)] r = none
theorem Zbo : Nx [] := ⟨rfl, rfl, rfl, rfl, rfl, rfl, rfl⟩
theorem ZfC (r : List T3) : Nx (sg s_rp :: r) := ⟨rfl, rfl, rfl, rfl, rfl, rfl, rfl⟩
theorem Z7g (r : List T3) : Nx (sg ZC :: r) := ⟨rfl, rfl, rfl, rfl, rfl, rfl, rfl⟩
theorem chain1 {p : Ps Ex} {k : Int} {ops : List (ByteArray × Int)} {ts r : List T3} {x : Ex} (h : p ts = some (x, r)) (hn : opOf k ops r = none) : chainP p k ops ts = some (x, r) := by
 rw [Z6f, h, Option.bind_some, Z9D hn]
theorem chain2 {p : Ps Ex} (hp : Dn p) {k q : Int} {ops : List (ByteArray × Int)} {ts us r : List T3} {t : T3} {x y : Ex} (h : p ts = some (x, t :: us)) (ho : opOf k ops (t :: us) = some q) (h2 : p us = some (y, r)) (hn : opOf k ops r = none) : chainP p k ops ts = some (nd q [x, y], r) := by
 rw [Z6f, h, Option.bind_some, Z8N hp ho, List.tail_cons, h2, Option.bind_some, Z9D hn]
theorem Z89 {ts : List T3} (h : isT 1 ZY ts = false) : notP exprX ts = (sumP exprX ts).bind fun z => cmpP exprX z.1 z.2 := by
 cases ts with
 | nil => rfl
 | cons t r => rw [notP, if_neg (by rw [h]; simp)]
theorem ZkZ {t : T3} {r : List T3} (h : isT 1 ZY (t :: r) = true) : notP exprX (t :: r) = (notP exprX r).map fun z => (nd 4 [z.1], z.2) := by rw [notP, if_pos h]
theorem Zg7 {x : Ex} {r : List T3} (h1 : opOf 5 cmpO r = none) (h2 : isT 1 w_IS r = false) : cmpP exprX x r = some (x, r) := by
 unfold cmpP
 rw [h1]
 dsimp only
 rw [if_neg (by rw [h2]; simp)]
section
variable {ts r : List T3} {x : Ex}
theorem Z9M (h : factorP exprX ts = some (x, r)) (h1 : opOf 5 mulO r = none) (h2 : opOf 5 addO r = none) : sumP exprX ts = some (x, r) := chain1 (chain1 h h1) h2
theorem Z9x (h : factorP exprX ts = some (x, r)) (hn : isT 1 ZY ts = false) (h1 : opOf 5 mulO r = none) (h2 : opOf 5 addO r = none) (h3 : opOf 5 cmpO r = none) (h4 : isT 1 w_IS r = false) : notP exprX ts = some (x, r) := by
 rw [Z89 hn, Z9M h h1 h2, Option.bind_some]; exact Zg7 h3 h4
theorem Z9A (h : notP exprX ts = some (x, r)) (hr : Nx r) : exprX ts = some (x, r) := by
 rw [Z8O]; exact chain1 (chain1 h hr.and) hr.or
theorem Zgh (h : sumP exprX ts = some (x, r)) (hn : isT 1 ZY ts = false) (hr : Nx r) : exprX ts = some (x, r) := Z9A (by rw [Z89 hn, h, Option.bind_some]; exact Zg7 hr.cmp hr.is) hr
theorem Zfc (h : prodP exprX ts = some (x, r)) (hn : isT 1 ZY ts = false) (hr : Nx r) : exprX ts = some (x, r) := Zgh (chain1 h hr.add) hn hr
theorem Zgb (h : factorP exprX ts = some (x, r)) (hn : isT 1 ZY ts = false) (hr : Nx r) : exprX ts = some (x, r) := Zfc (chain1 h hr.mul) hn hr
end
structure Opd (x : Ex) : Prop where
 rd : ∀ r, isT 5 Z2T r = false → factorP exprX (tkO x ++ r) = some (x, r)
 nn : ∀ r, isT 1 ZY (tkO x ++ r) = false
def Rd (x : Ex) : Prop := ∀ r, Nx r → exprX (tkE x ++ r) = some (x, r)
theorem Zb1 {ts : List T3} (h : isT 5 Z1d ts = false) : factorP exprX ts = atomP exprX ts := by
 cases ts with
 | nil => rfl
 | cons t r => rw [factorP, if_neg (by rw [h]; simp)]
theorem Z8j {x : Ex} (hb : big x = true) (h : Rd x) : Opd x := by
 have e : tkO x = sg s_lp :: (tkE x ++ [sg s_rp]) := by unfold tkO parT; rw [if_pos hb]
 refine ⟨fun r _ => ?_, fun r => by rw [e]; rfl⟩
 rw [e]
 have e2 : sg s_lp :: (tkE x ++ [sg s_rp]) ++ r = sg s_lp :: (tkE x ++ sg s_rp :: r) := by simp
 rw [e2, Zb1 rfl, atomP, if_neg qD, if_neg qD, if_neg qD, if_neg qD, Z2d rfl, Option.bind_some]
 dsimp only
 rw [h _ (ZfC r), Option.bind_some]
 dsimp only
 rw [Z2d rfl]; rfl
theorem Z2t {x : Ex} (hb : big x = false) {t : T3} {us : List T3} (e : tkE x = t :: us) (h1 : ∀ r, isT 5 Z1d (t :: r) = false) (h2 : ∀ r, isT 1 ZY (t :: r) = false) (h : ∀ r, isT 5 Z2T r = false → atomP exprX (tkE x ++ r) = some (x, r)) : Opd x ∧ Rd x := by
 have e1 : tkO x = tkE x := by unfold tkO parT; rw [if_neg (by rw [hb]; simp)]
 have hf : ∀ r, isT 5 Z2T r = false → factorP exprX (tkE x ++ r) = some (x, r) := fun r hr => by
   rw [Zb1 (by rw [e]; exact h1 _)]; exact h r hr
 have hn : ∀ r, isT 1 ZY (tkE x ++ r) = false := fun r => by rw [e]; exact h2 _
 exact ⟨⟨fun r hr => by rw [e1]; exact hf r hr, fun r => by rw [e1]; exact hn r⟩, fun r hr => Zgb (hf r hr.dot) (hn r) hr⟩
section
variable {x y : Ex} (ox : Opd x) (oy : Opd y)
include ox
theorem Zg2 : Rd (nd 3 [x]) := fun r hr => by
 show exprX (sg Z1d :: (tkO x ++ r)) = _
 refine Zgb ?_ rfl hr
 rw [factorP, if_pos (show isT 5 Z1d (sg Z1d :: (tkO x ++ r)) = true from rfl), ox.rd r hr.dot]; rfl
theorem ZgQ : Rd (nd 4 [x]) := fun r hr => by
 show exprX (kw ZY :: (tkO x ++ r)) = _
 refine Z9A ?_ hr
 rw [ZkZ rfl, Z9x (ox.rd r hr.dot) (ox.nn r) hr.mul hr.add hr.cmp hr.is]; rfl
theorem Zgm : Rd (nd 18 [x]) := fun r hr => by
 show exprX ((tkO x ++ [kw w_IS, kw Z1D]) ++ r) = _
 rw [List.append_assoc]
 refine Z9A ?_ hr
 rw [Z89 (ox.nn _), Z9M (ox.rd _ rfl) rfl rfl]
 rfl
theorem ZgP : Rd (nd 19 [x]) := fun r hr => by
 show exprX ((tkO x ++ [kw w_IS, kw ZY, kw Z1D]) ++ r) = _
 rw [List.append_assoc]
 refine Z9A ?_ hr
 rw [Z89 (ox.nn _), Z9M (ox.rd _ rfl) rfl rfl]
 rfl
include oy
theorem ZdL {q : Int} {t : T3} (e : tkE (nd q [x, y]) = tkO x ++ t :: tkO y) (h0 : ∀ r, isT 5 Z2T (t :: r) = false) (h1 : ∀ r, opOf 5 mulO (t :: r) = some q) : Rd (nd q [x, y]) := fun r hr => by
 rw [e, List.append_assoc, List.cons_append]
 exact Zfc (chain2 fD (ox.rd _ (h0 _)) (h1 _) (oy.rd r hr.dot) hr.mul) (ox.nn _) hr
theorem ZgF {q : Int} {t : T3} (e : tkE (nd q [x, y]) = tkO x ++ t :: tkO y) (h0 : ∀ r, isT 5 Z2T (t :: r) = false) (h1 : ∀ r, opOf 5 mulO (t :: r) = none) (h2 : ∀ r, opOf 5 addO (t :: r) = some q) : Rd (nd q [x, y]) := fun r hr => by
 rw [e, List.append_assoc, List.cons_append]
 exact Zgh (chain2 pD (chain1 (ox.rd _ (h0 _)) (h1 _)) (h2 _) (chain1 (oy.rd r hr.dot) hr.mul) hr.add) (ox.nn _) hr
theorem Z8b {q : Int} {t : T3} (e : tkE (nd q [x, y]) = tkO x ++ t :: tkO y) (h0 : ∀ r, isT 5 Z2T (t :: r) = false) (h1 : ∀ r, opOf 5 mulO (t :: r) = none) (h2 : ∀ r, opOf 5 addO (t :: r) = none) (h3 : ∀ r, opOf 5 cmpO (t :: r) = some q) : Rd (nd q [x, y]) := fun r hr => by
 rw [e, List.append_assoc, List.cons_append]
 refine Z9A ?_ hr
 rw [Z89 (ox.nn _), Z9M (ox.rd _ (h0 _)) (h1 _) (h2 _), Option.bind_some]
 unfold cmpP
 show (match opOf 5 cmpO (t :: (tkO y ++ r)) with | some q => _ | none => _) = _
 rw [h3]
 show (sumP exprX (tkO y ++ r)).map _ = _
 rw [Z9M (oy.rd r hr.dot) hr.mul hr.add]; rfl
theorem Zkt {q : Int} {t : T3} (e : tkE (nd q [x, y]) = tkO x ++ t :: tkO y) (h0 : ∀ r, isT 5 Z2T (t :: r) = false) (h1 : ∀ r, opOf 5 mulO (t :: r) = none) (h2 : ∀ r, opOf 5 addO (t :: r) = none) (h3 : ∀ r, opOf 5 cmpO (t :: r) = none) (h4 : ∀ r, isT 1 w_IS (t :: r) = false) (h5 : ∀ r, opOf 1 [(Z1P, 16)] (t :: r) = some q) : Rd (nd q [x, y]) := fun r hr => by
 rw [e, List.append_assoc, List.cons_append, Z8O]
 exact chain1 (chain2 nD (Z9x (ox.rd _ (h0 _)) (ox.nn _) (h1 _) (h2 _) (h3 _) (h4 _)) (h5 _) (Z9x (oy.rd r hr.dot) (oy.nn r) hr.mul hr.add hr.cmp hr.is) hr.and) hr.or
theorem Zl9 {q : Int} {t : T3} (e : tkE (nd q [x, y]) = tkO x ++ t :: tkO y) (h0 : ∀ r, isT 5 Z2T (t :: r) = false) (h1 : ∀ r, opOf 5 mulO (t :: r) = none) (h2 : ∀ r, opOf 5 addO (t :: r) = none) (h3 : ∀ r, opOf 5 cmpO (t :: r) = none) (h4 : ∀ r, isT 1 w_IS (t :: r) = false) (h5 : ∀ r, opOf 1 [(Z1P, 16)] (t :: r) = none) (h6 : ∀ r, opOf 1 [(w_OR, 17)] (t :: r) = some q) : Rd (nd q [x, y]) := fun r hr => by
 rw [e, List.append_assoc, List.cons_append, Z8O]
 exact chain2 aD (chain1 (Z9x (ox.rd _ (h0 _)) (ox.nn _) (h1 _) (h2 _) (h3 _) (h4 _)) (h5 _)) (h6 _) (chain1 (Z9x (oy.rd r hr.dot) (oy.nn r) hr.mul hr.add hr.cmp hr.is) hr.and) hr.or
end
theorem Zl0 {q : Int} {x y : Ex} (h5 : 5 ≤ q) (h17 : q ≤ 17) (ox : Opd x) (oy : Opd y) : Rd (nd q [x, y]) := by
 have : q = 5 ∨ q = 6 ∨ q = 7 ∨ q = 8 ∨ q = 9 ∨ q = 10 ∨ q = 11 ∨ q = 12 ∨ q = 13 ∨ q = 14 ∨ q = 15 ∨ q = 16 ∨ q = 17 := by omega
 rcases this with rfl|rfl|rfl|rfl|rfl|rfl|rfl|rfl|rfl|rfl|rfl|rfl|rfl
 · exact ZgF ox oy (t := sg Z2x) rfl (fun _ => rfl) (fun _ => rfl) (fun _ => rfl)
 · exact ZgF ox oy (t := sg Z1d) rfl (fun _ => rfl) (fun _ => rfl) (fun _ => rfl)
 · exact ZdL ox oy (t := sg Z14) rfl (fun _ => rfl) (fun _ => rfl)
 · exact ZdL ox oy (t := sg Z22) rfl (fun _ => rfl) (fun _ => rfl)
 · exact ZdL ox oy (t := sg Z3d) rfl (fun _ => rfl) (fun _ => rfl)
 · exact Z8b ox oy (t := sg s_eq) rfl (fun _ => rfl) (fun _ => rfl) (fun _ => rfl) (fun _ => rfl)
 · exact Z8b ox oy (t := sg s_ne) rfl (fun _ => rfl) (fun _ => rfl) (fun _ => rfl) (fun _ => rfl)
 · exact Z8b ox oy (t := sg s_lt) rfl (fun _ => rfl) (fun _ => rfl) (fun _ => rfl) (fun _ => rfl)
 · exact Z8b ox oy (t := sg s_le) rfl (fun _ => rfl) (fun _ => rfl) (fun _ => rfl) (fun _ => rfl)
 · exact Z8b ox oy (t := sg s_gt) rfl (fun _ => rfl) (fun _ => rfl) (fun _ => rfl) (fun _ => rfl)
 · exact Z8b ox oy (t := sg s_ge) rfl (fun _ => rfl) (fun _ => rfl) (fun _ => rfl) (fun _ => rfl)
 · exact Zkt ox oy (t := kw Z1P) rfl (fun _ => rfl) (fun _ => rfl) (fun _ => rfl) (fun _ => rfl) (fun _ => rfl) (fun _ => rfl)
 · exact Zl9 ox oy (t := kw w_OR) rfl (fun _ => rfl) (fun _ => rfl) (fun _ => rfl) (fun _ => rfl) (fun _ => rfl) (fun _ => rfl) (fun _ => rfl)
theorem ZdM {s : ByteArray} {z : Ex} (h : ∀ r, kwP exprX (kw s :: r) = some (z, r)) : ∀ r, isT 5 Z2T r = false → atomP exprX ([kw s] ++ r) = some (z, r) := fun r _ => h r
theorem Zbm {q : Int} {s : ByteArray} {x : Ex} (hx : Rd x) (hs : aggW q = s) (hq : 20 ≤ q) (ha : ∀ r, kwP exprX (kw s :: r) = (wantP 5 s_lp r).bind fun y => if sq s Z3L && isT 5 Z14 y.2 then (wantP 5 s_rp y.2.tail).map fun v => (nd 20 [], v.2) else (exprX y.2).bind fun x => (wantP 5 s_rp x.2).map fun v => (nd q [x.1], v.2)) (hn : ∀ r, (sq s Z3L && isT 5 Z14 (tkE x ++ r)) = false) : ∀ r, atomP exprX (kw s :: sg s_lp :: (tkE x ++ [sg s_rp]) ++ r) = some (nd q [x], r) := fun r => by
 show kwP exprX (kw s :: (sg s_lp :: (tkE x ++ [sg s_rp]) ++ r)) = _
 rw [ha]
 have e : sg s_lp :: (tkE x ++ [sg s_rp]) ++ r = sg s_lp :: (tkE x ++ sg s_rp :: r) := by simp
 rw [e, Z2d rfl, Option.bind_some]
 dsimp only
 rw [if_neg (by rw [hn]; simp), hx _ (ZfC r), Option.bind_some]
 dsimp only
 rw [Z2d rfl]; rfl
theorem Zfv {x : Ex} (h : Rd x) : ∀ r, isT 5 Z14 (tkE x ++ r) = false := fun r => by
 have h0 := h [] Zbo
 rw [List.append_nil] at h0
 cases e : tkE x with
 | nil => rw [e] at h0; cases h0
 | cons t us =>
   cases hs : isT 5 Z14 (t :: us ++ r) with
   | false => rfl
   | true =>
     exfalso
     obtain ⟨t', r', e', hk, ht⟩ := Z56 hs
     injection e' with e' _
     subst e'
     have hst : ∀ us, isT 5 Z14 (t :: us) = true := fun us => by
       show ((t.k == 5) && (t.t.data.toList == Z14.data.toList)) = true
       rw [hk, ht]; rfl
     rw [e, Z8O] at h0
     have hnn : isT 1 ZY (t :: us) = false := Z4 (hst us) qD
     have hmm : isT 5 Z1d (t :: us) = false := Z4 (hst us) qD
     have hlp : isT 5 s_lp (t :: us) = false := Z4 (hst us) qD
     have ha : atomP exprX (t :: us) = none := by
       rw [atomP, if_neg (by rw [hk]; decide), if_neg (by rw [hk]; decide), if_neg (by rw [hk]; decide), if_neg (by rw [hk]; decide)]
       unfold wantP
       rw [if_neg (by rw [hlp]; simp)]; rfl
     have hf : factorP exprX (t :: us) = none := by rw [Zb1 hmm, ha]
     have h1 : prodP exprX (t :: us) = none := by show chainP _ _ _ _ = none; rw [Z6f, hf]; rfl
     have h2 : sumP exprX (t :: us) = none := by show chainP _ _ _ _ = none; rw [Z6f, h1]; rfl
     have h3 : notP exprX (t :: us) = none := by rw [Z89 hnn, h2]; rfl
     have h4 : andP exprX (t :: us) = none := by show chainP _ _ _ _ = none; rw [Z6f, h3]; rfl
     have h5 : orP exprX (t :: us) = none := by show chainP _ _ _ _ = none; rw [Z6f, h4]; rfl
     rw [h5] at h0
     cases h0
theorem ZiB {nk : ByteArray → Prop} (hnk : ∀ s, nk s → sq s em = false) {x : Ex} (h : Wf nk x) : Opd x ∧ Rd x := by
 induction h with
 | num h0 h1 => exact Z2t rfl (t := ⟨3, em, _⟩) rfl (fun _ => rfl) (fun _ => rfl) (fun r _ => rfl)
 | txt h => exact Z2t rfl (t := ⟨4, _, 0⟩) rfl (fun _ => rfl) (fun _ => rfl) (fun r _ => rfl)
 | tru => exact Z2t rfl (t := kw Z8A) rfl (fun _ => rfl) (fun _ => rfl) (ZdM fun _ => rfl)
 | fls => exact Z2t rfl (t := kw Z6U) rfl (fun _ => rfl) (fun _ => rfl) (ZdM fun _ => rfl)
 | nul => exact Z2t rfl (t := kw Z1D) rfl (fun _ => rfl) (fun _ => rfl) (ZdM fun _ => rfl)
 | col h =>
   refine Z2t rfl (t := nm_ _) rfl (fun _ => rfl) (fun _ => rfl) (fun r hr => ?_)
   show (if isT 5 Z2T r = true then _ else some _) = _
   rw [if_neg (by rw [hr]; simp)]; rfl
 | @tcol t s ht h =>
   have e : tkE (.mk 2 0 0 em t s 0 []) = [nm_ t, sg Z2T, nm_ s] := by
     show (if sq t em = true then _ else _) = _
     rw [if_neg (by rw [hnk t ht]; simp)]
   refine Z2t rfl e (fun _ => rfl) (fun _ => rfl) (fun r hr => ?_)
   rw [e]
   rfl
 | neg h ih => exact ⟨Z8j rfl (Zg2 ih.1), Zg2 ih.1⟩
 | not h ih => exact ⟨Z8j rfl (ZgQ ih.1), ZgQ ih.1⟩
 | isn h ih => exact ⟨Z8j rfl (Zgm ih.1), Zgm ih.1⟩
 | iss h ih => exact ⟨Z8j rfl (ZgP ih.1), ZgP ih.1⟩
 | @bin q x y h5 h17 hx hy ihx ihy =>
   have := Zl0 h5 h17 ihx.1 ihy.1
   refine ⟨Z8j ?_ this, this⟩
   show (decide (0 < 2) && decide (q < 20)) = true
   rw [decide_eq_true (show q < 20 by omega)]; rfl
 | cnt => exact Z2t rfl (t := kw Z3L) rfl (fun _ => rfl) (fun _ => rfl) (fun r _ => rfl)
 | @agg q x h0 h1 hx ih =>
   have hb : big (nd q [x]) = false := by
     show (decide (0 < 1) && decide (q < 20)) = false
     rw [decide_eq_false (show ¬ q < 20 by omega)]; rfl
   have hst := Zfv ih.2
   have : q = 20 ∨ q = 21 ∨ q = 22 ∨ q = 23 := by omega
   rcases this with rfl|rfl|rfl|rfl
   · exact Z2t hb (t := kw Z3L) rfl (fun _ => rfl) (fun _ => rfl) (fun r _ => Zbm ih.2 rfl h0 (fun _ => rfl) (fun r => by rw [hst]; rfl) r)
   · exact Z2t hb (t := kw Za7) rfl (fun _ => rfl) (fun _ => rfl) (fun r _ => Zbm ih.2 rfl h0 (fun _ => rfl) (fun r => rfl) r)
   · exact Z2t hb (t := kw Zan) rfl (fun _ => rfl) (fun _ => rfl) (fun r _ => Zbm ih.2 rfl h0 (fun _ => rfl) (fun r => rfl) r)
   · exact Z2t hb (t := kw Zad) rfl (fun _ => rfl) (fun _ => rfl) (fun r _ => Zbm ih.2 rfl h0 (fun _ => rfl) (fun r => rfl) r)
end Go.Pz
