/- The frame of a small program logic of my own: what a step keeps, facts that stay, types of slots. No condition. -/
import Derived.Orders
import Derived.WalkKit
namespace Go.Vc
open Go
structure Keeps (X : Nat → Prop) (w w' : World) : Prop where
  os : w'.os = w.os
  tape : w'.tape = w.tape
  output : w'.output = w.output
  size : w.heap.size ≤ w'.heap.size
  blk : ∀ b, b < w.heap.size → ¬ X b → w'.heap[b]? = w.heap[b]?
  shp : ∀ (b : Nat) (cs : Array Value) (t : TypeId) (fr : Nat × Nat), w.heap[b]? = some (Obj.cells cs t fr) → ∃ cs' : Array Value, w'.heap[b]? = some (Obj.cells cs' t fr) ∧ cs'.size = cs.size
abbrev noX : Nat → Prop := fun _ => False
theorem lt_of_get {w : World} {b : Nat} {o : Obj} (h : w.heap[b]? = some o) : b < w.heap.size := by
  rcases Nat.lt_or_ge b w.heap.size with hlt | hge
  · exact hlt
  · rw [Array.getElem?_eq_none hge] at h; cases h
theorem Keeps.refl (X : Nat → Prop) (w : World) : Keeps X w w := ⟨rfl, rfl, rfl, Nat.le_refl _, fun _ _ _ => rfl, fun _ cs _ _ h => ⟨cs, h, rfl⟩⟩
theorem Keeps.trans {X : Nat → Prop} {w1 w2 w3 : World} (h : Keeps X w1 w2) (k : Keeps X w2 w3) : Keeps X w1 w3 :=
  ⟨k.os.trans h.os, k.tape.trans h.tape, k.output.trans h.output, Nat.le_trans h.size k.size,
   fun b hb hx => (k.blk b (Nat.lt_of_lt_of_le hb h.size) hx).trans (h.blk b hb hx),
   fun b cs t fr hb => by
    obtain ⟨cs1, h1, e1⟩ := h.shp b cs t fr hb
    obtain ⟨cs2, h2, e2⟩ := k.shp b cs1 t fr h1
    exact ⟨cs2, h2, e2.trans e1⟩⟩
theorem Keeps.mono {X Y : Nat → Prop} {w w' : World} (h : Keeps X w w') (hxy : ∀ b, b < w.heap.size → X b → Y b) : Keeps Y w w' :=
  ⟨h.os, h.tape, h.output, h.size, fun b hb hy => h.blk b hb (fun hx => hy (hxy b hb hx)), h.shp⟩
theorem Keeps.of_noX {X : Nat → Prop} {w w' : World} (h : Keeps noX w w') : Keeps X w w' := h.mono fun _ _ => False.elim
theorem Keeps.get {X : Nat → Prop} {w w' : World} (h : Keeps X w w') {b : Nat} {o : Obj} (hb : w.heap[b]? = some o) (hx : ¬ X b) : w'.heap[b]? = some o :=
  (h.blk b (lt_of_get hb) hx).trans hb
theorem heap_alloc_lt (w : World) (o : Obj) {b : Nat} (h : b < w.heap.size) : (w.alloc o).heap[b]? = w.heap[b]? := by
  simp only [World.alloc, Array.getElem?_push]; rw [if_neg (by omega)]
theorem heap_alloc_at (w : World) (o : Obj) : (w.alloc o).heap[w.heap.size]? = some o := by show (w.heap.push o)[w.heap.size]? = some o; simp
theorem size_alloc (w : World) (o : Obj) : (w.alloc o).heap.size = w.heap.size + 1 := by show (w.heap.push o).size = _; simp
theorem Keeps.alloc (w : World) (o : Obj) : Keeps noX w (w.alloc o) :=
  ⟨rfl, rfl, rfl, by rw [size_alloc]; omega, fun b hb _ => heap_alloc_lt w o hb, fun b cs t fr h => ⟨cs, (heap_alloc_lt w o (lt_of_get h)).trans h, rfl⟩⟩
theorem Keeps.drew (w : World) : Keeps noX w w.drew := ⟨rfl, rfl, rfl, Nat.le_refl _, fun _ _ _ => rfl, fun _ cs _ _ h => ⟨cs, h, rfl⟩⟩
def Pers (X : Nat → Prop) (w : World) (F : World → Prop) : Prop := ∀ w', Keeps X w w' → F w'
theorem Pers.now {X : Nat → Prop} {w : World} {F : World → Prop} (h : Pers X w F) : F w := h w (.refl _ _)
theorem Pers.keep {X : Nat → Prop} {w w' : World} {F : World → Prop} (h : Pers X w F) (k : Keeps X w w') : Pers X w' F := fun _ k' => h _ (k.trans k')
theorem Pers.weak {X Y : Nat → Prop} {w : World} {F : World → Prop} (h : Pers X w F) (hyx : ∀ b, b < w.heap.size → Y b → X b) : Pers Y w F :=
  fun _ k => h _ (k.mono hyx)
structure Ev (E : Nat → Prop) (w : World) (E' : Nat → Prop) (w' : World) : Prop where
  keeps : Keeps E w w'
  same : ∀ b, b < w.heap.size → (E' b ↔ E b)
theorem Ev.refl (E : Nat → Prop) (w : World) : Ev E w E w := ⟨.refl _ _, fun _ _ => Iff.rfl⟩
theorem Ev.trans {E1 E2 E3 : Nat → Prop} {w1 w2 w3 : World} (h : Ev E1 w1 E2 w2) (k : Ev E2 w2 E3 w3) : Ev E1 w1 E3 w3 :=
  ⟨⟨k.keeps.os.trans h.keeps.os, k.keeps.tape.trans h.keeps.tape, k.keeps.output.trans h.keeps.output, Nat.le_trans h.keeps.size k.keeps.size,
    fun b hb hx => (k.keeps.blk b (Nat.lt_of_lt_of_le hb h.keeps.size) (fun hx' => hx ((h.same b hb).1 hx'))).trans (h.keeps.blk b hb hx),
    fun b cs t fr hb => by
      obtain ⟨cs1, h1, e1⟩ := h.keeps.shp b cs t fr hb
      obtain ⟨cs2, h2, e2⟩ := k.keeps.shp b cs1 t fr h1
      exact ⟨cs2, h2, e2.trans e1⟩⟩,
   fun b hb => (k.same b (Nat.lt_of_lt_of_le hb h.keeps.size)).trans (h.same b hb)⟩
theorem Ev.of_keeps {E : Nat → Prop} {w w' : World} (h : Keeps E w w') : Ev E w E w' := ⟨h, fun _ _ => Iff.rfl⟩
theorem Pers.ev {E E' : Nat → Prop} {w w' : World} {F : World → Prop} (h : Pers E w F) (k : Ev E w E' w') : Pers E' w' F :=
  fun _ k' => h _ ((k.trans (Ev.of_keeps k')).keeps)
inductive Ty where
  | is (v : Value)
  | rep (R : Value → World → Prop)
  | tup2 (A B : Ty)
  | tup3 (A B C : Ty)
  | newPtr (o : Obj) (off : Nat)
  | newSl (o : Obj) (len cap : Nat)
  | own (ety : TypeId) (n : Nat)
  | opt (π : Prop) (T : Ty)
  | any
def Ty.p : Ty → (Nat → Prop) → Value → World → Prop
  | .is V, _, v, _ => v = V
  | .rep R, E, v, w => Pers E w (R v)
  | .tup2 A B, E, v, w => ∃ x y, v = .tuple #[x, y] ∧ A.p E x w ∧ B.p E y w
  | .tup3 A B C, E, v, w => ∃ x y z, v = .tuple #[x, y, z] ∧ A.p E x w ∧ B.p E y w ∧ C.p E z w
  | .newPtr o off, E, v, w => ∃ b, v = .pointer (some ⟨b, off, none⟩) ∧ ¬ E b ∧ w.heap[b]? = some o
  | .newSl o len cap, E, v, w => ∃ b, v = .slice (some ⟨b, 0, none⟩) len cap ∧ ¬ E b ∧ w.heap[b]? = some o
  | .own ety n, E, v, w => ∃ b, v = .pointer (some ⟨b, 0, none⟩) ∧ E b ∧ ∃ cs, w.heap[b]? = some (.cells cs ety (0, 0)) ∧ cs.size = n
  | .opt π T, E, v, w => (π → T.p E v w) ∧ (¬ π → v = undef)
  | .any, _, _, _ => True
theorem Ty.mono {T : Ty} {E E' : Nat → Prop} {w w' : World} (k : Ev E w E' w') : ∀ {v : Value}, T.p E v w → T.p E' v w' := by
  induction T with
  | is V => exact id
  | rep R => exact fun h => Pers.ev h k
  | tup2 A B ha hb => rintro _ ⟨x, y, rfl, h1, h2⟩; exact ⟨x, y, rfl, ha h1, hb h2⟩
  | tup3 A B C ha hb hc => rintro _ ⟨x, y, z, rfl, h1, h2, h3⟩; exact ⟨x, y, z, rfl, ha h1, hb h2, hc h3⟩
  | newPtr o off => rintro _ ⟨b, rfl, hn, hb⟩; exact ⟨b, rfl, fun h => hn ((k.same b (lt_of_get hb)).1 h), k.keeps.get hb hn⟩
  | newSl o len cap => rintro _ ⟨b, rfl, hn, hb⟩; exact ⟨b, rfl, fun h => hn ((k.same b (lt_of_get hb)).1 h), k.keeps.get hb hn⟩
  | own ety n =>
    rintro _ ⟨b, rfl, he, cs, hb, hn⟩
    obtain ⟨cs', hb', hs⟩ := k.keeps.shp b cs ety (0, 0) hb
    exact ⟨b, rfl, (k.same b (lt_of_get hb)).2 he, cs', hb', hs.trans hn⟩
  | opt π T ih => exact fun h => ⟨fun hp => ih (h.1 hp), h.2⟩
  | any => exact id
def Ty.out : Ty → Bool
  | .own _ _ => false
  | .tup2 A B => A.out && B.out
  | .tup3 A B C => A.out && B.out && C.out
  | .opt _ T => T.out
  | _ => true
theorem Ty.weak {T : Ty} {E X : Nat → Prop} {w : World} (hx : ∀ b, b < w.heap.size → X b → E b) : ∀ {v : Value}, T.out = true → T.p E v w → T.p X v w := by
  induction T with
  | is V => exact fun _ => id
  | rep R => exact fun _ h => Pers.weak h hx
  | tup2 A B ha hb =>
    rintro _ ho ⟨x, y, rfl, h1, h2⟩
    simp only [Ty.out, Bool.and_eq_true] at ho
    exact ⟨x, y, rfl, ha ho.1 h1, hb ho.2 h2⟩
  | tup3 A B C ha hb hc =>
    rintro _ ho ⟨x, y, z, rfl, h1, h2, h3⟩
    simp only [Ty.out, Bool.and_eq_true] at ho
    exact ⟨x, y, z, rfl, ha ho.1.1 h1, hb ho.1.2 h2, hc ho.2 h3⟩
  | newPtr o off => rintro _ _ ⟨b, rfl, hn, hb⟩; exact ⟨b, rfl, fun h => hn (hx b (lt_of_get hb) h), hb⟩
  | newSl o len cap => rintro _ _ ⟨b, rfl, hn, hb⟩; exact ⟨b, rfl, fun h => hn (hx b (lt_of_get hb) h), hb⟩
  | own ety n => intro _ h; cases h
  | opt π T ih => exact fun ho h => ⟨fun hp => ih ho (h.1 hp), h.2⟩
  | any => exact fun _ => id
structure Own where
  b : Nat
  ety : TypeId
  T : Ty
def Own.at (o : Own) (E : Nat → Prop) (w : World) : Prop := E o.b ∧ ∃ v : Value, w.heap[o.b]? = some (.cells v.cells o.ety (0, 0)) ∧ o.T.p E v w
def look : List (Nat × Ty) → Nat → Option Ty
  | [], _ => none
  | (s, T) :: l, t => bif Nat.beq s t then some T else look l t
structure Ctx where
  n : Nat
  X : Nat → Prop
  X0 : Nat → Prop
  W0 : World
structure SA (c : Ctx) (K : List (Nat × Ty)) (L : List Own) (Φ : List (World → Prop)) (E : Nat → Prop) (a : Act) (w : World) : Prop where
  n : a.tmps.size = c.n
  d : a.defers = []
  wf : ∀ b, E b → b < w.heap.size
  k : ∀ s T, look K s = some T → T.p E (a.tmps.getD s undef) w
  l : ∀ o ∈ L, o.at E w
  ld : (L.map (·.b)).Nodup
  f : ∀ F ∈ Φ, Pers E w F
  x : ∀ b, c.X b → E b
  xs : ∀ b, c.X b → b < c.W0.heap.size
  keeps : Keeps c.X0 c.W0 w
  may : ∀ o ∈ L, c.X0 o.b ∨ c.W0.heap.size ≤ o.b
structure J (P : Program) (c : Ctx) (K : List (Nat × Ty)) (L : List Own) (Φ : List (World → Prop)) (x : Code) (Q : Exit → Act → World → Prop) : Prop where
  out : ∀ E a w, SA c K L Φ E a w → x.wp P Q a w
end Go.Vc
