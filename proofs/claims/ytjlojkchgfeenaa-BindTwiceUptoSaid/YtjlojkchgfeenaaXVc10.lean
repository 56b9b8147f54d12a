/- The rules in the form in which a program prints them. No condition. -/
import Derived.Test.YtjlojkchgfeenaaXVc9
namespace Go.Vc
open Go
section
variable {P : Program} {ops : Array Oper} {c : Ctx} {K : List (Nat × Ty)} {L M Lk : List Own} {Φ : List (World → Prop)} {Q : Exit → Act → World → Prop} {S : Sd} {i : Nat} {rest : List Oper} {k : List (Nat × Ty) → List Own → Sd → Prop}
variable {op : Op} {ty : TypeId} {pos : String} {after : Array Edge} {d : Nat} {T : Ty}
theorem RT.nil (h : k K M S) : RT P ops L Φ i [] K M S k := h
theorem RT.t (h : Ob P L Φ (Kn K) ⟨some d, op, ty, pos, after, none⟩ T) (n : RT P ops L Φ (i + 1) rest ((d, T) :: K) M S k) : RT P ops L Φ i (⟨some d, op, ty, pos, after, none⟩ :: rest) K M S k :=
  ⟨T, M, S, .typed, .typed rfl h, n⟩
theorem RT.g {g d0 : Nat} {b cc : Bool} (hd : (ops[g]?).bind (·.dst) = some d0) (hk : look K d0 = some (.is (.bool cc))) (hna : isAlloc ⟨some d, op, ty, pos, after, some (g, b)⟩ = false) (h : cc = b → Ob P L Φ (KnG (cc = b) K) ⟨some d, op, ty, pos, after, some (g, b)⟩ T)
    (n : RT P ops L Φ (i + 1) rest ((d, .opt (cc = b) T) :: K) M S k) : RT P ops L Φ i (⟨some d, op, ty, pos, after, some (g, b)⟩ :: rest) K M S k :=
  ⟨_, M, S, .gated, .gated (cc = b) g b d0 rfl hd (.inl ⟨cc, hk, rfl⟩) hna h, n⟩
theorem RT.gg {g d0 : Nat} {b cc : Bool} {π : Prop} (hd : (ops[g]?).bind (·.dst) = some d0) (hk : look K d0 = some (.opt π (.is (.bool cc)))) (hna : isAlloc ⟨some d, op, ty, pos, after, some (g, b)⟩ = false) (h : (π ∧ cc = b) → Ob P L Φ (KnG (π ∧ cc = b) K) ⟨some d, op, ty, pos, after, some (g, b)⟩ T)
    (n : RT P ops L Φ (i + 1) rest ((d, .opt (π ∧ cc = b) T) :: K) M S k) : RT P ops L Φ i (⟨some d, op, ty, pos, after, some (g, b)⟩ :: rest) K M S k :=
  ⟨_, M, S, .gated, .gated (π ∧ cc = b) g b d0 rfl hd (.inr ⟨π, cc, hk, rfl⟩) hna h, n⟩
theorem RT.n {t : TypeId} {m : Nat} (hz : zcells P t = some m) (n : RT P ops L Φ (i + 1) rest ((d, .own t m) :: K) M S k) : RT P ops L Φ i (⟨some d, .alloc t, ty, pos, after, none⟩ :: rest) K M S k :=
  ⟨_, M, S, .new, .new t m d rfl rfl rfl hz, n⟩
theorem RT.s {s : Nat} {ety t : TypeId} {m : Nat} {x : Operand} (g : Nat) (hgi : Nat.blt g i = true) (hal : (ops[g]?).map (fun o => (o.dst, isAlloc o)) = some (some s, true)) (hs : look K s = some (.own ety m)) (hx : opTy K x = some T) (hT : Cnt T m) (hty : (P.info? t).map (·.size) = some m) (hn : s ∉ S.map (·.1))
    (n : RT P ops L Φ (i + 1) rest K M ((s, ety, T) :: S) k) : RT P ops L Φ i (⟨none, .store t (.tmp s) x, ty, pos, after, none⟩ :: rest) K M S k :=
  ⟨.any, M, _, .sto s, .sto s ety t m x rfl rfl g (Nat.le_of_ble_eq_true hgi) (by
    cases ho : ops[g]? with
    | none => rw [ho] at hal; cases hal
    | some og =>
      rw [ho, Option.map_some, Option.some.injEq, Prod.mk.injEq] at hal
      have h2 := hal.2
      unfold isAlloc at h2
      cases hop : og.op <;> rw [hop] at h2 <;> first | exact ⟨og, _, rfl, hal.1, hop⟩ | cases h2) rfl hs hx hT hty hn, n⟩
theorem RT.m {dst : Option Nat} {M' : List Own} (hl : isLoud ⟨dst, op, ty, pos, after, none⟩ = true) (h : ObM P L Φ (Kn K) M ⟨dst, op, ty, pos, after, none⟩ T M') (hm : M'.map (·.b) = M.map (·.b)) (n : RT P ops L Φ (i + 1) rest (putK dst T K) M' S k) : RT P ops L Φ i (⟨dst, op, ty, pos, after, none⟩ :: rest) K M S k :=
  ⟨T, M', S, .chg, .chg rfl hl hm h, n⟩
theorem FinS.nil0 (h : JX c K Lk Φ .normal Q) : FinS P c Lk Φ Q K [] [] := h.out
theorem FinS.nil1 {o : Own} (h : JX c K (o :: Lk) Φ .normal Q) : FinS P c Lk Φ Q K [o] [] := h.out
theorem FinS.nil2 {o o' : Own} (h : JX c K (o :: o' :: Lk) Φ .normal Q) : FinS P c Lk Φ Q K [o, o'] [] := h.out
theorem FinS.nil3 {o o' o'' : Own} (h : JX c K (o :: o' :: o'' :: Lk) Φ .normal Q) : FinS P c Lk Φ Q K [o, o', o''] [] := h.out
theorem J.reg0 {id : Nat} {dr : Bool} {l : List Oper} (hmx : P.follows .mixedOrders = true) (hok : regOK l.toArray = true) (hdn : (l.toArray.all fun o => match o.dst with | some d => decide (d < c.n) | none => true) = true)
    (h : RT P l.toArray L Φ 0 l K [] [] (FinS P c L Φ Q)) : J P c K L Φ (.region id l.toArray dr) Q := J.region (Lm := []) (Lk := L) hmx hok hdn h
theorem J.reg1 {id : Nat} {dr : Bool} {l : List Oper} {o : Own} (hmx : P.follows .mixedOrders = true) (hok : regOK l.toArray = true) (hdn : (l.toArray.all fun o => match o.dst with | some d => decide (d < c.n) | none => true) = true)
    (h : RT P l.toArray L Φ 0 l K [o] [] (FinS P c L Φ Q)) : J P c K (o :: L) Φ (.region id l.toArray dr) Q := J.region (Lm := [o]) (Lk := L) hmx hok hdn h
theorem J.reg2 {id : Nat} {dr : Bool} {l : List Oper} {o o' : Own} (hmx : P.follows .mixedOrders = true) (hok : regOK l.toArray = true) (hdn : (l.toArray.all fun o => match o.dst with | some d => decide (d < c.n) | none => true) = true)
    (h : RT P l.toArray L Φ 0 l K [o, o'] [] (FinS P c L Φ Q)) : J P c K (o :: o' :: L) Φ (.region id l.toArray dr) Q := J.region (Lm := [o, o']) (Lk := L) hmx hok hdn h
theorem JO.t (h : Ob P L Φ (Kn K) ⟨some d, op, ty, pos, after, none⟩ T) (hd : Nat.blt d c.n = true) (n : JO P c ((d, T) :: K) L Φ ops rest Q) : JO P c K L Φ ops (⟨some d, op, ty, pos, after, none⟩ :: rest) Q :=
  JO.typed rfl (fun d' e => by injection e with e; subst e; exact Nat.le_of_ble_eq_true hd) h n
theorem JO.m {L' : List Own} (h : ObM P [] Φ (Kn K) L ⟨none, op, ty, pos, after, none⟩ T L') (hm : L'.map (·.b) = L.map (·.b)) (n : JO P c K L' Φ ops rest Q) : JO P c K L Φ ops (⟨none, op, ty, pos, after, none⟩ :: rest) Q :=
  JO.chg rfl (fun d' e => by cases e) hm h n
theorem JO.md {L' : List Own} (h : ObM P [] Φ (Kn K) L ⟨some d, op, ty, pos, after, none⟩ T L') (hm : L'.map (·.b) = L.map (·.b)) (hd : Nat.blt d c.n = true) (n : JO P c ((d, T) :: K) L' Φ ops rest Q) : JO P c K L Φ ops (⟨some d, op, ty, pos, after, none⟩ :: rest) Q :=
  JO.chg rfl (fun d' e => by injection e with e; subst e; exact Nat.le_of_ble_eq_true hd) hm h n
inductive Front : List Own → Nat → List Own → Prop
  | here {o : Own} {L : List Own} : Front (o :: L) o.b (o :: L)
  | there {x o : Own} {b : Nat} {L L' : List Own} (h : Front L b (o :: L')) : Front (x :: L) b (o :: x :: L')
theorem Front.perm {b : Nat} {L L' : List Own} (h : Front L b L') : L'.Perm L := by
  induction h with
  | here => exact .refl _
  | there h ih => exact (List.Perm.swap _ _ _).trans (List.Perm.cons _ ih)
theorem J.front {x : Code} {L' : List Own} (b : Nat) (h : Front L b L') (hj : J P c K L' Φ x Q) : J P c K L Φ x Q :=
  J.subL (fun o ho => (h.perm.mem_iff).1 ho) (fun hn => ((h.perm.map _).nodup_iff).2 hn) hj
theorem J.drop {x : Code} {o : Own} (hj : J P c K L Φ x Q) : J P c K (o :: L) Φ x Q :=
  J.subL (L' := L) (fun _ h => List.mem_cons_of_mem _ h) (fun h => by rw [List.map_cons, List.nodup_cons] at h; exact h.2) hj
theorem JX.mids {K1 : List (Nat × Ty)} (ss : List Nat) (h : Sel K ss K1) : JX c K L Φ .normal (Exit.then (fun a w => ∃ E, SA c K1 L Φ E a w) Q) :=
  JX.mid fun _ _ _ hs => hs.sub h.look (fun _ => id) hs.ld (fun _ => id)
theorem JX.midB {K1 : List (Nat × Ty)} {id : Nat} (ss : List Nat) (h : Sel K ss K1) : JX c K L Φ (.exit id) (Exit.inBlock id (Exit.then (fun a w => ∃ E, SA c K1 L Φ E a w) Q)) := JX.hit (JX.mids ss h)
theorem SA.or {s : Nat} {K0 : List (Nat × Ty)} {d e : Bool} {E : Nat → Prop} {a : Act} {w : World} (h : SA c ((s, .is (.bool d)) :: K0) L Φ E a w) (he : e = d) : SA c ((s, .is (.bool e)) :: K0) L Φ E a w := by subst he; exact h
theorem J.orT {s : Nat} {c1 d : Bool} {K0 : List (Nat × Ty)} {body : Code} (ss : List Nat) (hk : look K s = some (.is (.bool c1))) (h0 : Sel K ss K0)
    (hb : c1 = false → J P c K L Φ body (Exit.then (fun a w => ∃ E, SA c ((s, .is (.bool d)) :: K0) L Φ E a w) Q)) :
    J P c K L Φ (.cond (.tmp s) .skip body) (Exit.then (fun a w => ∃ E, SA c ((s, .is (.bool (c1 || d))) :: K0) L Φ E a w) Q) := by
  refine J.cond (b := c1) hk (fun e => ?_) (fun e => ?_)
  · refine J.skip ⟨fun E a w hs => ⟨E, ?_⟩⟩
    have h1 : SA c ((s, .is (.bool c1)) :: K0) L Φ E a w := hs.sub (Sel.cons hk h0).look (fun _ => id) hs.ld (fun _ => id)
    exact h1.or (by rw [e]; rfl)
  · refine ⟨fun E a w hs => wp_mono ((hb e).out E a w hs) fun x a w hq => ?_⟩
    cases x with
    | normal => obtain ⟨E, hs⟩ := hq; exact ⟨E, hs.or (by rw [e]; rfl)⟩
    | _ => exact hq
theorem J.or {s : Nat} {c1 d : Bool} {K0 : List (Nat × Ty)} {body y : Code} (ss : List Nat) (hk : look K s = some (.is (.bool c1))) (h0 : Sel K ss K0)
    (hb : c1 = false → J P c K L Φ body (Exit.then (fun a w => ∃ E, SA c ((s, .is (.bool d)) :: K0) L Φ E a w) Q)) (hy : J P c ((s, .is (.bool (c1 || d))) :: K0) L Φ y Q) :
    J P c K L Φ (.seq (.cond (.tmp s) .skip body) y) Q := J.cut (J.orT ss hk h0 hb) hy
theorem J.orN {s : Nat} {c1 d : Bool} {K0 : List (Nat × Ty)} {body y : Code} (ss : List Nat) (hk : look K s = some (.is (.bool c1))) (h0 : Sel K ss K0)
    (hb : c1 = false → J P c K L Φ body (Exit.then (fun a w => ∃ E, SA c ((s, .is (.bool d)) :: K0) L Φ E a w) Q)) (hy : J P c ((s, .is (.bool (c1 || d))) :: K0) L Φ y Q) :
    J P c K L Φ (.cond (.tmp s) .skip body) (Exit.then (y.wp P Q) Q) := by
  refine ⟨fun E a w hs => wp_mono ((J.orT (Q := Q) ss hk h0 hb).out E a w hs) fun e a w hq => ?_⟩
  cases e with
  | normal => obtain ⟨E, hs⟩ := hq; exact hy.out E a w hs
  | _ => exact hq
theorem J.cutB {id : Nat} {K1 : List (Nat × Ty)} {x y : Code} (h : J P c K L Φ x (Exit.inBlock id (Exit.then (fun a w => ∃ E, SA c K1 L Φ E a w) Q))) (hy : J P c K1 L Φ y Q) : J P c K L Φ (.seq (.block id x) y) Q :=
  J.cut (J.block h) hy
end
def nth {α : Type} : List α → Nat → Option α
  | [], _ => none
  | x :: _, 0 => some x
  | _ :: l, n + 1 => nth l n
theorem nth_eq {α : Type} : ∀ (l : List α) (n : Nat), nth l n = l[n]?
  | [], _ => by simp [nth]
  | _ :: _, 0 => rfl
  | _ :: l, n + 1 => by simp [nth, nth_eq l n]
class HasOwn (L : List Own) (b : Nat) (ety : outParam TypeId) (T : outParam Ty) : Prop where
  mem : (⟨b, ety, T⟩ : Own) ∈ L
instance HasOwn.here {L : List Own} {b : Nat} {ety : TypeId} {T : Ty} : HasOwn (⟨b, ety, T⟩ :: L) b ety T := ⟨List.mem_cons_self⟩
instance (priority := low) HasOwn.there {x : Own} {L : List Own} {b : Nat} {ety : TypeId} {T : Ty} [h : HasOwn L b ety T] : HasOwn (x :: L) b ety T := ⟨List.mem_cons_of_mem _ h.mem⟩
section
variable {P : Program} {L : List Own} {Φ : List (World → Prop)} {H : Know} {dst : Option Nat} {ty : TypeId} {pos : String} {after : Array Edge} {g : Option (Nat × Bool)}
theorem ob_ld1 {t ety : TypeId} {x : Operand} {b off : Nat} {V v : Value} (hs : szOf P t = some none) (hx : H x (.is (.pointer (some ⟨b, off, none⟩)))) [hm : HasOwn L b ety (.is V)] (hv : nth V.cells.toList off = some v) : Ob P L Φ H ⟨dst, .load t x, ty, pos, after, g⟩ (.is v) :=
  ob_load hx (loads_own1 hs hm.mem (by rw [nth_eq] at hv; simpa using hv))
theorem ob_ldN {t ety : TypeId} {x : Operand} {b off n : Nat} {V : Value} {cs : List Value} (hs : szOf P t = some (some n)) (hx : H x (.is (.pointer (some ⟨b, off, none⟩)))) [hm : HasOwn L b ety (.is V)] (hv : (V.cells.toList.drop off).take n = cs) (hn : cs.length = n) : Ob P L Φ H ⟨dst, .load t x, ty, pos, after, g⟩ (.is (.agg cs.toArray)) :=
  ob_load hx (loads_ownN hs hm.mem hv hn)
end
end Go.Vc
