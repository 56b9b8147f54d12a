/- Growing slices that lie in variables; results of three parts. No condition. -/
import Derived.Test.YtjlojkchgfeenaaXVc26
namespace Go.Vc
open Go
theorem ownO_out (st : Option (Nat × List Value)) (e : TypeId) (L : List Own) : (ownO st e L).all (fun o => o.T.out) = L.all (fun o => o.T.out) := by cases st <;> rfl
theorem sliceO_cells (st : Option (Nat × List Value)) (len cap : Nat) : (sliceO st len cap).cells = #[sliceO st len cap] := by cases st <;> rfl
theorem sliceO_one (st : Option (Nat × List Value)) (len cap : Nat) : (sliceO st len cap).oneCell' = true := by cases st <;> rfl
instance (priority := low) HasOwn.past {st : Option (Nat × List Value)} {e : TypeId} {L : List Own} {b : Nat} {ety : TypeId} {T : Ty} [h : HasOwn L b ety T] : HasOwn (ownO st e L) b ety T := ⟨by
  cases st with
  | none => exact h.mem
  | some p => exact List.mem_cons_of_mem _ h.mem⟩
inductive Cx (e : TypeId) : List Own → Option (Nat × List Value) → (Option (Nat × List Value) → List Own) → List Own → Prop
  | here {st : Option (Nat × List Value)} {L : List Own} : Cx e (ownO st e L) st (fun s => ownO s e L) L
  | there {st : Option (Nat × List Value)} {x : Own} {L L' : List Own} {C : Option (Nat × List Value) → List Own} (h : Cx e L st C L') : Cx e (x :: L) st (fun s => x :: C s) (x :: L')
  | past {st st' : Option (Nat × List Value)} {e' : TypeId} {L L' : List Own} {C : Option (Nat × List Value) → List Own} (h : Cx e L st C L') : Cx e (ownO st' e' L) st (fun s => ownO st' e' (C s)) (ownO st' e' L')
theorem Cx.tl {e : TypeId} {L L' : List Own} {st : Option (Nat × List Value)} {C : Option (Nat × List Value) → List Own} (h : Cx e L st C L') : Tl e L st L' := by
  induction h with
  | here => exact .here
  | there _ ih => exact .there ih
  | past _ ih => exact .past ih
theorem Cx.back {e : TypeId} {L L' : List Own} {st : Option (Nat × List Value)} {C : Option (Nat × List Value) → List Own} (h : Cx e L st C L') (s : Option (Nat × List Value)) : (C s).Perm (ownO s e L') := by
  have key : Tl e (C s) s L' := by
    induction h with
    | here => exact .here
    | there _ ih => exact .there ih
    | past _ ih => exact .past ih
  exact key.perm.symm
section
variable {α : Type} {en : α → List Value} {sz : Nat} {P : Program} {c : Ctx} {K : List (Nat × Ty)} {L L' : List Own} {Φ : List (World → Prop)} {Q : Exit → Act → World → Prop}
theorem JO.apP {ops : Array Oper} {rest : List Oper} {d : Nat} {ty t tx e : TypeId} {pos : String} {after : Array Edge} {s x : Operand} {bytes cap : Nat} {xs : List α} (ys : List α) {st : Option (Nat × List Value)} {TX : Ty} {C : Option (Nat × List Value) → List Own}
    (hT : ApTy P t e sz bytes) (hen : ∀ x, (en x).length = sz) (hC : Cx e L st C L') (hG : Grows en sz xs st cap) (h0 : opTy K s = some (.is (sliceO st xs.length cap))) (hx : opTy K x = some TX) (hS : ∀ L, SrcOf P L Φ sz tx TX ys.length (ys.flatMap en)) (hy : ys ≠ []) (hfit : (xs.length + ys.length) * bytes ≤ 140737488355328) (h63 : xs.length + ys.length ≤ 9223372036854775807) (hd : Nat.blt d c.n = true)
    (hn : ∀ (st' : Option (Nat × List Value)) (cap' : Nat), Grows en sz (xs ++ ys) st' cap' → JO P c ((d, .is (sliceO st' (xs ++ ys).length cap')) :: K) (C st') Φ ops rest Q) :
    JO P c K L Φ ops (⟨some d, .call { callee := .builtin .append, args := #[s, x], argTypes := #[t, tx] }, ty, pos, after, none⟩ :: rest) Q :=
  JO.apO hT hen hC.tl hG h0 hx hS hy hfit h63 hd fun st' cap' h => JO.subL (hC.back st') (hn st' cap' h)
end
section
variable {P : Program} {L : List Own} {Φ : List (World → Prop)} {H : Know} {dst : Option Nat} {ty : TypeId} {pos : String} {after : Array Edge} {g : Option (Nat × Bool)}
theorem obm_storeF1 {M M' : List Own} {t : TypeId} {p x : Operand} {b off : Nat} {ety : TypeId} {cs cs' : List Value} {V : Value} (hV : V.cells = #[V]) (hV1 : V.oneCell' = true) (hp' : H p (.is (.pointer (some ⟨b, off, none⟩)))) (hx : H x (.is V))
    (hu : Upd M ⟨b, ety, .is (.agg cs.toArray)⟩ ⟨b, ety, .is (.agg cs'.toArray)⟩ M') (hc : splice cs off [V] = cs') (hl : Nat.ble (off + 1) cs.length = true) (hs : (P.info? t).map (·.size) = some 1) :
    ObM P L Φ H M ⟨none, .store t p x, ty, pos, after, g⟩ .any M' :=
  obm_storeF hp' hx hu (by rw [hV]; exact hc) (by rw [hV]; rfl) (by rw [hV]; simp [hV1]) hl hs
theorem Sub.exMkO {k vk vn : Int} {vs tb nm : ByteArray} {sl : Int} {kids : List Ex} {zs : List XC} {st : Option (Nat × List Value)} {cap : Nat} (hG : Grows XC.cs 8 zs st cap) (h : KidsR kids (adO st) zs.length ∈ Φ) :
    Sub L Φ (.is (.agg [.int .i64 k, .int .i64 vk, .int .i64 vn, .string vs, .string tb, .string nm, .int .i64 sl, sliceO st zs.length cap].toArray)) (.rep (ExR (.mk k vk vn vs tb nm sl kids))) := by
  obtain ⟨cap', e⟩ := sliceO_ad hG
  rw [e]
  exact Sub.exMk h
theorem Sub.ex_eq {T : Ty} {x y : Ex} (h : Sub L Φ T (.rep (ExR x))) (e : x = y) : Sub L Φ T (.rep (ExR y)) := e ▸ h
theorem Sub.refl (T : Ty) : Sub L Φ T T := fun _ _ _ _ h => h
end
section
variable {P : Program} {K : List (Nat × Ty)} {L : List Own} {Φ : List (World → Prop)} {fn : Func} {n : Nat} {X : Nat → Prop} {W : World}
theorem agg_isE {cs : Array Value} : (cs.size = 8) → ∀ (E : Nat → Prop) v (w : World), (Ty.is (.agg cs)).p E v w → ∃ cs, v = .agg cs ∧ cs.size = 8 := fun h => agg_is h
theorem JX.retC2sub {s u u' b m : Nat} {t ety : TypeId} {T A : Ty} {B B' C C' : Value} (hres : fn.results = #[.cell s t, .tmp u, .tmp u']) (h : look K s = some (.is (.pointer (some ⟨b, 0, none⟩)))) (hs' : szOf P t = some (some m)) (hm : ⟨b, ety, T⟩ ∈ L) (hT : ∀ E v w, T.p E v w → ∃ cs, v = .agg cs ∧ cs.size = m)
    (h' : look K u = some (.is B')) (h'' : look K u' = some (.is C')) (ho : A.out = true) (hS : Sub L Φ T A) (hb : B' = B) (hc : C' = C) : JX ⟨n, X, noX, W⟩ K L Φ .ret (bodyPost P fn (Post X W (.tup3 A (.is B) (.is C)))) :=
  JX.retOf (by simp [Ty.out, ho]) fun a w E hs => by
    obtain ⟨v, h1, h2⟩ := res_cell (P := P) hs' (hs.l _ hm) hT
    have e : a.tmps.getD s undef = .pointer (some ⟨b, 0, none⟩) := hs.k s _ h
    rw [Array.getD_eq_getD_getElem?] at e
    exact ⟨.tuple #[v, a.tmps.getD u undef, a.tmps.getD u' undef], by simp [results, hres, Array.getD_eq_getD_getElem?, e, asAddr, h1], _, _, _, rfl, hS E v w ⟨hs.l, hs.f⟩ h2, (hs.k u _ h').trans hb, (hs.k u' _ h'').trans hc⟩
end
end Go.Vc
namespace Go.Vc
open Go
theorem cnt_aggO {k vk vn : Int} {vs tb nm : ByteArray} {sl : Int} {st : Option (Nat × List Value)} {n cap : Nat} : Cnt (.is (.agg [.int .i64 k, .int .i64 vk, .int .i64 vn, .string vs, .string tb, .string nm, .int .i64 sl, sliceO st n cap].toArray)) 8 :=
  cnt_is rfl (by simp [Value.cells, sliceO_one]; exact ⟨rfl, rfl, rfl, rfl, rfl, rfl, rfl⟩)
end Go.Vc
