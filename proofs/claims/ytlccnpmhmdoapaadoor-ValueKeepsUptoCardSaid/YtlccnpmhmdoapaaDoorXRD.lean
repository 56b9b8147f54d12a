/- A reader of bytes: its state; what it takes. No condition. -/
import Derived.Test.YtlccnpmhmdoapaaDoorXB
import Derived.Test.YtlccnpmhmdoapaaDoorXG4
set_option maxRecDepth 20000
namespace Go.Proofs.YtlccnpmhmdoapaaDoor
open Go Go.Vc Go.Vl
def RdR (l : List UInt8) (e : Int) (v : Value) (w : World) : Prop := ∃ a len cap, v = .agg #[.slice a len cap, .int .i64 e] ∧ len ≤ cap ∧ RowG bC 1 l a len w
section
variable {P : Program} {c : Ctx} {K : List (Nat × Ty)} {L : List Own} {Φ : List (World → Prop)} {Q : Exit → Act → World → Prop}
theorem J.openRd {x : Code} {b : Nat} {ety : TypeId} {l : List UInt8} {e : Int} {C : Ty → List Own} (hu : ∀ T, Upd L ⟨b, ety, .rep (RdR l e)⟩ ⟨b, ety, T⟩ (C T))
    (hj : ∀ a len cap, l.length = len → len ≤ cap → J P c K (C (.is (.agg #[.slice a len cap, .int .i64 e]))) (RowG bC 1 l a len :: Φ) x Q) : J P c K L Φ x Q := by
  refine J.openAt hu ?_
  rintro v ⟨w, a, len, cap, rfl, hc, hr⟩
  refine J.fact (RowG bC 1 l a len) (fun E w hG _ => fun w' hk => ?_) (J.subΦ (fun F hF => ?_) (hj a len cap hr.1 hc))
  · obtain ⟨a', len', cap', e1, _, h3⟩ := hG _ List.mem_cons_self w' hk
    have e2 := agg_inj (a := [.slice a len cap, .int .i64 e]) (b := [.slice a' len' cap', .int .i64 e]) e1
    simp only [List.cons.injEq, Value.slice.injEq] at e2
    obtain ⟨⟨q1, q2, _⟩, _⟩ := e2
    rw [q1, q2]
    exact h3
  · rcases List.mem_cons.1 hF with rfl | hF
    · exact List.mem_cons_self
    · exact List.mem_cons_of_mem _ (List.mem_cons_of_mem _ hF)
theorem Sub.rd {l : List UInt8} {a : Option Addr} {len cap : Nat} {e : Int} (h : RowG bC 1 l a len ∈ Φ) (hc : len ≤ cap) : Sub L Φ (.is (.agg #[.slice a len cap, .int .i64 e])) (.rep (RdR l e)) := fun E v w hf e1 => by
  rw [show v = _ from e1]
  exact fun w' hk => ⟨a, len, cap, rfl, hc, hf.2 _ h w' hk⟩
theorem JO.freezeM {ops : Array Oper} {rest : List Oper} {b : Nat} {e : TypeId} {cs : List Value} (h0 : ∀ q, c.X0 q → ∃ o ∈ L, o.b = q) (hK : K.all (fun p => p.2.out) = true) (hL : L.all (fun o => o.T.out) = true) (h : JO P c K L (HeapIs b cs e :: Φ) ops rest Q) : JO P c K (⟨b, e, .is (.agg cs.toArray)⟩ :: L) Φ ops rest Q :=
  ⟨fun E a w hs => by
    obtain ⟨E', hs'⟩ := hs.freezeM h0 (look_out hK) (fun o ho => List.all_eq_true.1 hL o ho)
    exact h.out E' a w hs'⟩
end
theorem rowG_take {α : Type} {enc : α → List Value} {sz : Nat} {xs : List α} {a : Option Addr} {len n : Nat} {w : World} (h : RowG enc sz xs a len w) (hn : n ≤ len) : RowG enc sz (xs.take n) a n w := by
  obtain ⟨hl, hk⟩ := h
  refine ⟨by simp; omega, fun hne => ?_⟩
  obtain ⟨b, o, ha, hr⟩ := hk (by omega)
  refine ⟨b, o, ha, fun i v hv => hr i v ?_⟩
  rw [List.getElem?_take] at hv
  split at hv
  · exact hv
  · cases hv
theorem rowG_drop {α : Type} {enc : α → List Value} {sz : Nat} {xs : List α} {a : Option Addr} {len cap n : Nat} {w : World} (h : RowG enc sz xs a len w) (hc : len ≤ cap) (hn : n ≤ len) : RowG enc sz (xs.drop n) (adS a n cap sz) (len - n) w := by
  have := rowG_part h hc n (len - n) (by omega)
  rwa [List.take_of_length_le (by rw [List.length_drop, h.1]; exact Nat.le_refl _)] at this
def tkE (l : List UInt8) (e : Int) (n : Nat) : Int := if (e == 0) && decide ((l.length : Int) < n) then 5 else e
def tkR (l : List UInt8) (e : Int) (n : Nat) : List UInt8 := if tkE l e n != 0 then l else l.drop n
def tkL (l : List UInt8) (e : Int) (n : Nat) : List UInt8 := if tkE l e n != 0 then List.replicate n 0 else l.take n
def muE (e : Int) (ok : Bool) : Int := if (e == 0) && !ok then 6 else e
theorem tkE_0 {l : List UInt8} {e : Int} {n : Nat} (h : (tkE l e n != 0) = false) : e = 0 ∧ n ≤ l.length := by
  unfold tkE at h
  split at h
  · cases h
  · rename_i h1
    have he : e = 0 := by simpa using h
    subst he
    simp at h1
    exact ⟨rfl, by omega⟩
theorem tkL_len (l : List UInt8) (e : Int) (n : Nat) : (tkL l e n).length = n := by
  unfold tkL
  split
  · simp
  · rename_i h
    have := tkE_0 (l := l) (e := e) (n := n) (by simpa using h)
    rw [List.length_take]
    omega
theorem tk_bad {l : List UInt8} {e : Int} {n : Nat} {e' : Int} (h : tkE l e n = e') (h0 : (e' != 0) = true) : tkR l e n = l ∧ tkL l e n = List.replicate n 0 := by
  unfold tkR tkL
  rw [h, if_pos h0, if_pos h0]
  exact ⟨rfl, rfl⟩
theorem tk_ok {l : List UInt8} {e : Int} {n : Nat} {e' : Int} (h : tkE l e n = e') (h0 : (e' != 0) = false) : tkR l e n = l.drop n ∧ tkL l e n = l.take n := by
  unfold tkR tkL
  rw [h, if_neg (by rw [h0]; simp), if_neg (by rw [h0]; simp)]
  exact ⟨rfl, rfl⟩
def kb (l : List UInt8) : Nat := ((tkL l 0 1).getD 0 0).toNat
def l1 (l : List UInt8) : List UInt8 := tkR l 0 1
def e1 (l : List UInt8) : Int := muE (tkE l 0 1) (decide ((kb l : Int) ≤ 3))
def cb (l : List UInt8) : Nat := ((tkL (l1 l) (e1 l) 1).getD 0 0).toNat
def l2 (l : List UInt8) : List UInt8 := tkR (l1 l) (e1 l) 1
def e2 (l : List UInt8) (m : Int) : Int := muE (tkE (l1 l) (e1 l) 1) (decide ((cb l : Int) ≤ m))
def rv (l : List UInt8) : V3 × List UInt8 × Int :=
  if (kb l : Int) == 1 then (⟨kb l, sgnI (leV (tkL (l1 l) (e1 l) 8)), e0⟩, tkR (l1 l) (e1 l) 8, tkE (l1 l) (e1 l) 8)
  else if (kb l : Int) == 2 then (⟨kb l, cb l, e0⟩, l2 l, e2 l 1)
  else if (kb l : Int) == 3 then (⟨kb l, 0, bl (tkL (l2 l) (e2 l 64) (cb l))⟩, tkR (l2 l) (e2 l 64) (cb l), tkE (l2 l) (e2 l 64) (cb l))
  else (⟨kb l, 0, e0⟩, l1 l, e1 l)
theorem tk_short {l : List UInt8} {n : Nat} (h : l.length < n) : tkE l 0 n = 5 := by
  unfold tkE
  rw [if_pos (by simp; omega)]
theorem tk_long {l : List UInt8} {n : Nat} (h : n ≤ l.length) : tkE l 0 n = 0 ∧ tkR l 0 n = l.drop n ∧ tkL l 0 n = l.take n := by
  have e : tkE l 0 n = 0 := by
    unfold tkE
    rw [if_neg (by simp; omega)]
  obtain ⟨h1, h2⟩ := tk_ok e rfl
  exact ⟨e, h1, h2⟩
theorem tkE_e {l : List UInt8} {e : Int} {n : Nat} (h : e ≠ 0) : tkE l e n = e := by
  unfold tkE
  rw [if_neg (by simp [h])]
theorem muE_e {e : Int} {ok : Bool} (h : e ≠ 0) : muE e ok = e := by
  unfold muE
  rw [if_neg (by simp [h])]
theorem muE_0 (ok : Bool) : muE 0 ok = if ok then 0 else 6 := by cases ok <;> rfl
theorem rv_get (l : List UInt8) : (rv l).2.2 = (getV l).1 ∧ ((rv l).2.2 = 0 → (rv l).2.1 = (getV l).2.2 ∧ (rv l).1 = (getV l).2.1) := by
  cases l with
  | nil =>
    have h : tkE [] 0 1 = 5 := rfl
    have hk : kb [] = 0 := rfl
    have he : e1 [] = 5 := rfl
    unfold rv
    rw [hk, if_neg (by decide), if_neg (by decide), if_neg (by decide)]
    exact ⟨rfl, fun h => by cases h⟩
  | cons b r =>
    obtain ⟨q1, q2, q3⟩ := tk_long (l := b :: r) (n := 1) (by simp)
    have hk : kb (b :: r) = b.toNat := by unfold kb; rw [q3]; rfl
    have hl : l1 (b :: r) = r := by unfold l1; rw [q2]; rfl
    have he : e1 (b :: r) = if decide ((b.toNat : Int) ≤ 3) then 0 else 6 := by unfold e1; rw [q1, muE_0, hk]
    by_cases h3 : 3 < b.toNat
    · have he : e1 (b :: r) = 6 := by rw [he, if_neg (by simp; omega)]
      rw [getV_4 b r h3]
      unfold rv
      rw [hk, if_neg (by simp; omega), if_neg (by simp; omega), if_neg (by simp; omega)]
      exact ⟨he, fun h => absurd (he.symm.trans h) (by decide)⟩
    · have he : e1 (b :: r) = 0 := by rw [he, if_pos (by simp; omega)]
      by_cases b1 : b = 1
      · subst b1
        have e : rv (1 :: r) = (⟨1, sgnI (leV (tkL r 0 8)), e0⟩, tkR r 0 8, tkE r 0 8) := by
          unfold rv
          rw [hk, if_pos (by decide), hl, he]
          rfl
        rw [e, getV_1]
        by_cases h8 : r.length < 8
        · rw [if_pos h8, tk_short h8]
          exact ⟨rfl, fun h => by cases h⟩
        · obtain ⟨t1, t2, t3⟩ := tk_long (l := r) (n := 8) (by omega)
          rw [if_neg h8, t1, t2, t3]
          exact ⟨rfl, fun _ => ⟨rfl, rfl⟩⟩
      · by_cases b2 : b = 2
        · subst b2
          have e : rv (2 :: r) = (⟨2, cb (2 :: r), e0⟩, l2 (2 :: r), e2 (2 :: r) 1) := by
            unfold rv
            rw [hk, if_neg (by decide), if_pos (by decide)]
            rfl
          rw [e]
          cases r with
          | nil =>
            have h5 : e2 [2] 1 = 5 := by unfold e2; rw [hl, he]; rfl
            rw [h5]
            exact ⟨rfl, fun h => by cases h⟩
          | cons c q =>
            obtain ⟨t1, t2, t3⟩ := tk_long (l := c :: q) (n := 1) (by simp)
            have hc : cb (2 :: c :: q) = c.toNat := by unfold cb; rw [hl, he, t3]; rfl
            have hl2 : l2 (2 :: c :: q) = q := by unfold l2; rw [hl, he, t2]; rfl
            have he2 : e2 (2 :: c :: q) 1 = if decide ((c.toNat : Int) ≤ 1) then 0 else 6 := by unfold e2; rw [hl, he, t1, muE_0, hc]
            rw [getV_2, hc, hl2, he2]
            by_cases h1 : 1 < c.toNat
            · rw [if_pos h1, if_neg (by simp; omega)]
              exact ⟨rfl, fun h => by cases h⟩
            · rw [if_neg h1, if_pos (by simp; omega)]
              exact ⟨rfl, fun _ => ⟨rfl, rfl⟩⟩
        · by_cases b3 : b = 3
          · subst b3
            have e : rv (3 :: r) = (⟨3, 0, bl (tkL (l2 (3 :: r)) (e2 (3 :: r) 64) (cb (3 :: r)))⟩, tkR (l2 (3 :: r)) (e2 (3 :: r) 64) (cb (3 :: r)), tkE (l2 (3 :: r)) (e2 (3 :: r) 64) (cb (3 :: r))) := by
              unfold rv
              rw [hk, if_neg (by decide), if_neg (by decide), if_pos (by decide)]
              rfl
            rw [e]
            cases r with
            | nil =>
              have h5 : e2 [3] 64 = 5 := by unfold e2; rw [hl, he]; rfl
              rw [h5, tkE_e (by decide)]
              exact ⟨rfl, fun h => by cases h⟩
            | cons c q =>
              obtain ⟨t1, t2, t3⟩ := tk_long (l := c :: q) (n := 1) (by simp)
              have hc : cb (3 :: c :: q) = c.toNat := by unfold cb; rw [hl, he, t3]; rfl
              have hl2 : l2 (3 :: c :: q) = q := by unfold l2; rw [hl, he, t2]; rfl
              have he2 : e2 (3 :: c :: q) 64 = if decide ((c.toNat : Int) ≤ 64) then 0 else 6 := by unfold e2; rw [hl, he, t1, muE_0, hc]
              rw [getV_3, hc, hl2, he2]
              unfold getT
              by_cases h64 : 64 < c.toNat
              · rw [if_pos h64, if_neg (by simp; omega), tkE_e (by decide)]
                exact ⟨rfl, fun h => by cases h⟩
              · rw [if_neg h64, if_pos (by simp; omega)]
                by_cases hq : q.length < c.toNat
                · rw [if_pos hq, tk_short hq]
                  exact ⟨rfl, fun h => by cases h⟩
                · obtain ⟨u1, u2, u3⟩ := tk_long (l := q) (n := c.toNat) (by omega)
                  rw [if_neg hq, u1, u2, u3]
                  exact ⟨rfl, fun _ => ⟨rfl, rfl⟩⟩
          · have hb : b = 0 := by
              have n1 : b.toNat ≠ 1 := fun e => b1 (UInt8.toNat_inj.1 e)
              have n2 : b.toNat ≠ 2 := fun e => b2 (UInt8.toNat_inj.1 e)
              have n3 : b.toNat ≠ 3 := fun e => b3 (UInt8.toNat_inj.1 e)
              exact UInt8.toNat_inj.1 (by show b.toNat = 0; omega)
            subst hb
            have e : rv (0 :: r) = (⟨0, 0, e0⟩, l1 (0 :: r), e1 (0 :: r)) := by
              unfold rv
              rw [hk, if_neg (by decide), if_neg (by decide), if_neg (by decide)]
              rfl
            rw [e, hl, he]
            exact ⟨rfl, fun _ => ⟨rfl, rfl⟩⟩
end Go.Proofs.YtlccnpmhmdoapaaDoor
