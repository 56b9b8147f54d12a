/- How many parts an expression may have. Plain. No condition. -/
import Derived.Test.YtbedigkncjbggaaGreatDoorXQ1
import Derived.Test.YtbedigkncjbggaaGreatDoorXQ5
import Derived.Test.YtbedigkncjbggaaGreatDoorXQ2
import Derived.Test.YtbedigkncjbggaaGreatDoorXQ3
import Derived.Test.YtbedigkncjbggaaGreatDoorXG7
namespace Go.Pz
open Go Go.Vc
mutual
def ect : Ex → Nat
 | .mk _ _ _ _ _ _ _ kids => ects kids + 1
def ects : List Ex → Nat
 | [] => 0
 | x :: xs => ect x + ects xs
end
theorem Z2K (x : Ex) : ect x = ects x.KS + 1 := by cases x; rw [ect]; rfl
theorem Z42 {xs : List Ex} {x : Ex} (h : x ∈ xs) : ect x ≤ ects xs := by
 induction xs with
 | nil => cases h
 | cons y ys ih =>
   rw [ects]
   rcases List.mem_cons.1 h with rfl | h
   · omega
   · have := ih h; omega
theorem Zb2 (xs : List Ex) : xs.length ≤ ects xs := by
 induction xs with
 | nil => exact Nat.zero_le _
 | cons y ys ih => 
   rw [ects, List.length_cons]
   have : 1 ≤ ect y := by rw [Z2K]; omega
   omega
mutual
theorem ZjI : ∀ x : Ex, hgt x ≤ ect x
 | .mk _ _ _ _ _ _ _ kids => by rw [hgt, ect]; have := Z9U kids; omega
theorem Z9U : ∀ xs : List Ex, hgts xs ≤ ects xs
 | [] => by rw [hgts, ects]; exact Nat.le_refl _
 | x :: xs => by rw [hgts, ects]; have := ZjI x; have := Z9U xs; omega
end
def Hb (p : Ps Ex) : Prop := ∀ ts z, p ts = some z → ect z.1 + z.2.length ≤ ts.length
theorem Z40 (k vk vn : Int) (vs tb nm : ByteArray) (sl : Int) : ect (.mk k vk vn vs tb nm sl []) = 1 := by rw [ect, ects]
theorem Zb9 (k : Int) (x : Ex) : ect (nd k [x]) = ect x + 1 := by rw [ect, ects, ects]
theorem ZiC (k : Int) (x y : Ex) : ect (nd k [x, y]) = ect x + ect y + 1 := by rw [ect, ects, ects, ects]; omega
theorem Ze3 {part : Ps Ex} {k : Int} {ops : List (ByteArray × Int)} (hp : Hb part) {M : Nat} : ∀ (n : Nat) (x : Ex) (ts : List T3) (z : Ex × List T3), ect x + ts.length ≤ M → chainG part k ops n x ts = some z → ect z.1 + z.2.length ≤ M
 | 0, x, ts, z, hM, h => by rw [chainG] at h; injection h with h; subst h; exact hM
 | n + 1, x, ts, z, hM, h => by
   rw [chainG] at h
   split at h
   · injection h with h; subst h; exact hM
   · rename_i q hq
     obtain ⟨y, h1, h2⟩ := bnd h
     have h3 := hp _ _ h1
     have h4 := (Z4O hq).2
     have h5 : 1 ≤ ect y.1 := by
       obtain ⟨y1, y2⟩ := y
       cases y1; rw [ect]; omega
     refine Ze3 hp n _ _ _ ?_ h2
     rw [ZiC]; omega
theorem Z8K {part : Ps Ex} {k : Int} {ops : List (ByteArray × Int)} (hp : Hb part) : Hb (chainP part k ops) := fun ts z h => by
 obtain ⟨y, h1, h2⟩ := bnd h
 exact Ze3 hp _ _ _ _ (hp _ _ h1) h2
section
variable {e : Ps Ex} (he : Hb e)
include he
theorem Zly : Hb (kwP e) := fun ts z h => by
 obtain ⟨y, h1, h2⟩ := bnd h
 have h3 := (ZP 1 _ _ h1).2
 split at h2
 · injection h2 with h2; subst h2; rw [Z40]; dsimp only; omega
 split at h2
 · injection h2 with h2; subst h2; rw [Z40]; dsimp only; omega
 split at h2
 · injection h2 with h2; subst h2; rw [Z40]; dsimp only; omega
 split at h2
 · cases h2
 obtain ⟨u, h4, h5⟩ := bnd h2
 have h6 := (Z8 _ _ _ _ h4).2
 split at h5
 · rename_i hi
   simp only [Bool.and_eq_true] at hi
   obtain ⟨v, h7, rfl⟩ := mpd h5
   have h8 := (Z8 _ _ _ _ h7).2
   have h9 := (Zz hi.2).2
   rw [Z40]; dsimp only; omega
 · obtain ⟨x, h7, h8⟩ := bnd h5
   obtain ⟨v, h9, rfl⟩ := mpd h8
   have h10 := he _ _ h7
   have h11 := (Z8 _ _ _ _ h9).2
   dsimp only
   rw [Zb9]; omega
theorem ZhM : Hb (atomP e) := fun ts z h => by
 cases ts with
 | nil => cases h
 | cons t r =>
   rw [atomP] at h
   split at h
   · injection h with h; subst h; rw [Z40]; simp only [List.length_cons]; omega
   split at h
   · injection h with h; subst h; rw [Z40]; simp only [List.length_cons]; omega
   split at h
   · split at h
     · rename_i hi
       obtain ⟨v, h7, rfl⟩ := mpd h
       have h8 := (Zw _ _ h7).2
       have h9 := (Zz hi).2
       rw [Z40]; simp only [List.length_cons]; omega
     · injection h with h; subst h; rw [Z40]; simp only [List.length_cons]; omega
   split at h
   · exact Zly he _ _ h
   · obtain ⟨u, h4, h5⟩ := bnd h
     obtain ⟨x, h7, h8⟩ := bnd h5
     obtain ⟨v, h9, rfl⟩ := mpd h8
     have h10 := he _ _ h7
     have h11 := (Z8 _ _ _ _ h9).2
     have h12 := (Z8 _ _ _ _ h4).2
     dsimp only; omega
theorem Zcp : ∀ (ts : List T3) (z : Ex × List T3), factorP e ts = some z → ect z.1 + z.2.length ≤ ts.length
 | [], z, h => by rw [factorP] at h; cases h
 | t :: r, z, h => by
   rw [factorP] at h
   split at h
   · obtain ⟨v, h7, rfl⟩ := mpd h
     have := Zcp r v h7
     dsimp only
     rw [Zb9]; simp only [List.length_cons]; omega
   · exact ZhM he _ _ h
theorem ZiT : Hb (prodP e) := Z8K (Zcp he)
theorem Zdd : Hb (sumP e) := Z8K (ZiT he)
theorem Zhp {x : Ex} {ts : List T3} {z : Ex × List T3} {M : Nat} (hM : ect x + ts.length ≤ M) (h : cmpP e x ts = some z) : ect z.1 + z.2.length ≤ M := by
 unfold cmpP at h
 split at h
 · rename_i q hq
   obtain ⟨v, h7, rfl⟩ := mpd h
   have h8 := Zdd he _ _ h7
   have h9 := (Z4O hq).2
   have h5 : 1 ≤ ect v.1 := by
     obtain ⟨y1, y2⟩ := v
     cases y1; rw [ect]; omega
   dsimp only
   rw [ZiC]; omega
 · split at h
   · rename_i hi
     have h9 := (Zz hi).2
     split at h
     · rename_i hj
       obtain ⟨v, h7, rfl⟩ := mpd h
       have h8 := (Z8 _ _ _ _ h7).2
       have h10 := (Zz hj).2
       dsimp only
       rw [Zb9]; omega
     · obtain ⟨v, h7, rfl⟩ := mpd h
       have h8 := (Z8 _ _ _ _ h7).2
       dsimp only
       rw [Zb9]; omega
   · injection h with h; subst h; exact hM
theorem Zga : ∀ (ts : List T3) (z : Ex × List T3), notP e ts = some z → ect z.1 + z.2.length ≤ ts.length
 | [], z, h => by
   rw [notP] at h
   obtain ⟨y, h1, h2⟩ := bnd h
   exact Zhp he (Zdd he _ _ h1) h2
 | t :: r, z, h => by
   rw [notP] at h
   split at h
   · obtain ⟨v, h7, rfl⟩ := mpd h
     have := Zga r v h7
     dsimp only
     rw [Zb9]; simp only [List.length_cons]; omega
   · obtain ⟨y, h1, h2⟩ := bnd h
     exact Zhp he (Zdd he _ _ h1) h2
theorem Zlb : Hb (orP e) := Z8K (Z8K (Zga he))
end
theorem ZbO : ∀ n, Hb (exprP n)
 | 0, ts, z, h => by cases h
 | n + 1, ts, z, h => Zlb (ZbO n) ts z h
def HB (M : Nat) (x : Ex) : Prop := ect x ≤ M
theorem ZlI {e : Ps Ex} (he : Hb e) {M : Nat} {ts : List T3} {z : Ex × List T3} (hM : ts.length ≤ M) (h : e ts = some z) : HB M z.1 := by
 have := he _ _ h
 unfold HB; omega
def Pb {α : Type} (f : α → List Ex) (M : Nat) (p : Ps α) : Prop := ∀ ts z, ts.length ≤ M → p ts = some z → ∀ x ∈ f z.1, ect x ≤ M
theorem Zfi {α : Type} {f : α → List Ex} {M : Nat} {p : Ps α} (hd : Dn0 p) (h : Pb f M p) : ∀ n ts z, ts.length ≤ M → listG p n ts = some z → ∀ y ∈ z.1, ∀ x ∈ f y, ect x ≤ M
 | 0, ts, z, _, hz => by rw [listG] at hz; injection hz with hz; subst hz; intro y hy; cases hy
 | n + 1, ts, z, hM, hz => by
   rw [listG] at hz
   split at hz
   · rename_i hi
     obtain ⟨w, h1, h2⟩ := bnd hz
     obtain ⟨y, h3, rfl⟩ := mpd h2
     have h4 := (Zz hi).2
     have h5 := (hd _ _ h1).length_le
     intro v hv
     rcases List.mem_cons.1 hv with rfl | hv
     · exact h _ _ qM h1
     · exact Zfi hd h n _ _ qM h3 v hv
   · injection hz with hz; subst hz; intro y hy; cases hy
theorem Z85 {α : Type} {f : α → List Ex} {M : Nat} {p : Ps α} {most : Nat} (hd : Dn0 p) (h : Pb f M p) {ts : List T3} {z : List α × List T3} (hM : ts.length ≤ M) (hz : listP most p ts = some z) : ∀ y ∈ z.1, ∀ x ∈ f y, ect x ≤ M := by
 obtain ⟨w, h1, h2⟩ := bnd hz
 obtain ⟨y, h3, h4⟩ := bnd h2
 have h5 := (hd _ _ h1).length_le
 split at h4
 · injection h4 with h4; subst h4
   intro v hv
   rcases List.mem_cons.1 hv with rfl | hv
   · exact h _ _ hM h1
   · exact Zfi hd h _ _ _ qM h3 v hv
 · cases h4
theorem leM {a b : List T3} {M : Nat} (h : a <:+ b) (hM : b.length ≤ M) : a.length ≤ M := Nat.le_trans h.length_le hM
section
variable {e : Ps Ex} (hd : Dn e) (he : Hb e) {M : Nat}
include he
theorem e_b : Pb (fun x => [x]) M e := fun ts z hM h x hx => by
 rw [List.mem_singleton.1 hx]
 have := he _ _ h; omega
theorem Zb0 {ts : List T3} {z : List Ex × List T3} (hM : ts.length ≤ M) (h : whereP e ts = some z) : ∀ x ∈ z.1, ect x ≤ M := by
 unfold whereP at h
 split at h
 · rename_i hi
   obtain ⟨v, h5, rfl⟩ := mpd h
   intro x hx
   rw [List.mem_singleton.1 hx]
   have := he _ _ h5
   have := (Zz hi).2
   omega
 · injection h with h; subst h; intro x hx; cases hx
include hd
theorem ZeZ {most : Nat} {ts : List T3} {z : List Ex × List T3} (hM : ts.length ≤ M) (h : listP most e ts = some z) : ∀ x ∈ z.1, ect x ≤ M := fun x hx => Z85 hd.le (e_b he) hM h x hx x List.mem_cons_self
theorem ZhQ : Pb (fun l => l) M (withinP e) := fun ts z hM h => by
 obtain ⟨a, h1, h2⟩ := bnd h
 obtain ⟨l, h3, h4⟩ := bnd h2
 obtain ⟨v, h5, rfl⟩ := mpd h4
 exact ZeZ (z := l) hd he (leM (Z8 _ _ _ _ h1).1 hM) h3
theorem Zdk : ∀ n ts z, ts.length ≤ M → joinsG e n ts = some z → ∀ s ∈ z.1, ∀ x ∈ s.on, ect x ≤ M
 | 0, ts, z, _, hz => by rw [joinsG] at hz; injection hz with hz; subst hz; intro y hy; cases hy
 | n + 1, ts, z, hM, hz => by
   rw [joinsG] at hz
   split at hz
   · obtain ⟨w, h1, h2⟩ := bnd hz
     obtain ⟨y, h3, rfl⟩ := mpd h2
     have h4 := (Z4u hd _ _ h1).1
     have h5 := Z3c 1 ZS ts
     intro v hv
     rcases List.mem_cons.1 hv with rfl | hv
     · obtain ⟨a, g1, g2⟩ := bnd h1
       obtain ⟨s, g3, g4⟩ := bnd g2
       obtain ⟨b, g5, g6⟩ := bnd g4
       obtain ⟨x, g7, g8⟩ := mpd g6
       subst g8
       have h6 : b.2.length ≤ M := leM ((Z8 _ _ _ _ g5).1.trans ((Z2E _ _ g3).1.trans ((Z8 _ _ _ _ g1).1.trans h5))) hM
       intro y hy
       rw [List.mem_singleton.1 hy]
       have := he _ _ g7; omega
     · exact Zdk n _ _ (leM (h4.trans h5) hM) h3 v hv
   · injection hz with hz; subst hz; intro y hy; cases hy
theorem Zf9 {ts : List T3} {z : St × List T3} (hM : ts.length ≤ M) (h : stmtP e ts = some z) : ∀ x ∈ exsOf z.1, ect x ≤ M := by
 unfold stmtP at h
 obtain ⟨w, h1, h⟩ := bnd h
 have hw : w.2.length ≤ M := leM (ZP 1 _ _ h1).1 hM
 split at h
 · unfold createP at h
   split at h
   · obtain ⟨n, _, h⟩ := bnd h
     obtain ⟨c, _, rfl⟩ := mpd h
     intro x hx; simp [exsOf, stK] at hx
   · obtain ⟨_, _, h⟩ := bnd h
     obtain ⟨_, _, h⟩ := bnd h
     obtain ⟨_, _, h⟩ := bnd h
     obtain ⟨_, _, h⟩ := bnd h
     obtain ⟨_, _, h⟩ := bnd h
     obtain ⟨_, _, h⟩ := bnd h
     obtain ⟨_, _, h⟩ := bnd h
     split at h
     · obtain ⟨v, _, rfl⟩ := mpd h
       intro x hx; simp [exsOf, stK] at hx
     · injection h with h; subst h
       intro x hx; simp [exsOf, stK] at hx
 split at h
 · obtain ⟨a, g1, h⟩ := bnd h
   obtain ⟨n, g2, h⟩ := bnd h
   have h3 : n.2.length ≤ M := leM ((Zw _ _ g2).1.trans (Z8 _ _ _ _ g1).1) hw
   have rows : ∀ tb ns us z, us.length ≤ M → insRows e tb ns us = some z → ∀ x ∈ exsOf z.1, ect x ≤ M := fun tb ns us z hu h => by
     obtain ⟨a, k1, h⟩ := bnd h
     obtain ⟨r, k2, rfl⟩ := mpd h
     have := Z85 (Z2a hd.le).le (ZhQ hd he) (leM (Z8 _ _ _ _ k1).1 hu) k2
     intro x hx
     simp [exsOf, stK] at hx
     obtain ⟨l, hl, hx⟩ := hx
     exact this l hl x hx
   split at h
   · obtain ⟨l, g3, h⟩ := bnd h
     exact rows _ _ _ _ (leM (Z2a Zw.le _ _ g3).1 h3) h
   · exact rows _ _ _ _ h3 h
 split at h
 · obtain ⟨i, g1, h⟩ := bnd h
   obtain ⟨a, g2, h⟩ := bnd h
   obtain ⟨s, g3, h⟩ := bnd h
   obtain ⟨j, g4, h⟩ := bnd h
   have hi : Pb (fun i : Itm => [i.ex]) M (itemP e) := fun us z hu h => by
     unfold itemP at h
     split at h
     · injection h with h; subst h
       intro x hx
       rename_i ht
       rw [List.mem_singleton.1 hx]
       have := (Zz ht).2
       show ect (.mk 0 0 0 em em em 0 []) ≤ M
       rw [Z40]; omega
     · obtain ⟨v, h5, rfl⟩ := mpd h
       intro x hx
       rw [List.mem_singleton.1 hx]
       have := he _ _ h5
       dsimp only; omega
   have hk : Pb (fun k : Ky => [k.ex]) M (keyP e) := fun us z hu h => by
     obtain ⟨v, h5, h6⟩ := mpd h
     have := he _ _ h5
     split at h6 <;> subst h6 <;> intro x hx <;> rw [List.mem_singleton.1 hx] <;> dsimp only <;> omega
   have b1 := Z85 (Z3X hd).le hi hw g1
   have m1 := leM (Z2w (Z3X hd).le 16 _ _ g1) hw
   have m2 := leM (Z8 _ _ _ _ g2).1 m1
   have m3 := leM (Z2E _ _ g3).1 m2
   have b2 := Zdk hd he _ _ _ m3 g4
   split at h
   · obtain ⟨w2, k1, h⟩ := bnd h
     obtain ⟨g, k2, h⟩ := bnd h
     obtain ⟨o, k3, h⟩ := bnd h
     obtain ⟨l, k4, rfl⟩ := mpd h
     have m4 : j.2.length ≤ M := by
       have : ∀ n us z, joinsG e n us = some z → z.2 <:+ us := fun n => by
         induction n with
         | zero => intro us z h; rw [joinsG] at h; injection h with h; subst h; exact List.suffix_refl us
         | succ n ih =>
           intro us z h
           rw [joinsG] at h
           split at h
           · obtain ⟨w, h1, h2⟩ := bnd h
             obtain ⟨y, h3, rfl⟩ := mpd h2
             exact (ih _ _ h3).trans ((Z4u hd _ _ h1).1.trans (Z3c _ _ _))
           · injection h with h; subst h; exact List.suffix_refl us
       exact leM (this _ _ _ g4) m3
     have b3 := Zb0 he m4 k1
     have m5 : w2.2.length ≤ M := by
       unfold whereP at k1
       split at k1
       · rename_i ht
         obtain ⟨v, h5, rfl⟩ := mpd k1
         exact leM ((hd _ _ h5).1.trans (Zz ht).1) m4
       · injection k1 with k1; subst k1; exact m4
     have b4 : ∀ x ∈ g.1, ect x ≤ M ∧ True := fun x hx => by
       unfold groupP at k2
       split at k2
       · rename_i ht
         obtain ⟨a, q1, q2⟩ := bnd k2
         exact ⟨ZeZ hd he (leM ((Z8 _ _ _ _ q1).1.trans (Zz ht).1) m5) q2 x hx, trivial⟩
       · injection k2 with k2; subst k2; cases hx
     have m6 : g.2.length ≤ M := by
       unfold groupP at k2
       split at k2
       · rename_i ht
         obtain ⟨a, q1, q2⟩ := bnd k2
         exact leM ((Z2w hd.le 16 _ _ q2).trans ((Z8 _ _ _ _ q1).1.trans (Zz ht).1)) m5
       · injection k2 with k2; subst k2; exact m5
     have b5 : ∀ k ∈ o.1, ect k.ex ≤ M := fun k hx => by
       unfold orderP at k3
       split at k3
       · rename_i ht
         obtain ⟨a, q1, q2⟩ := bnd k3
         exact Z85 (Z4I hd).le hk (leM ((Z8 _ _ _ _ q1).1.trans (Zz ht).1) m6) q2 k hx _ List.mem_cons_self
       · injection k3 with k3; subst k3; cases hx
     have hs : s.1.on = [] := by
       unfold sourceP at g3
       obtain ⟨n, _, g3⟩ := bnd g3
       split at g3
       · obtain ⟨m, _, rfl⟩ := mpd g3; rfl
       split at g3
       · obtain ⟨m, _, rfl⟩ := mpd g3; rfl
       · injection g3 with g3; subst g3; rfl
     intro x hx
     simp [exsOf, stK, hs] at hx
     rcases hx with ⟨a, ha, rfl⟩ | ⟨_, ⟨a, ha, rfl⟩, hx⟩ | ⟨a, ha, rfl⟩ | hx | hx
     · exact b1 a ha _ List.mem_cons_self
     · exact b2 a ha x hx
     · exact b5 a ha
     · exact b3 x hx
     · exact (b4 x hx).1
   · cases h
 split at h
 · obtain ⟨n, g1, h⟩ := bnd h
   obtain ⟨a, g2, h⟩ := bnd h
   obtain ⟨l, g3, h⟩ := bnd h
   obtain ⟨w2, g4, rfl⟩ := mpd h
   have hs : Pb (fun k : ByteArray × Ex => [k.2]) M (setP e) := fun us z hu h => by
     obtain ⟨a, h1, h2⟩ := bnd h
     obtain ⟨l, h3, h4⟩ := bnd h2
     obtain ⟨v, h5, rfl⟩ := mpd h4
     intro x hx
     rw [List.mem_singleton.1 hx]
     have := he _ _ h5
     have := (Z8 _ _ _ _ h3).2
     have := (Zw _ _ h1).2
     dsimp only; omega
   have m1 := leM ((Z8 _ _ _ _ g2).1.trans (Zw _ _ g1).1) hw
   have b1 := Z85 (Z4F hd).le hs m1 g3
   have b2 := Zb0 he (leM (Z2w (Z4F hd).le 16 _ _ g3) m1) g4
   intro x hx
   simp [exsOf, stK] at hx
   rcases hx with hx | ⟨a, ha⟩
   · exact b2 x hx
   · exact b1 _ ha _ List.mem_cons_self
 split at h
 · obtain ⟨a, g1, h⟩ := bnd h
   obtain ⟨n, g2, h⟩ := bnd h
   obtain ⟨w2, g3, rfl⟩ := mpd h
   have b2 := Zb0 he (leM ((Zw _ _ g2).1.trans (Z8 _ _ _ _ g1).1) hw) g3
   intro x hx
   simp [exsOf, stK] at hx
   exact b2 x hx
 split at h
 · injection h with h; subst h; intro x hx; simp [exsOf, stK] at hx
 split at h
 · injection h with h; subst h; intro x hx; simp [exsOf, stK] at hx
 split at h
 · injection h with h; subst h; intro x hx; simp [exsOf, stK] at hx
 · cases h
end
end Go.Pz
set_option maxRecDepth 20000
namespace Go.Proofs.YtbedigkncjbggaaGreatDoor
open Go Go.Vc Go.Pz
theorem Z4E (x : Ex) : 1 ≤ ect x := by rw [Z2K]; omega
theorem ect1 {k : Int} {y : Ex} : ect (nd k [y]) = ect y + 1 := by rw [Z2K]; show ects [y] + 1 = _; rw [ects, ects]
theorem ect2 {k : Int} {y z : Ex} : ect (nd k [y, z]) = ect y + ect z + 1 := by rw [Z2K]; show ects [y, z] + 1 = _; rw [ects, ects, ects]; omega
theorem Z69 (x : Ex) : (prO x).length ≤ (prE x).length + 2 := by
 unfold prO parS
 split
 · simp
 · omega
theorem Z1G {s : ByteArray} (h : nmOk s) : (tx s).length ≤ 2048 := by
 have := h.2
 rw [← Z1q] at this
 exact this
theorem ZhB (q : Int) : (opS q).length ≤ 3 := by
 unfold opS binT
 cases h : binO.find? (fun o => o.2.2 == q) with
 | none => decide
 | some o =>
   have hm := List.mem_of_find?_eq_some h
   have : ∀ o ∈ binO, (tx o.2.1).length ≤ 3 := by decide
   exact this o hm
theorem Zh7 (q : Int) : (tx (aggW q)).length ≤ 5 := by
 unfold aggW
 repeat' split
 all_goals decide
theorem ZgY {x : Ex} (h : Wf nmOk x) : (prE x).length ≤ 5000 * ect x := by
 induction h with
 | @num n h0 h1 =>
   have h2 := Z4E (lit 1 n em)
   have h3 := Zef h0 h1
   have e : prE (lit 1 n em) = Lib.itoa n := ZeP
   rw [e]; omega
 | @txt s h =>
   have h2 := Z4E (lit 3 0 s)
   have e : prE (lit 3 0 s) = showT ⟨4, s, 0⟩ := Zfj h
   have h6 : (dblQ s.data.toList).length ≤ _ := ZaP 39 (new := [39, 39]) qD s.data.toList
   rw [Z1q] at h6
   rw [e]
   show (39 :: (dblQ s.data.toList ++ [39])).length ≤ _
   simp only [List.length_cons, List.length_append, List.length_nil]
   omega
 | tru => rw [show prE (lit 2 1 em) = tx Z8A from Zf2]; have := Z4E (lit 2 1 em); have : (tx Z8A).length = 4 := rfl; omega
 | fls => rw [show prE (lit 2 0 em) = tx Z6U from ZeH]; have := Z4E (lit 2 0 em); have : (tx Z6U).length = 5 := rfl; omega
 | nul => rw [show prE (lit 0 0 em) = tx Z1D from Zfk]; have := Z4E (lit 0 0 em); have : (tx Z1D).length = 4 := rfl; omega
 | @col s h => have h1 := Z1G h; have := Z4E (.mk 2 0 0 em em s 0 []); show (tx s).length ≤ _; omega
 | @tcol t s ht h =>
   have h1 := Z1G h
   have h2 := Z1G ht
   have h3 := Z4E (.mk 2 0 0 em t s 0 [])
   have e : prE (.mk 2 0 0 em t s 0 []) = tx t ++ 46 :: tx s := by
     show (if sq t em = true then _ else _) = _
     rw [if_neg (by rw [ZbC t ht]; simp)]
   rw [e, List.length_append, List.length_cons]; omega
 | @neg x h ih => have := Z69 x; rw [ect1]; show (45 :: prO x).length ≤ _; rw [List.length_cons]; omega
 | @not x h ih => have := Z69 x; rw [ect1]; show ([78, 79, 84] ++ 32 :: prO x).length ≤ _; simp only [List.length_append, List.length_cons, List.length_nil]; omega
 | @isn x h ih => have := Z69 x; rw [ect1]; show (prO x ++ [32, 73, 83, 32, 78, 85, 76, 76]).length ≤ _; simp only [List.length_append, List.length_cons, List.length_nil]; omega
 | @iss x h ih => have := Z69 x; rw [ect1]; show (prO x ++ [32, 73, 83, 32, 78, 79, 84, 32, 78, 85, 76, 76]).length ≤ _; simp only [List.length_append, List.length_cons, List.length_nil]; omega
 | @bin q x y h5 h17 hx hy ihx ihy =>
   have h1 := Z69 x
   have h2 := Z69 y
   have h3 := ZhB q
   rw [ect2, Zfu h5 h17]
   simp only [List.length_append, List.length_cons]; omega
 | cnt => have := Z4E (nd 20 []); show [67, 79, 85, 78, 84, 40, 42, 41].length ≤ _; simp only [List.length_cons, List.length_nil]; omega
 | @agg q x h0 h1 hx ih =>
   have h3 := Zh7 q
   rw [ect1, Zfn h0 h1]
   simp only [List.length_append, List.length_cons, List.length_nil]; omega
def opK (x : Ex) (i : Nat) : List UInt8 := (x.KS.map prO).getD i []
theorem Zc4 : ∀ xs : List Ex, prEs xs = xs.map fun x => (prE x, prO x)
 | [] => rfl
 | x :: xs => by rw [prEs, Zc4 xs]; rfl
theorem Zlc (x : Ex) : hd0 (prEs x.KS) = opK x 0 ∧ hd1 (prEs x.KS) = opK x 1 := by
 rw [Zc4]
 unfold opK
 cases x.KS with
 | nil => exact ⟨rfl, rfl⟩
 | cons y l => cases l with
  | nil => exact ⟨rfl, rfl⟩
  | cons z l => exact ⟨rfl, rfl⟩
theorem Zkv (x : Ex) : prE x =
   if x.K == 1 then litS x.VK x.VN x.VS
   else if x.K == 2 then (if sq x.TB em then tx x.NM else tx x.TB ++ 46 :: tx x.NM)
   else if x.K == 3 then 45 :: opK x 0
   else if x.K == 4 then [78, 79, 84] ++ 32 :: opK x 0
   else if x.K == 18 then opK x 0 ++ [32, 73, 83, 32, 78, 85, 76, 76]
   else if x.K == 19 then opK x 0 ++ [32, 73, 83, 32, 78, 79, 84, 32, 78, 85, 76, 76]
   else if decide (20 ≤ x.K) && decide (x.K ≤ 23) then tx (aggW x.K) ++ 40 :: ((match x.KS with | [] => [42] | y :: _ => prE y) ++ [41])
   else if decide (x.K < 5) || decide (17 < x.K) then [63]
   else opK x 0 ++ 32 :: (opS x.K ++ 32 :: opK x 1) := by
 obtain ⟨h0, h1⟩ := Zlc x
 rw [← h0, ← h1]
 cases x with
 | mk k vk vn vs tb nm sl kids =>
   show prE _ = if k == 1 then _ else _
   conv => lhs; unfold prE
   cases kids with
   | nil => rfl
   | cons y l => simp only [Zc4]; rfl
theorem Za6 {nk : ByteArray → Prop} {x : Ex} (h : Wf nk x) : ∀ y ∈ x.KS, Wf nk y := by
 cases h <;> intro z hz <;> simp only [Ex.KS, List.mem_cons, List.mem_nil_iff, or_false] at hz
 all_goals first|exact hz.elim|(subst hz; assumption)|(rcases hz with rfl|rfl <;> assumption)
theorem Zkx {nk : ByteArray → Prop} {x : Ex} (h : Wf nk x) : x.KS.length ≤ 2 := by
 cases h <;> simp [Ex.KS]
theorem Zlm {nk : ByteArray → Prop} {x : Ex} (h : Wf nk x) : -9223372036854775808 ≤ x.VN ∧ x.VN ≤ 9223372036854775807 := by
 cases h <;> simp only [Ex.VN] <;> omega
theorem ZlC {x : Ex} (h : Wf nmOk x) : (tx x.TB).length ≤ 2048 ∧ (tx x.NM).length ≤ 2048 := by
 cases h <;> simp only [Ex.TB, Ex.NM] <;> first|exact ⟨by decide, by decide⟩|exact ⟨by decide, Z1G ‹_›⟩|exact ⟨Z1G ‹nmOk _›, Z1G ‹nmOk _›⟩ | skip
 all_goals exact ⟨Z1G qN, Z1G qN⟩
theorem Zf3 {x : Ex} (h : Wf nmOk x) (hx : ect x ≤ 4096) (i : Nat) : (opK x i).length ≤ 20500000 := by
 unfold opK
 rw [List.getD_eq_getElem?_getD, List.getElem?_map]
 cases hi : x.KS[i]? with
 | none => exact Nat.zero_le _
 | some y =>
   have hm := List.mem_of_getElem? hi
   have h1 := ZgY (Za6 h y hm)
   have h2 := Z69 y
   have h3 := Z42 hm
   rw [Z2K] at hx
   show (prO y).length ≤ _
   omega
theorem Zae {x : Ex} (h : Wf nmOk x) (hx : ect x ≤ 4096) : (prE x).length ≤ 20500000 := by
 have := ZgY h
 omega
end Go.Proofs.YtbedigkncjbggaaGreatDoor
namespace Go.Proofs.YtbedigkncjbggaaGreatDoor
open Go Go.Vc Go.Pz
structure Tk where
 ts : List T3
 bb : Nat
 o : Nat
 cap : Nat
variable (T : Tk)
abbrev Tk.k (ts : List T3) : Nat := T.ts.length - ts.length
def Tk.j (ts : List T3) : Nat := if T.k ts = T.cap then T.k ts - 1 else T.k ts
abbrev Tk.G : World → Prop := RowG T3.cells 3 T.ts (some ⟨T.bb, T.o, none⟩) T.ts.length
abbrev Tk.sl (ts : List T3) : Value := .slice (some ⟨T.bb, T.o + 3 * T.j ts, none⟩) ts.length (T.cap - T.k ts)
abbrev PB (b : Nat) (ts : List T3) : Own := ⟨b, Z2M, .is (.agg #[T.sl ts])⟩
variable {T}
theorem Tk.j_eq {ts : List T3} (hc : T.ts.length ≤ T.cap) (hs : ts <:+ T.ts) (h : ts ≠ []) : T.j ts = T.k ts := by
 have := hs.length_le
 have : 0 < ts.length := List.length_pos_iff.2 h
 unfold Tk.j
 rw [if_neg (by show ¬ (T.ts.length - ts.length = T.cap); omega)]
theorem Tk.head {ts : List T3} (hs : ts <:+ T.ts) (h : ts ≠ []) : T.ts[T.k ts]? = some (ts.headD t3D) := by
 obtain ⟨us, e⟩ := hs
 cases ts with
 | nil => exact absurd rfl h
 | cons t r =>
   show T.ts[T.ts.length - (t :: r).length]? = some t
   rw [← e]; simp
theorem Tk.tail {ts : List T3} (hc : T.ts.length ≤ T.cap) (hs : ts <:+ T.ts) (h : ts ≠ []) : (Value.slice (adS (some ⟨T.bb, T.o + 3 * T.j ts, none⟩) 1 (T.cap - T.k ts) 3) (ts.length - 1) (T.cap - T.k ts - 1)) = T.sl ts.tail := by
 have h1 := hs.length_le
 have h2 : 0 < ts.length := List.length_pos_iff.2 h
 have h3 : ts.tail.length = ts.length - 1 := by simp
 rw [Tk.j_eq hc hs h]
 have h4 : T.k ts.tail = T.k ts + 1 := by unfold Tk.k; omega
 have h5 : T.j ts.tail = if T.cap - T.k ts = 1 then T.k ts else T.k ts + 1 := by
   unfold Tk.j
   rw [h4]
   by_cases hq : T.cap - T.k ts = 1
   · rw [if_pos hq, if_pos (by unfold Tk.k at *; omega)]; omega
   · rw [if_neg hq, if_neg (by unfold Tk.k at *; omega)]
 unfold Tk.sl
 rw [h5, h4, h3]
 by_cases hq : T.cap - T.k ts = 1
 · rw [if_pos hq]; unfold adS; rw [if_pos hq]; rfl
 · rw [if_neg hq]; unfold adS; rw [if_neg hq, Option.map_some, Z4o]
   congr 1
end Go.Proofs.YtbedigkncjbggaaGreatDoor
set_option maxRecDepth 20000
namespace Go.Proofs.YtbedigkncjbggaaGreatDoor
open Go Go.Vc
open Go.Pz
theorem Z8t {ts : List T3} (h : ((ts.length : Int) == 0) = false) : ts ≠ [] := fun e => by subst e; cases h
theorem Z2Q {ts : List T3} (h : ts ≠ []) : (0 : Int) < ts.length := by have := List.length_pos_iff.2 h; omega
theorem ZfM {a b : Bool} (h : (a || b) = false) : a = false := by cases a <;> simp_all
theorem ZdR (k : Int) (s : ByteArray) (ts : List T3) : (((((ts.length : Nat) : Int) == 0) ||((ts.headD t3D).k != k)) || !(seq (ts.headD t3D).t s)) = !(isT k s ts) := by
 cases ts with
 | nil => rfl
 | cons t r =>
   rw [Z2L]
   have : ((((t :: r).length : Nat) : Int) == 0) = false := by rw [beq_eq_false_iff_ne]; simp; omega
   rw [this, Bool.false_or]
   show ((!(t.k == k)) || !(sq t.t s)) = !((t.k == k) && sq t.t s)
   rw [← Bool.not_and]
abbrev flt : List PanicEntry := [{ v := .iface Z8n (.agg #[]), recovered := false }]
theorem Zed {k : Int} {s : ByteArray} {ts : List T3} (h : isT k s ts = true) : ts ≠ [] := fun e => by subst e; cases h
theorem Z3H (T : Tk) (hc : T.ts.length ≤ T.cap) (b : Nat) (ts : List T3) (hts : ts <:+ T.ts) (kd : Int) (s : ByteArray) : CallL Tryz.prog Z8k [PB T b ts] [T.G] [.is (.pointer (some ⟨b, 0, none⟩)), .is (.int .i64 kd), .is (.string s)] (fun _ : Unit => True) (fun _ => [PB T b (skT kd s ts)]) (fun _ => .is (.bool (isT kd s ts))) :=
CallL.of (fn := Tryz.f65) Tryz.func65 (n := 43) rfl rfl rfl (fun _ _ => by kernel_rfl) fun E W hb0 => by
 refine vQ ?_
 refine Ja rfl ?_
 refine vS [0, 1, 2] ?_
 refine J.reg0 hmx qK qK ?_
 refine yz (Z2 rfl) ?_
 refine yz (Z5 rfl) ?_
 refine yz (Z0 Zk rfl) ?_
 refine yz (Z1 ZA rfl rfl) ?_
 refine yz (Zo Z16 rfl) ?_
 refine yz (ZM rfl rfl) ?_
 refine yz (Z2 rfl) ?_
 refine yg rfl rfl rfl (fun hg => Z2 (.inl rfl)) ?_
 refine yg rfl rfl rfl (fun hg => Z5 (qR rfl)) ?_
 refine yg rfl rfl rfl (fun hg => Z0 Zk (qR rfl)) ?_
 refine yg rfl rfl rfl (fun hg => Z1 ZA (qR rfl) rfl) ?_
 refine yg rfl rfl rfl (fun hg => Z7 Z17 (qR rfl) rfl (.inl rfl) qM (Z2Q (Z8t hg))) ?_
 refine yg rfl rfl rfl (fun hg => Z0 Z35 (qR rfl)) ?_
 refine yg rfl rfl rfl (fun hg => ZJ (enc := T3.cells) (sz := 3) (i := T.k ts) (j := 0) (y := ts.headD t3D) (u := .int .i64 (ts.headD t3D).k) Zt (qR rfl) qI rfl (Tk.head hts (Z8t hg)) (by rw [Tk.j_eq hc hts (Z8t hg)]; omega) rfl) ?_
 refine yg rfl rfl rfl (fun hg => Z2 (.inl rfl)) ?_
 refine yg rfl rfl rfl (fun hg => Z25 (qR rfl) (qR rfl)) ?_
 refine yz (Z11 rfl rfl rfl id) ?_
 refine yz (Z2 rfl) ?_
 refine yg rfl rfl rfl (fun hg => Z2 (.inl rfl)) ?_
 refine yg rfl rfl rfl (fun hg => Z5 (qR rfl)) ?_
 refine yg rfl rfl rfl (fun hg => Z0 Zk (qR rfl)) ?_
 refine yg rfl rfl rfl (fun hg => Z1 ZA (qR rfl) rfl) ?_
 refine yg rfl rfl rfl (fun hg => Z7 Z17 (qR rfl) rfl (.inl rfl) qM (Z2Q (Z8t (ZfM hg)))) ?_
 refine yg rfl rfl rfl (fun hg => Z0 Z5X (qR rfl)) ?_
 refine yg rfl rfl rfl (fun hg => ZJ (enc := T3.cells) (sz := 3) (i := T.k ts) (j := 1) (y := ts.headD t3D) (u := .string (ts.headD t3D).t) Z9 (qR rfl) qI rfl (Tk.head hts (Z8t (ZfM hg))) (by rw [Tk.j_eq hc hts (Z8t (ZfM hg))]; omega) rfl) ?_
 refine yg rfl rfl rfl (fun hg => Z2 (.inl rfl)) ?_
 refine yg rfl rfl rfl (fun hg => Z3m (qR rfl) (qR rfl)) ?_
 refine yz (Z11 rfl rfl rfl id) ?_
 apply yn
 refine FinS.nil0 ?_
 refine vS [0, 34] ?_
 refine yC rfl (fun ht34 => ?_) (fun ht34 => ?_)
 have hT : isT kd s ts = false := by rw [ZdR] at ht34; simpa using ht34
 rw [show skT kd s ts = ts by unfold skT; rw [hT]; rfl]
 refine vQ ?_
 refine Ja rfl ?_
 refine vS [6] ?_
 refine vR ?_
 exact JX.retL1 rfl () trivial (.refl _) rfl rfl hb0 rfl (Sub.isEq (by rw [hT]))
 apply yK
 repeat first|apply yX|apply yB
 have hT : isT kd s ts = true := by rw [ZdR] at ht34; simpa using ht34
 rw [show skT kd s ts = ts.tail by unfold skT; rw [hT]; rfl]
 refine vQ ?_
 refine Jm rfl (Jm rfl (Jq (Z5 rfl) ?_))
 refine Jq (Z0 Zk rfl) ?_
 refine Jq (Z1 ZA rfl rfl) ?_
 refine Jq (Z6P Z16 Z17 rfl rfl qM (by have := Z2Q (Zed hT); omega)) ?_
 refine Jq (Z5 rfl) ?_
 refine Jq (Z0 Zk rfl) ?_
 refine JO.m (Zj (cs' := [_]) rfl rfl qU rfl rfl rfl rfl Z4g) (by rfl) ?_
 apply yI
 repeat first|apply yX|apply yB
 refine yL [] .nil ?_
 refine vQ ?_
 refine Ja rfl ?_
 refine vS [6] ?_
 refine vR ?_
 refine JX.retL1 (Lr := []) rfl () trivial (.of_eq ?_) rfl rfl hb0 rfl (Sub.isEq (by rw [hT]))
 exact congrArg (fun v => [Own.mk b Z2M (.is (.agg #[v]))]) (Tk.tail hc hts (Zed hT))
theorem Ze (T : Tk) (hc : T.ts.length ≤ T.cap) (b : Nat) (ts : List T3) (hts : ts <:+ T.ts) (s : ByteArray) : CallL Tryz.prog Z8h [PB T b ts] [T.G] [.is (.pointer (some ⟨b, 0, none⟩)), .is (.string s)] (fun _ : Unit => True) (fun _ => [PB T b (skT 5 s ts)]) (fun _ => .is (.bool (isT 5 s ts))) :=
CallL.of (fn := Tryz.f27) Tryz.func27 (n := 8) rfl rfl rfl (fun _ _ => by kernel_rfl) fun E W hb0 => by
 refine vQ ?_
 refine Ja rfl ?_
 refine vP [0, 1] ?_
 refine Jm rfl (Jm rfl ?_)
 refine JO.callK (Lr := []) (Z3H T hc b ts hts 5 s) rfl (.refl _) (Z70 qI) qA ?_
 intro z hz
 refine Ja rfl ?_
 refine vS [4] ?_
 refine vR ?_
 exact JX.retL1 rfl () trivial (.refl _) rfl rfl hb0 rfl (Sub.refl _)
theorem Zi (T : Tk) (hc : T.ts.length ≤ T.cap) (b : Nat) (ts : List T3) (hts : ts <:+ T.ts) (s : ByteArray) : CallL Tryz.prog Z88 [PB T b ts] [T.G] [.is (.pointer (some ⟨b, 0, none⟩)), .is (.string s)] (fun _ : Unit => True) (fun _ => [PB T b (skT 1 s ts)]) (fun _ => .is (.bool (isT 1 s ts))) :=
CallL.of (fn := Tryz.f104) Tryz.func104 (n := 8) rfl rfl rfl (fun _ _ => by kernel_rfl) fun E W hb0 => by
 refine vQ ?_
 refine Ja rfl ?_
 refine vP [0, 1] ?_
 refine Jm rfl (Jm rfl ?_)
 refine JO.callK (Lr := []) (Z3H T hc b ts hts 1 s) rfl (.refl _) (Z70 qI) qA ?_
 intro z hz
 refine Ja rfl ?_
 refine vS [4] ?_
 refine vR ?_
 exact JX.retL1 rfl () trivial (.refl _) rfl rfl hb0 rfl (Sub.refl _)
theorem Zb (pv : Value) (x : Bool) : CallP Tryz.prog Z86 [] [] [.is pv, .is (.bool x)] (x = false) flt (fun _ : Unit => x = true) (fun _ => []) (fun _ => .is (.tuple #[])) :=
CallP.of (fn := Tryz.f28) Tryz.func28 (n := 8) rfl rfl rfl (fun _ _ => by kernel_rfl) fun E W hb0 => by
 refine vQ ?_
 refine Jm rfl (Jq (Z6p rfl) ?_)
 refine vS [5] ?_
 refine yC rfl (fun ht5 => ?_) (fun ht5 => ?_)
 refine vQ ?_
 refine Jq (ZB (cs := []) Z8z .nil rfl rfl) ?_
 refine Jq (ZdH (d := .struct #[]) qK rfl rfl) ?_
 refine JO.pan rfl ?_
 exact JX.pnI (by simpa using ht5)
 apply yK
 refine JX.normal_ret ?_
 refine JX.toP ?_
 exact JX.retL0 rfl () (by simpa using ht5) (Z1k _) rfl hb0 rfl
theorem Z9F {k : Int} {ts : List T3} (h : isK k ts = true) : ts ≠ [] := fun e => by subst e; cases h
theorem Z78 (k : Int) (ts : List T3) : (decide ((0 : Int) < ((ts.length : Nat) : Int)) && ((ts.headD t3D).k == k)) = isK k ts := by
 cases ts with
 | nil => rfl
 | cons t r => rw [decide_eq_true (show (0 : Int) < (((t :: r).length : Nat) : Int) by simp)]; rfl
theorem Zc7 (k : Int) (ts : List T3) : takeP k ts = if isK k ts then some (ts.headD t3D, ts.tail) else none := by cases ts <;> rfl
theorem Z33 {ts : List T3} (h : decide ((0 : Int) < ((ts.length : Nat) : Int)) = true) : ts ≠ [] := fun e => by subst e; cases h
theorem Z1x (T : Tk) (hc : T.ts.length ≤ T.cap) (b : Nat) (ts : List T3) (hts : ts <:+ T.ts) (kd : Int) : CallP Tryz.prog Z8v [PB T b ts] [T.G] [.is (.pointer (some ⟨b, 0, none⟩)), .is (.int .i64 kd)] (takeP kd ts = none) flt (fun z : T3 × List T3 => takeP kd ts = some z) (fun z => [PB T b z.2]) (fun z => .is (tv z.1)) :=
CallP.of (fn := Tryz.f64) Tryz.func64 (n := 40) rfl rfl rfl (fun _ _ => by kernel_rfl) fun E W hb0 => by
 refine vQ ?_
 refine JO.alloc Z2F rfl fun b4 => ?_
 refine vS [0, 1, 4] ?_
 refine J.regS 18 hmx qK qK ?_
 refine yz (Z2 rfl) ?_
 refine yz (Z2 rfl) ?_
 refine yz (Z5 rfl) ?_
 refine yz (Z0 Zk rfl) ?_
 refine yz (Z1 ZA rfl rfl) ?_
 refine yz (Zo Z16 rfl) ?_
 refine yz (Z2i rfl rfl) ?_
 refine yz (Z2 rfl) ?_
 refine yg rfl rfl rfl (fun hg => Z2 (.inl rfl)) ?_
 refine yg rfl rfl rfl (fun hg => Z5 (qR rfl)) ?_
 refine yg rfl rfl rfl (fun hg => Z0 Zk (qR rfl)) ?_
 refine yg rfl rfl rfl (fun hg => Z1 ZA (qR rfl) rfl) ?_
 refine yg rfl rfl rfl (fun hg => Z7 Z17 (qR rfl) rfl (.inl rfl) qM (Z2Q (Z33 hg))) ?_
 refine yg rfl rfl rfl (fun hg => Z0 Z35 (qR rfl)) ?_
 refine yg rfl rfl rfl (fun hg => ZJ (enc := T3.cells) (sz := 3) (i := T.k ts) (j := 0) (y := ts.headD t3D) (u := .int .i64 (ts.headD t3D).k) Zt (qR rfl) qI rfl (Tk.head hts (Z33 hg)) (by rw [Tk.j_eq hc hts (Z33 hg)]; omega) rfl) ?_
 refine yg rfl rfl rfl (fun hg => Z2 (.inl rfl)) ?_
 refine yg rfl rfl rfl (fun hg => ZM (qR rfl) (qR rfl)) ?_
 refine yz (ZV rfl rfl rfl id) ?_
 apply yn
 refine FinS.tail0 ?_
 refine JO.callPK (Lr := _) (Zb (.pointer (some ⟨b, 0, none⟩)) _) rfl (Z1k _) Z19 qA (fun hbad => ?_) ?_
 · exact JX.pnI (by rw [Zc7, ← Z78, hbad]; rfl)
 intro z hz
 have hK : isK kd ts = true := by rw [← Z78]; exact hz
 refine vD ?_
 refine vP [0, 4] ?_
 refine Jm rfl (Jq (Z5 rfl) ?_)
 refine Jq (Z0 Zk rfl) ?_
 refine Jq (Z1 ZA rfl rfl) ?_
 refine Jq (Z7 Z17 rfl rfl rfl qM (Z2Q (Z9F hK))) ?_
 refine Jq (Z2W (enc := T3.cells) (sz := 3) (i := T.k ts) (y := ts.headD t3D) (cs := T3.cells (ts.headD t3D)) Z15 rfl qI rfl (Tk.head hts (Z9F hK)) (by rw [Tk.j_eq hc hts (Z9F hK)]; rfl) rfl) ?_
 refine JO.alloc Z2F rfl fun b5 => ?_
 refine JO.m (Z3 rfl rfl qU qC qO Z1h) (by rfl) ?_
 refine vP [0, 4, 5] ?_
 refine Jm rfl (Jm rfl (Jq (Z5 rfl) ?_))
 refine Jq (Z0 Zk rfl) ?_
 refine Jq (Z1 ZA rfl rfl) ?_
 refine Jq (Z6P Z16 Z17 rfl rfl qM (by have := Z2Q (Z9F hK); omega)) ?_
 refine Jq (Z5 rfl) ?_
 refine Jq (Z0 Zk rfl) ?_
 refine JO.m (Zj (cs' := [_]) rfl rfl qU rfl rfl rfl rfl Z4g) (by rfl) ?_
 refine vP [4, 5] ?_
 refine Jq (ZI (cs := [_, _, _]) Z15 rfl rfl rfl) ?_
 refine JO.m (Z3 rfl rfl qU qC qO Z1h) (by rfl) ?_
 refine vS [4] ?_
 refine vR ?_
 refine JX.toP ?_
 exact JX.retLC (Lr := [_, _]) (L1 := fun z : T3 × List T3 => [PB T b z.2]) (R := fun z => .is (tv z.1)) rfl (ts.headD t3D, ts.tail) (by rw [Zc7, hK]; rfl) (List.Perm.trans (List.perm_append_comm (l₁ := [_, _]) (l₂ := [_])) (.of_eq (congrArg (fun v => Own.mk b Z2M (.is (.agg #[v])) :: [_, _]) (Tk.tail hc hts (Z9F hK))))) rfl hb0 rfl Z15 HasOwn.mem rfl rfl
theorem ZK (T : Tk) (hc : T.ts.length ≤ T.cap) (b : Nat) (ts : List T3) (hts : ts <:+ T.ts)  : CallP Tryz.prog Z5m [PB T b ts] [T.G] [.is (.pointer (some ⟨b, 0, none⟩))] (nameP ts = none) flt (fun z : ByteArray × List T3 => nameP ts = some z) (fun z => [PB T b z.2]) (fun z => .is (.string z.1)) :=
CallP.of (fn := Tryz.f105) Tryz.func105 (n := 6) rfl rfl rfl (fun _ _ => by kernel_rfl) fun E W hb0 => by
 refine vQ ?_
 refine Ja rfl ?_
 refine vP [0] ?_
 refine Jm rfl ?_
 refine JO.callPK (Lr := []) (Z1x T hc b ts hts 2) rfl (.refl _) (Z70 qI) qA (fun hbad => ?_) ?_
 · exact JX.pnI (by unfold nameP; rw [hbad]; rfl)
 intro z hz
 refine vD ?_
 refine Jq (Z4y (off := 1) qK rfl rfl) ?_
 refine Ja rfl ?_
 refine vS [2] ?_
 refine vR ?_
 refine JX.toP ?_
 exact JX.retL1 (L1 := fun z : ByteArray × List T3 => [PB T b z.2]) (R := fun z => .is (.string z.1)) rfl (z.1.t, z.2) (by unfold nameP; rw [hz]; rfl) (.refl _) rfl rfl hb0 rfl (Sub.refl _)
theorem Sub.leaf {L : List Own} {Φ : List (World → Prop)} {k vk vn : Int} {vs tb nm : ByteArray} {sl : Int} : Sub L Φ (.is (.agg (exCells k vk vn vs tb nm sl none 0 0).toArray)) (.rep (ExR (.mk k vk vn vs tb nm sl []))) := fun E v w hf e => by
 rw [show v = _ from e]
 exact fun w' _ => Zd5
theorem Z2J (k : Int) (kids : List Ex) : CallTy Tryz.prog Zdb [.is (.int .i64 k), .rep (ExsR kids)] (.rep (ExR (nd k kids))) :=
 CallTy.of (fn := Tryz.f164) Tryz.func164 (n := 8) rfl rfl rfl (fun _ _ => by kernel_rfl) fun E W => by
 refine J.openExs (s := 1) rfl (fun a len cap b0 o0 hl ha => ?_)
 refine vQ ?_
 refine JO.alloc Z13 rfl fun b4 => ?_
 refine vP [0, 1, 4] ?_
 refine Jm rfl (Jm rfl (Jq (ZB (cs := [_, _, _, _, _, _, _, _]) Z6l (.cons rfl (.cons rfl .nil)) rfl rfl) ?_))
 refine JO.m (Z3 rfl rfl qU qC qO Zq) (by rfl) ?_
 refine vS [4] ?_
 refine vR ?_
 exact JX.retCsub rfl rfl Za HasOwn.mem rfl rfl (Sub.exMk List.mem_cons_self)
theorem Z3u (vk vn : Int) (vs : ByteArray) : CallTy Tryz.prog Zbr [.is (.agg #[.int .i64 vk, .int .i64 vn, .string vs])] (.rep (ExR (lit vk vn vs))) :=
 CallTy.of (fn := Tryz.f193) Tryz.func193 (n := 5) rfl rfl rfl (fun _ _ => by kernel_rfl) fun E W => by
 refine vQ ?_
 refine JO.box rfl rfl fun b1 => ?_
 refine JO.alloc Z13 rfl fun b2 => ?_
 refine vP [1, 2] ?_
 refine Jq (ZI (cs := [_, _, _]) Z4n rfl rfl rfl) ?_
 refine Jq (ZB (cs := [_, _, _, _, _, _, _, _]) Z6l (.cons rfl (.cons rfl .nil)) rfl rfl) ?_
 refine JO.m (Z3 rfl rfl qU qC qO Zq) (by rfl) ?_
 refine vS [2] ?_
 refine vR ?_
 exact JX.retCsub rfl rfl Za HasOwn.mem rfl rfl Sub.leaf
theorem Zch {e : Ps Ex} {ts : List T3} (h : isT 5 Z1d ts = true) : factorP e ts = (factorP e ts.tail).map fun z => (nd 3 [z.1], z.2) := by
 obtain ⟨t, r, rfl, _⟩ := Z56 h
 rw [factorP, if_pos h]; rfl
theorem Zcq {e : Ps Ex} {ts : List T3} (h : isT 5 Z1d ts = false) : factorP e ts = atomP e ts := by
 cases ts with
 | nil => rw [factorP]
 | cons t r => rw [factorP, if_neg (by rw [h]; decide)]
theorem ZU {k : Int} {s : ByteArray} {ts : List T3} (h : isT k s ts = true) : skT k s ts = ts.tail := by unfold skT; rw [h]; rfl
theorem ZZ {k : Int} {s : ByteArray} {ts : List T3} (h : isT k s ts = false) : skT k s ts = ts := by unfold skT; rw [h]; rfl
theorem Zm {ts us : List T3} (h : ts <:+ us) : ts.tail <:+ us := (List.tail_suffix ts).trans h
theorem Z64 (T : Tk) (hc : T.ts.length ≤ T.cap) (b : Nat) (ts : List T3) (hts : ts <:+ T.ts) (e : Ps Ex) (hat : CallP Tryz.prog Z2O [PB T b (ts)] [T.G, AF] [.is (.pointer (some ⟨b, 0, none⟩))] (atomP e (ts) = none) flt (fun z : Ex × List T3 => atomP e (ts) = some z) (fun z => [PB T b z.2]) (fun z => .rep (ExR z.1))) (ih : ∀ us, us <:+ T.ts → us.length < ts.length → CallP Tryz.prog Z1H [PB T b (us)] [T.G, AF] [.is (.pointer (some ⟨b, 0, none⟩))] (factorP e (us) = none) flt (fun z : Ex × List T3 => factorP e (us) = some z) (fun z => [PB T b z.2]) (fun z => .rep (ExR z.1))) : CallP Tryz.prog Z1H [PB T b ts] [T.G, AF] [.is (.pointer (some ⟨b, 0, none⟩))] (factorP e ts = none) flt (fun z : Ex × List T3 => factorP e ts = some z) (fun z => [PB T b z.2]) (fun z => .rep (ExR z.1)) :=
CallP.of (fn := Tryz.f191) Tryz.func191 (n := 11) rfl rfl rfl (fun _ _ => by kernel_rfl) fun E W hb0 => by
 refine vQ ?_
 refine JO.alloc Z13 rfl fun b2 => ?_
 refine vP [0, 2] ?_
 refine Jm rfl ?_
 refine JO.callK (Lr := [_]) (Ze T hc b ts hts Z1d) rfl (.swap _ _ _) qF qA ?_
 intro z hz
 refine vD ?_
 refine vS [0, 2, 4] ?_
 refine yC rfl (fun ht4 => ?_) (fun ht4 => ?_)
 rw [ZU ht4]
 refine vQ ?_
 refine Jm rfl ?_
 refine JO.callPK (Lr := [_]) (ih ts.tail (Zm hts) (Zz ht4).2) rfl (.refl _) qF qA (fun hbad => ?_) ?_
 · exact JX.pnI (by rw [Zch ht4, hbad]; rfl)
 intro z hz
 refine vD ?_
 refine JO.openA (s := 6) rfl (fun a6 l6 q6 b6_ o6_ _ _ => ?_)
 refine Jq (ZF (cs := [_, _, _, _, _, _, _, _]) ZT qM qM (.cons rfl .nil) rfl rfl rfl) ?_
 refine JO.callK (Lr := [_, _]) ((Z2J 3 [z.1]).toL (L0 := []) (Φ0 := []) (Zp := fun _ : Unit => True) (L1 := fun _ => []) (R := fun _ => .rep (ExR (nd 3 [z.1]))) () trivial rfl (fun _ _ _ h => h)) rfl (Z1k _) Z19 (.one rfl (.sub rfl (Sub.newExs [XC.mk' (z.1) (z.1).K (z.1).VK (z.1).VN (z.1).VS (z.1).TB (z.1).NM (z.1).SL a6 l6 q6] rfl (fun p hp => by rw [List.mem_singleton] at hp; subst hp; (repeat first|exact yh|apply yx))) .nil)) ?_
 intro _ _
 refine vD ?_
 refine JO.m (Z3 rfl rfl qU qC qO Zq) (by rfl) ?_
 refine vS [2] ?_
 refine vR ?_
 refine JX.toP ?_
 exact JX.retLCs (Lr := [_]) (L1 := fun z : Ex × List T3 => [PB T b z.2]) (R := fun z => .rep (ExR z.1)) rfl (nd 3 [z.1], z.2) (by rw [Zch ht4, hz]; rfl) (.refl _) rfl rfl hb0 rfl Za HasOwn.mem Z1J (Sub.refl _)
 apply yK
 repeat first|apply yX|apply yB
 rw [ZZ ht4]
 refine vQ ?_
 refine Jm rfl ?_
 refine JO.callPK (Lr := [_]) (hat) rfl (.refl _) qF qA (fun hbad => ?_) ?_
 · exact JX.pnI (by rw [Zcq ht4, hbad])
 intro z hz
 refine vD ?_
 refine JO.m (Z3 rfl rfl qU qC qO Zq) (by rfl) ?_
 refine vS [2] ?_
 refine vR ?_
 refine JX.toP ?_
 exact JX.retLCs (Lr := [_]) (L1 := fun z : Ex × List T3 => [PB T b z.2]) (R := fun z => .rep (ExR z.1)) rfl z (by rw [Zcq ht4, hz]) (.refl _) rfl rfl hb0 rfl Za HasOwn.mem Z1J (Sub.refl _)
theorem Z4P (T : Tk) (hc : T.ts.length ≤ T.cap) (b : Nat) (e : Ps Ex) (N : Nat) (hat : ∀ ts, ts <:+ T.ts → ts.length ≤ N → CallP Tryz.prog Z2O [PB T b (ts)] [T.G, AF] [.is (.pointer (some ⟨b, 0, none⟩))] (atomP e (ts) = none) flt (fun z : Ex × List T3 => atomP e (ts) = some z) (fun z => [PB T b z.2]) (fun z => .rep (ExR z.1))) : ∀ n ts, ts <:+ T.ts → ts.length ≤ N → ts.length ≤ n → CallP Tryz.prog Z1H [PB T b (ts)] [T.G, AF] [.is (.pointer (some ⟨b, 0, none⟩))] (factorP e (ts) = none) flt (fun z : Ex × List T3 => factorP e (ts) = some z) (fun z => [PB T b z.2]) (fun z => .rep (ExR z.1))
 | n, ts, hts, hN, hn => Z64 T hc b ts hts e (hat ts hts hN) fun us hus hl => by
  cases n with
  | zero => omega
  | succ n => exact Z4P T hc b e N hat n us hus qM qM
theorem ZgE (s : ByteArray) (h : Lib.fields s.data.toList = [s.data.toList]) (hs : s.size < 4294967281) (ha : ∀ (j : Nat) (b : UInt8), s.data.toList[j]? = some b → b.toNat < 128) : CallF Tryz.prog Z76 [AF] [.is (.string s)] (.newSl (.cells ([Value.string s] : List Value).toArray 9 (0, 0)) 1 1) := by
 have h1 := ZaX s hs ha
 rw [h] at h1
 have e : (⟨s.data.toList.toArray⟩ : ByteArray) = s := by rw [Array.toArray_toList]
 simp only [List.map_cons, List.map_nil, e] at h1
 exact h1
abbrev wd (i : Nat) (s : ByteArray) (ts : List T3) : List T3 := if i = 0 then ts else ts.tail
theorem Zr (T : Tk) (hc : T.ts.length ≤ T.cap) (b : Nat) (ts : List T3) (hts : ts <:+ T.ts) (s : ByteArray) (h : Lib.fields s.data.toList = [s.data.toList]) (hs : s.size < 4294967281) (ha : ∀ (j : Nat) (b : UInt8), s.data.toList[j]? = some b → b.toNat < 128) : CallP Tryz.prog Z80 [PB T b ts] [T.G, AF] [.is (.pointer (some ⟨b, 0, none⟩)), .is (.string s)] (wantP 1 s ts = none) flt (fun z : Unit × List T3 => wantP 1 s ts = some z) (fun z => [PB T b z.2]) (fun _ => .is (.tuple #[])) :=
CallP.of (fn := Tryz.f108) Tryz.func108 (n := 19) rfl rfl rfl (fun _ _ => by kernel_rfl) fun E W hb0 => by
 refine vQ ?_
 refine Jm rfl (Jq (ZG rfl (ZgE s h hs ha) (by simp) qA) ?_)
 refine JO.openNew (s := 7) rfl (fun r7 => ?_)
 refine Jq (Zo ZX rfl) ?_
 refine Jm rfl ?_
 refine vS [0, 7, 8, 9] ?_
 apply yk
 repeat apply yQ
 refine J.loopG (α := Nat) (fun i => [(0, .is (.pointer (some ⟨b, 0, none⟩))), (7, .is (.slice (some ⟨r7, 0, none⟩) 1 1)), (8, .is (.int .i64 1)), (9, .is (.int .i64 (i : Int)))]) (fun i => [PB T b (wd i s ts)]) (fun i => fun _ => True) (fun i => i ≤ 1 ∧ (i = 1 → isT 1 s ts = true)) (fun i => 1 - i) 0 [0, 7, 8, 9] (.cons rfl (.cons rfl (.cons rfl (.cons rfl .nil)))) rfl (fun _ => trivial) ⟨by omega, by omega⟩ fun i ⟨hi, hT⟩ => ?_
 refine vQ ?_
 refine Jq (ZW rfl rfl) ?_
 refine vS [0, 7, 8, 9, 10] ?_
 refine yC rfl (fun ht10 => ?_) (fun ht10 => ?_)
 try simp only [yd, yf] at ht10
 apply yK
 refine vN ?_
 apply yk
 obtain rfl : i = 0 := by omega
 rw [show wd 0 s ts = ts from rfl]
 refine vQ ?_
 refine Jq (Z7 Z1B rfl rfl rfl qM qM) ?_
 refine Jq (Z8l (cs := [Value.string s]) Z9 rfl qI rfl) ?_
 refine Ja rfl ?_
 refine vP [0, 5, 7, 8, 9] ?_
 refine Jm rfl (Jm rfl (Jm rfl ?_))
 refine JO.callK (Lr := []) (Zi T hc b ts hts s) rfl (.refl _) (Z70 qI) qA ?_
 intro z hz
 refine JO.callPK (Lr := _) (Zb (.pointer (some ⟨b, 0, none⟩)) (isT 1 s ts)) rfl (Z1k _) Z19 qA (fun hbad => ?_) ?_
 · exact JX.pnI (by unfold wantP; rw [hbad]; rfl)
 intro z hz
 refine vD ?_
 refine vS [0, 7, 8, 9] ?_
 rw [show skT 1 s ts = wd 1 s ts by unfold skT; rw [hz]; rfl]
 refine vQ ?_
 refine Jq (ZE (cc := 1) rfl rfl qM qM qM) ?_
 refine Jm rfl ?_
 apply yI
 repeat refine JX.normal_block ?_
 refine JX.roundG (x := 0) 1 ?_ ?_ [0, 7, 8, 9] ?_ ?_ ?_ ?_
 · exact ⟨by omega, fun _ => hz⟩
 · exact qM
 · exact qS
 · exact qH
 · exact qG
 · exact fun _ _ _ => fun _ _ => trivial
 try simp only [yd, yf] at ht10
 repeat apply yQ
 refine J.exit ?_
 repeat first|refine yH ?_|refine yM rfl ?_|refine yE ?_
 repeat first|apply yX|apply yB
 refine JX.normal_ret ?_
 refine JX.toP ?_
 obtain rfl : i = 1 := by omega
 exact JX.retL0 (L1 := fun z : Unit × List T3 => [PB T b z.2]) (R := fun _ => .is (.tuple #[])) rfl ((), ts.tail) (by unfold wantP; rw [hT rfl]; rfl) (.refl _) rfl hb0 rfl
abbrev srcV (s : Pz.Src) : Value := .agg #[.string s.tb, .string s.nm, .slice none 0 0]
theorem Zf5 (z : List T3) : (isT 1 w_AS z ||(decide ((0 : Int) < (((skT 1 w_AS z).length : Nat) : Int)) && (((skT 1 w_AS z).headD t3D).k == 2))) = (isT 1 w_AS z || isK 2 z) := by
 rw [Z78]
 cases h : isT 1 w_AS z with
 | true => rfl
 | false => rw [ZZ h]
theorem Ze4 {ts : List T3} {z : ByteArray × List T3} (hz : nameP ts = some z) (h : (isT 1 w_AS z.2 || isK 2 z.2) = true) : sourceP ts = (nameP (skT 1 w_AS z.2)).map fun m => (⟨z.1, m.1, []⟩, m.2) := by
 unfold sourceP
 rw [hz, Option.bind_some]
 cases ha : isT 1 w_AS z.2 with
 | true => rw [if_pos rfl, ZU ha]
 | false =>
   rw [ha, Bool.false_or] at h
   rw [if_neg qD, if_pos h, ZZ ha]
theorem Zi3 {ts : List T3} {z : ByteArray × List T3} (hz : nameP ts = some z) (h : (isT 1 w_AS z.2 || isK 2 z.2) = false) : sourceP ts = some (⟨z.1, z.1, []⟩, skT 1 w_AS z.2) := by
 unfold sourceP
 rw [Bool.or_eq_false_iff] at h
 rw [hz, Option.bind_some, if_neg (by rw [h.1]; decide), if_neg (by rw [h.2]; decide), ZZ h.1]
theorem Z4R (T : Tk) (hc : T.ts.length ≤ T.cap) (b : Nat) (ts : List T3) (hts : ts <:+ T.ts)  : CallP Tryz.prog Z7p [PB T b ts] [T.G] [.is (.pointer (some ⟨b, 0, none⟩))] (sourceP ts = none) flt (fun z : Pz.Src × List T3 => sourceP ts = some z) (fun z => [PB T b z.2]) (fun z => .is (srcV z.1)) :=
CallP.of (fn := Tryz.f116) Tryz.func116 (n := 34) rfl rfl rfl (fun _ _ => by kernel_rfl) fun E W hb0 => by
 refine vQ ?_
 refine JO.alloc Z45 rfl fun b2 => ?_
 refine vP [0, 2] ?_
 refine Jm rfl ?_
 refine JO.callPK (Lr := [_]) (ZK T hc b ts hts) rfl (.swap _ _ _) (Z70 qI) qA (fun hbad => ?_) ?_
 · exact JX.pnI (by unfold sourceP; rw [hbad]; rfl)
 intro z hz
 refine vD ?_
 have hz2 : z.2 <:+ T.ts := (Zw _ _ hz).1.trans hts
 refine Ja rfl ?_
 refine vP [0, 2, 3] ?_
 refine Jm rfl (Jm rfl (Jq (ZB (cs := [_, _, _]) ZcM (.cons rfl (.cons rfl .nil)) rfl rfl) ?_))
 refine JO.alloc Z45 rfl fun b4 => ?_
 refine JO.m (Z3 rfl rfl qU qC qO Z3j) (by rfl) ?_
 refine vP [0, 2, 4] ?_
 refine Jm rfl ?_
 refine JO.callK (Lr := [_, _]) (Zi T hc b z.2 hz2 w_AS) rfl (.swap _ _ _) (Z70 qI) qA ?_
 intro _ _
 refine vD ?_
 have hu : skT 1 w_AS z.2 <:+ T.ts := (Z3c _ _ _).trans hz2
 refine Jm rfl ?_
 refine JO.tg rfl rfl rfl rfl rfl (fun hg => Z2 (.inl rfl)) ?_
 refine JO.tg rfl rfl rfl rfl rfl (fun hg => Z5 (qR rfl)) ?_
 refine JO.tg rfl rfl rfl rfl rfl (fun hg => Z0 Zk (qR rfl)) ?_
 refine JO.tg rfl rfl rfl rfl rfl (fun hg => Z1 ZA (qR rfl) rfl) ?_
 refine JO.tg rfl rfl rfl rfl rfl (fun hg => Zo Z16 (qR rfl)) ?_
 refine JO.tg rfl rfl rfl rfl rfl (fun hg => Z2i (qR rfl) (.inl rfl)) ?_
 refine JO.tg rfl rfl rfl rfl rfl (fun hg => Z2 (qR rfl)) ?_
 refine JO.tgg rfl rfl rfl rfl rfl (fun hg => Z2 (.inl rfl)) ?_
 refine JO.tgg rfl rfl rfl rfl rfl (fun hg => Z5 (qR rfl)) ?_
 refine JO.tgg rfl rfl rfl rfl rfl (fun hg => Z0 Zk (qR rfl)) ?_
 refine JO.tgg rfl rfl rfl rfl rfl (fun hg => Z1 ZA (qR rfl) rfl) ?_
 refine JO.tgg rfl rfl rfl rfl rfl (fun hg => Z7 Z17 (qR rfl) rfl (.inl rfl) qM (Z2Q (Z33 hg.2))) ?_
 refine JO.tgg rfl rfl rfl rfl rfl (fun hg => Z0 Z35 (qR rfl)) ?_
 refine JO.tgg rfl rfl rfl rfl rfl (fun hg => ZJ (enc := T3.cells) (sz := 3) (i := T.k (skT 1 w_AS z.2)) (j := 0) (y := (skT 1 w_AS z.2).headD t3D) (u := .int .i64 ((skT 1 w_AS z.2).headD t3D).k) Zt (qR rfl) qI rfl (Tk.head hu (Z33 hg.2)) (by rw [Tk.j_eq hc hu (Z33 hg.2)]; omega) rfl) ?_
 refine JO.tgg rfl rfl rfl rfl rfl (fun hg => ZM (qR rfl) (.inl rfl)) ?_
 refine JO.tg rfl rfl rfl rfl rfl (fun hg => ZV (qR rfl) (.inl rfl) (.inl rfl) (fun h => ⟨hg, h⟩)) ?_
 refine Jq (Z11 rfl rfl rfl id) ?_
 refine vS [0, 2, 4, 29] ?_
 refine yC rfl (fun ht29 => ?_) (fun ht29 => ?_)
 have hv : (isT 1 w_AS z.2 || isK 2 z.2) = true := by rw [← Zf5]; exact ht29
 refine vQ ?_
 refine Jm rfl ?_
 refine JO.callPK (Lr := [_, _]) (ZK T hc b (skT 1 w_AS z.2) hu) rfl (.refl _) (Z70 qI) qA (fun hbad => ?_) ?_
 · exact JX.pnI (by rw [Ze4 hz hv, hbad]; rfl)
 intro y hy
 refine vD ?_
 refine Jq (Z0 Z2q rfl) ?_
 refine JO.m (Zj (cs' := [_, _, _]) rfl rfl qU rfl rfl rfl rfl Z5w) (by rfl) ?_
 refine vP [2, 4] ?_
 refine Jq (ZI (cs := [_, _, _]) Z2V rfl rfl rfl) ?_
 refine JO.m (Z3 rfl rfl qU qC qO Z3j) (by rfl) ?_
 refine vS [2] ?_
 refine vR ?_
 refine JX.toP ?_
 exact JX.retLC (Lr := [_, _]) (L1 := fun z : Pz.Src × List T3 => [PB T b z.2]) (R := fun z => .is (srcV z.1)) rfl (⟨z.1, y.1, []⟩, y.2) (by rw [Ze4 hz hv, hy]; rfl) (.refl _) rfl hb0 rfl Z2V HasOwn.mem rfl rfl
 apply yK
 refine vN ?_
 apply yN
 refine Jq (ZI (cs := [_, _, _]) Z2V rfl rfl rfl) ?_
 refine JO.m (Z3 rfl rfl qU qC qO Z3j) (by rfl) ?_
 refine vS [2] ?_
 refine vR ?_
 refine JX.toP ?_
 have hv : (isT 1 w_AS z.2 || isK 2 z.2) = false := by rw [← Zf5]; exact ht29
 exact JX.retLC (Lr := [_, _]) (L1 := fun z : Pz.Src × List T3 => [PB T b z.2]) (R := fun z => .is (srcV z.1)) rfl (⟨z.1, z.1, []⟩, skT 1 w_AS z.2) (Zi3 hz hv) (.refl _) rfl hb0 rfl Z2V HasOwn.mem rfl rfl
abbrev fv (f : FuncId) : Value := .func (.func f) #[] #[]
theorem Z5v {k : Int} {ops : List (ByteArray × Int)} {i : Nat} (h : i < ops.length) (ts : List T3) : opOf k (ops.drop i) ts = if isT k (ops.getD i (em, 0)).1 ts then some (ops.getD i (em, 0)).2 else opOf k (ops.drop (i + 1)) ts := by
 rw [List.drop_eq_getElem_cons h, List.getD_eq_getElem?_getD, List.getElem?_eq_getElem h]
 rfl
theorem Zlt {ops : List (ByteArray × Int)} {i : Nat} (h : i < ops.length) : (ops.map (·.1))[i]? = some (ops.getD i (em, 0)).1 := by
 rw [List.getElem?_map, List.getD_eq_getElem?_getD, List.getElem?_eq_getElem h]; rfl
theorem ZlH {ops : List (ByteArray × Int)} {i : Nat} (h : i < ops.length) : (ops.map (·.2))[i]? = some (ops.getD i (em, 0)).2 := by
 rw [List.getElem?_map, List.getD_eq_getElem?_getD, List.getElem?_eq_getElem h]; rfl
def chI (p : Ps Ex) (kd : Int) (ops : List (ByteArray × Int)) (ts : List T3) (s : Bool × Ex × List T3) : Prop := if s.1 = true then chainP p kd ops ts = chainC p kd ops s.2.1 s.2.2 else chainP p kd ops ts = some (s.2.1, s.2.2)
theorem Z2C (T : Tk) (hc : T.ts.length ≤ T.cap) (b : Nat) (ts : List T3) (hts : ts <:+ T.ts) (p : Ps Ex) (hpd : Dn p) (kd : Int) (ops : List (ByteArray × Int)) (h63 : ops.length ≤ 9223372036854775806) (fp : FuncId) (hpart : ∀ us, us <:+ T.ts → us.length ≤ ts.length → CallP Tryz.prog fp [PB T b (us)] [T.G, AF] [.is (.pointer (some ⟨b, 0, none⟩))] (p (us) = none) flt (fun z : Ex × List T3 => p (us) = some z) (fun z => [PB T b z.2]) (fun z => .rep (ExR z.1))) : CallP Tryz.prog Z7Z [PB T b ts] [T.G, AF] [.is (.pointer (some ⟨b, 0, none⟩)), .is (fv fp), .is (.int .i64 kd), .rep (SlG sC 1 (ops.map (·.1))), .rep (SlG iC 1 (ops.map (·.2)))] (chainP p kd ops ts = none) flt (fun z : Ex × List T3 => chainP p kd ops ts = some z) (fun z => [PB T b z.2]) (fun z => .rep (ExR z.1)) :=
CallP.of (fn := Tryz.f145) Tryz.func145 (n := 42) rfl rfl rfl (fun _ _ => by kernel_rfl) fun E W hb0 => by
 refine J.openSl (s := 3) rfl (fun a3 l3 c3 b3 o3 hl3 ha3 => ?_)
 refine J.openSl (s := 4) rfl (fun a4 l4 c4 b4 o4 hl4 ha4 => ?_)
 rw [List.length_map] at hl3 hl4
 subst hl3 hl4
 refine vQ ?_
 refine JO.alloc Z13 rfl fun b10 => ?_
 refine vP [0, 1, 2, 3, 4, 10] ?_
 refine Jm rfl (Jm rfl ?_)
 refine JO.callPvK (cp := []) (Lr := [_]) rfl (hpart ts hts (Nat.le_refl _)) rfl (.swap _ _ _) qF (.one rfl .nil) (fun hbad => ?_) ?_
 · exact JX.pnI (by unfold chainP; rw [hbad]; rfl)
 intro z1 hz1
 refine vD ?_
 refine JO.alloc Z13 rfl fun b11 => ?_
 refine JO.m (Z3 rfl rfl qU qC qO Zq) (by rfl) ?_
 refine vP [0, 1, 2, 3, 4, 10, 11] ?_
 refine Ja rfl ?_
 refine vS [0, 1, 2, 3, 4, 10, 11, 12] ?_
 apply yk
 repeat apply yQ
 refine J.loopG (α := Bool × Ex × List T3) (fun s => [(0, .is (.pointer (some ⟨b, 0, none⟩))), (1, .is (fv fp)), (2, .is (.int .i64 kd)), (3, .is (.slice a3 ops.length c3)), (4, .is (.slice a4 ops.length c4)), (10, .is (.pointer (some ⟨b10, 0, none⟩))), (11, .is (.pointer (some ⟨b11, 0, none⟩))), (12, .is (.bool s.1))]) (fun s => [⟨b11, Z6, .rep (ExR s.2.1)⟩, PB T b s.2.2, ⟨b10, Z6, .is (.agg #[.int .i64 0, .int .i64 0, .int .i64 0, .string ⟨#[]⟩, .string ⟨#[]⟩, .string ⟨#[]⟩, .int .i64 0, .slice none 0 0])⟩]) (fun s => fun _ => True) (fun s => s.2.2 <:+ T.ts ∧ s.2.2.length ≤ ts.length ∧ chI p kd ops ts s) (fun s => 2 * s.2.2.length + s.1.toNat) (true, z1.1, z1.2) [0, 1, 2, 3, 4, 10, 11, 12] (.cons rfl (.cons rfl (.cons rfl (.cons rfl (.cons rfl (.cons rfl (.cons rfl (.cons rfl .nil)))))))) rfl (fun _ => trivial) ⟨((hpd _ _ hz1).1.trans hts), (hpd _ _ hz1).1.length_le, by unfold chI; rw [if_pos rfl]; unfold chainP; rw [hz1]; rfl⟩ fun ⟨mo, x, us⟩ ⟨hus, hul, hI⟩ => ?_
 try dsimp only
 try dsimp only at hus
 try dsimp only at hul
 refine vQ ?_
 refine Jm rfl ?_
 refine vS [0, 1, 2, 3, 4, 10, 11, 18] ?_
 refine yC rfl (fun ht18 => ?_) (fun ht18 => ?_)
 apply yK
 refine vN ?_
 apply yk
 obtain rfl : mo = true := ht18
 rw [chI, if_pos rfl] at hI
 refine vQ ?_
 refine Ja rfl ?_
 refine vP [0, 1, 2, 3, 4, 10, 11, 12] ?_
 refine Jm rfl (Jq (Zo ZX rfl) ?_)
 refine Jm rfl ?_
 refine vS [0, 1, 2, 3, 4, 10, 11, 12, 19, 20, 21] ?_
 apply yk
 repeat apply yQ
 refine J.loopG (α := Nat) (fun i => [(0, .is (.pointer (some ⟨b, 0, none⟩))), (1, .is (fv fp)), (2, .is (.int .i64 kd)), (3, .is (.slice a3 ops.length c3)), (4, .is (.slice a4 ops.length c4)), (10, .is (.pointer (some ⟨b10, 0, none⟩))), (11, .is (.pointer (some ⟨b11, 0, none⟩))), (12, .is (.bool false)), (19, .is (.slice a3 ops.length c3)), (20, .is (.int .i64 (ops.length : Int))), (21, .is (.int .i64 (i : Int)))]) (fun i => [⟨b11, Z6, .rep (ExR x)⟩, PB T b us, ⟨b10, Z6, .is (.agg #[.int .i64 0, .int .i64 0, .int .i64 0, .string ⟨#[]⟩, .string ⟨#[]⟩, .string ⟨#[]⟩, .int .i64 0, .slice none 0 0])⟩]) (fun i => fun _ => True) (fun i => i ≤ ops.length ∧ opOf kd (ops.drop i) us = opOf kd ops us) (fun i => ops.length - i) 0 [0, 1, 2, 3, 4, 10, 11, 12, 19, 20, 21] (.cons rfl (.cons rfl (.cons rfl (.cons rfl (.cons rfl (.cons rfl (.cons rfl (.cons rfl (.cons rfl (.cons rfl (.cons rfl .nil))))))))))) rfl (fun _ => trivial) ⟨by omega, rfl⟩ fun i ⟨hi, hO⟩ => ?_
 refine vQ ?_
 refine Jq (ZW rfl rfl) ?_
 refine vS [0, 1, 2, 3, 4, 10, 11, 12, 19, 20, 21, 22] ?_
 refine yC rfl (fun ht22 => ?_) (fun ht22 => ?_)
 try simp only [yd, yf] at ht22
 apply yK
 refine vN ?_
 apply yk
 refine vQ ?_
 refine Jm rfl (Jq (Z7 Z1B rfl (ha3 qM) rfl qM qM) ?_)
 refine Jq (ZJ (enc := sC) (sz := 1) (i := i) (j := 0) (y := (ops.getD i (em, 0)).1) (u := .string (ops.getD i (em, 0)).1) Z9 rfl qI (ha3 qM) (Zlt qM) qM rfl) ?_
 refine Ja rfl (Ja rfl ?_)
 refine vP [0, 1, 2, 3, 4, 10, 11, 12, 13, 14, 19, 20, 21] ?_
 refine Jm rfl (Jm rfl (Jm rfl ?_))
 refine JO.callK (Lr := [_, _]) (Z3H T hc b us hus kd (ops.getD i (em, 0)).1) rfl (.swap _ _ _) qF qA ?_
 intro _ _
 refine vD ?_
 refine vS [0, 1, 2, 3, 4, 10, 11, 12, 13, 19, 20, 21, 29] ?_
 refine yC rfl (fun ht29 => ?_) (fun ht29 => ?_)
 have hit : isT kd (ops.getD i (em, 0)).1 us = true := ht29
 have hop : opOf kd ops us = some (ops.getD i (em, 0)).2 := by rw [← hO, Z5v qM, if_pos hit]
 rw [ZU hit]
 repeat apply yQ
 refine J.regBgPm (Bad := p us.tail = none) (ch := flt) (G := { z : Ex × List T3 // p us.tail = some z }) 7 9 (fun hbad => ?_) (fun g => .rep (ExR g.1.1)) (fun g => [PB T b g.1.2] ++ [⟨b11, Z6, .rep (ExR x)⟩, ⟨b10, Z6, .is (.agg #[.int .i64 0, .int .i64 0, .int .i64 0, .string ⟨#[]⟩, .string ⟨#[]⟩, .string ⟨#[]⟩, .int .i64 0, .slice none 0 0])⟩]) ([⟨b11, Z6, .rep (ExR x)⟩, ⟨b10, Z6, .is (.agg #[.int .i64 0, .int .i64 0, .int .i64 0, .string ⟨#[]⟩, .string ⟨#[]⟩, .string ⟨#[]⟩, .int .i64 0, .slice none 0 0])⟩]) rfl rfl rfl rfl hmx qK rfl qK (fun _ h => List.mem_cons_of_mem _ h) (fun g o ho => List.mem_cons_of_mem _ ho) qK ?_
 · exact JX.pnI (by show chainP p kd ops ts = none; rw [hI, Z8N hpd hop, hbad]; rfl)
 refine yz (Z2 rfl) ?_
 refine yz (Z2 rfl) ?_
 refine yz (Z7 Zge rfl (ha4 qM) rfl qM qM) ?_
 refine yz (ZJ (enc := iC) (sz := 1) (i := i) (j := 0) (y := (ops.getD i (em, 0)).2) (u := .int .i64 (ops.getD i (em, 0)).2) Zt rfl qI (ha4 qM) (ZlH qM) qM rfl) ?_
 refine yz (Z2S Za rfl) ?_
 refine yz (Z2 rfl) ?_
 refine yz (Z2 rfl) ?_
 refine RT.biggP (Lq := [⟨b11, Z6, .rep (ExR x)⟩, ⟨b10, Z6, .is (.agg #[.int .i64 0, .int .i64 0, .int .i64 0, .string ⟨#[]⟩, .string ⟨#[]⟩, .string ⟨#[]⟩, .int .i64 0, .slice none 0 0])⟩]) (Zba (cp := []) rfl (hpart us.tail (Zm hus) (by have := (Zz hit).2; omega)) (.refl _) qF (.one rfl .nil)) (fun g => ?_)
 refine yz (ZaD ZT rfl rfl) ?_
 apply yn
 obtain ⟨z, hg2⟩ := g
 try dsimp only
 have hlt := (Zz hit).2
 refine Jq (ZL rfl (Z2J (ops.getD i (em, 0)).2 [x, z.1]) qA) ?_
 refine JO.m (Z3 rfl rfl qU qC qO Zq) (by rfl) ?_
 refine Ja rfl ?_
 refine vS [0, 1, 2, 3, 4, 10, 11, 12] ?_
 refine J.exit ?_
 repeat first|refine yH ?_|refine yM rfl ?_|refine yE ?_
 repeat first|apply yX|apply yB
 repeat refine JX.normal_block ?_
 refine JX.roundG (x := (true, x, us)) (true, nd (ops.getD i (em, 0)).2 [x, z.1], z.2) ?_ ?_ [0, 1, 2, 3, 4, 10, 11, 12] ?_ ?_ ?_ ?_
 · exact ⟨((hpd _ _ hg2).1.trans (Zm hus)), (by have := (hpd _ _ hg2).2; show z.2.length ≤ ts.length; omega), by unfold chI; rw [if_pos rfl]; rw [hI, Z8N hpd hop, hg2]; rfl⟩
 · exact (by have := (hpd _ _ hg2).2; show 2 * z.2.length + 1 < 2 * us.length + true.toNat; simp; omega)
 · exact qS
 · exact qH
 · exact qG
 · exact fun _ _ _ => fun _ _ => trivial
 apply yK
 repeat first|apply yX|apply yB
 rw [ZZ ht29]
 refine vQ ?_
 refine Jq (ZE (cc := ((i + 1 : Nat) : Int)) rfl rfl qM qM qM) ?_
 refine Jm rfl ?_
 apply yI
 repeat refine JX.normal_block ?_
 refine JX.roundG (x := i) (i + 1) ?_ ?_ [0, 1, 2, 3, 4, 10, 11, 12, 19, 20, 21] ?_ ?_ ?_ ?_
 · exact ⟨by omega, by rw [← hO, Z5v (i := i) qM, if_neg (by rw [ht29]; decide)]⟩
 · exact qM
 · exact qS
 · exact qH
 · exact qG
 · exact fun _ _ _ => fun _ _ => trivial
 try simp only [yd, yf] at ht22
 repeat apply yQ
 refine J.exit ?_
 repeat first|refine yH ?_|refine yM rfl ?_|refine yE ?_
 repeat first|apply yX|apply yB
 repeat refine JX.normal_block ?_
 refine JX.roundG (x := (true, x, us)) (false, x, us) ?_ ?_ [0, 1, 2, 3, 4, 10, 11, 12] ?_ ?_ ?_ ?_
 · exact ⟨hus, hul, by unfold chI; rw [if_neg (by exact Bool.false_ne_true)]; rw [hI]; exact Z9D (by rw [← hO, List.drop_eq_nil_of_le qM]; rfl)⟩
 · exact (by show 2 * us.length + 0 < 2 * us.length + true.toNat; simp)
 · exact qS
 · exact qH
 · exact qG
 · exact fun _ _ _ => fun _ _ => trivial
 repeat apply yQ
 refine J.exit ?_
 repeat first|refine yH ?_|refine yM rfl ?_|refine yE ?_
 repeat first|apply yX|apply yB
 obtain rfl : mo = false := ht18
 rw [chI, if_neg (by exact Bool.false_ne_true)] at hI
 refine vQ ?_
 refine Jq (Z2S Za rfl) ?_
 refine JO.m (Z3 rfl rfl qU qC qO Zq) (by rfl) ?_
 refine vS [10] ?_
 refine vR ?_
 refine JX.toP ?_
 exact JX.retLCs (Lr := [_, _]) (L1 := fun z : Ex × List T3 => [PB T b z.2]) (R := fun z => .rep (ExR z.1)) rfl (x, us) hI (.swap _ _ _) rfl rfl hb0 rfl Za HasOwn.mem Z1J (Sub.refl _)
theorem Z71 (T : Tk) (hc : T.ts.length ≤ T.cap) (b : Nat) (ts : List T3) (hts : ts <:+ T.ts) (e : Ps Ex) (he : Dn0 e) (hpart : ∀ us, us <:+ T.ts → us.length ≤ ts.length → CallP Tryz.prog Z1H [PB T b (us)] [T.G, AF] [.is (.pointer (some ⟨b, 0, none⟩))] (factorP e (us) = none) flt (fun z : Ex × List T3 => factorP e (us) = some z) (fun z => [PB T b z.2]) (fun z => .rep (ExR z.1))) : CallP Tryz.prog Z2k [PB T b ts] [T.G, AF] [.is (.pointer (some ⟨b, 0, none⟩))] (prodP e ts = none) flt (fun z : Ex × List T3 => prodP e ts = some z) (fun z => [PB T b z.2]) (fun z => .rep (ExR z.1)) :=
CallP.of (fn := Tryz.f189) Tryz.func189 (n := 7) rfl rfl rfl (fun _ _ => by kernel_rfl) fun E W hb0 => by
 refine vQ ?_
 refine JO.alloc Z13 rfl fun b2 => ?_
 refine vP [0, 2] ?_
 refine Jm rfl (Jq (ZF (cs := [_, _, _]) Z1c qM qM (.cons rfl (.cons rfl (.cons rfl .nil))) rfl rfl rfl) ?_)
 refine Jq (ZF (cs := [_, _, _]) Z7w qM qM (.cons rfl (.cons rfl (.cons rfl .nil))) rfl rfl rfl) ?_
 refine JO.callPK (Lr := [_]) (Z2C T hc b ts hts (factorP e) (Z3Y he) 5 mulO qD Z1H hpart) rfl (.swap _ _ _) qF (.one rfl (.one rfl (.one rfl (.sub rfl (Sub.newSlG (en := sC) (sz := 1) (xs := [Z14, Z22, Z3d]) (fun _ => rfl) rfl rfl) (.sub rfl (Sub.newSlG (en := iC) (sz := 1) (xs := [7, 8, 9]) (fun _ => rfl) rfl rfl) .nil))))) (fun hbad => ?_) ?_
 · exact JX.pnI (hbad)
 intro z hz
 refine vD ?_
 refine JO.m (Z3 rfl rfl qU qC qO Zq) (by rfl) ?_
 refine vS [2] ?_
 refine vR ?_
 refine JX.toP ?_
 exact JX.retLCs (Lr := [_]) (L1 := fun z : Ex × List T3 => [PB T b z.2]) (R := fun z => .rep (ExR z.1)) rfl z hz (.refl _) rfl rfl hb0 rfl Za HasOwn.mem Z1J (Sub.refl _)
theorem Z90 (T : Tk) (hc : T.ts.length ≤ T.cap) (b : Nat) (ts : List T3) (hts : ts <:+ T.ts) (e : Ps Ex) (he : Dn0 e) (hpart : ∀ us, us <:+ T.ts → us.length ≤ ts.length → CallP Tryz.prog Z2k [PB T b (us)] [T.G, AF] [.is (.pointer (some ⟨b, 0, none⟩))] (prodP e (us) = none) flt (fun z : Ex × List T3 => prodP e (us) = some z) (fun z => [PB T b z.2]) (fun z => .rep (ExR z.1))) : CallP Tryz.prog Z32 [PB T b ts] [T.G, AF] [.is (.pointer (some ⟨b, 0, none⟩))] (sumP e ts = none) flt (fun z : Ex × List T3 => sumP e ts = some z) (fun z => [PB T b z.2]) (fun z => .rep (ExR z.1)) :=
CallP.of (fn := Tryz.f178) Tryz.func178 (n := 7) rfl rfl rfl (fun _ _ => by kernel_rfl) fun E W hb0 => by
 refine vQ ?_
 refine JO.alloc Z13 rfl fun b2 => ?_
 refine vP [0, 2] ?_
 refine Jm rfl (Jq (ZF (cs := [_, _]) Z1c qM qM (.cons rfl (.cons rfl .nil)) rfl rfl rfl) ?_)
 refine Jq (ZF (cs := [_, _]) Z7w qM qM (.cons rfl (.cons rfl .nil)) rfl rfl rfl) ?_
 refine JO.callPK (Lr := [_]) (Z2C T hc b ts hts (prodP e) (Z6b he) 5 addO qD Z2k hpart) rfl (.swap _ _ _) qF (.one rfl (.one rfl (.one rfl (.sub rfl (Sub.newSlG (en := sC) (sz := 1) (xs := [Z2x, Z1d]) (fun _ => rfl) rfl rfl) (.sub rfl (Sub.newSlG (en := iC) (sz := 1) (xs := [5, 6]) (fun _ => rfl) rfl rfl) .nil))))) (fun hbad => ?_) ?_
 · exact JX.pnI (hbad)
 intro z hz
 refine vD ?_
 refine JO.m (Z3 rfl rfl qU qC qO Zq) (by rfl) ?_
 refine vS [2] ?_
 refine vR ?_
 refine JX.toP ?_
 exact JX.retLCs (Lr := [_]) (L1 := fun z : Ex × List T3 => [PB T b z.2]) (R := fun z => .rep (ExR z.1)) rfl z hz (.refl _) rfl rfl hb0 rfl Za HasOwn.mem Z1J (Sub.refl _)
theorem Z9a (T : Tk) (hc : T.ts.length ≤ T.cap) (b : Nat) (ts : List T3) (hts : ts <:+ T.ts) (e : Ps Ex) (he : Dn0 e) (hpart : ∀ us, us <:+ T.ts → us.length ≤ ts.length → CallP Tryz.prog Z1V [PB T b (us)] [T.G, AF] [.is (.pointer (some ⟨b, 0, none⟩))] (notP e (us) = none) flt (fun z : Ex × List T3 => notP e (us) = some z) (fun z => [PB T b z.2]) (fun z => .rep (ExR z.1))) : CallP Tryz.prog Z30 [PB T b ts] [T.G, AF] [.is (.pointer (some ⟨b, 0, none⟩))] (andP e ts = none) flt (fun z : Ex × List T3 => andP e ts = some z) (fun z => [PB T b z.2]) (fun z => .rep (ExR z.1)) :=
CallP.of (fn := Tryz.f146) Tryz.func146 (n := 7) rfl rfl rfl (fun _ _ => by kernel_rfl) fun E W hb0 => by
 refine vQ ?_
 refine JO.alloc Z13 rfl fun b2 => ?_
 refine vP [0, 2] ?_
 refine Jm rfl (Jq (ZF (cs := [_]) Z1c qM qM (.cons rfl .nil) rfl rfl rfl) ?_)
 refine Jq (ZF (cs := [_]) Z7w qM qM (.cons rfl .nil) rfl rfl rfl) ?_
 refine JO.callPK (Lr := [_]) (Z2C T hc b ts hts (notP e) (Z6g he) 1 [(Z1P, 16)] qD Z1V hpart) rfl (.swap _ _ _) qF (.one rfl (.one rfl (.one rfl (.sub rfl (Sub.newSlG (en := sC) (sz := 1) (xs := [Z1P]) (fun _ => rfl) rfl rfl) (.sub rfl (Sub.newSlG (en := iC) (sz := 1) (xs := [16]) (fun _ => rfl) rfl rfl) .nil))))) (fun hbad => ?_) ?_
 · exact JX.pnI (hbad)
 intro z hz
 refine vD ?_
 refine JO.m (Z3 rfl rfl qU qC qO Zq) (by rfl) ?_
 refine vS [2] ?_
 refine vR ?_
 refine JX.toP ?_
 exact JX.retLCs (Lr := [_]) (L1 := fun z : Ex × List T3 => [PB T b z.2]) (R := fun z => .rep (ExR z.1)) rfl z hz (.refl _) rfl rfl hb0 rfl Za HasOwn.mem Z1J (Sub.refl _)
theorem Z8a (T : Tk) (hc : T.ts.length ≤ T.cap) (b : Nat) (ts : List T3) (hts : ts <:+ T.ts) (e : Ps Ex) (he : Dn0 e) (hpart : ∀ us, us <:+ T.ts → us.length ≤ ts.length → CallP Tryz.prog Z30 [PB T b (us)] [T.G, AF] [.is (.pointer (some ⟨b, 0, none⟩))] (andP e (us) = none) flt (fun z : Ex × List T3 => andP e (us) = some z) (fun z => [PB T b z.2]) (fun z => .rep (ExR z.1))) : CallP Tryz.prog ZH [PB T b ts] [T.G, AF] [.is (.pointer (some ⟨b, 0, none⟩))] (orP e ts = none) flt (fun z : Ex × List T3 => orP e ts = some z) (fun z => [PB T b z.2]) (fun z => .rep (ExR z.1)) :=
CallP.of (fn := Tryz.f113) Tryz.func113 (n := 7) rfl rfl rfl (fun _ _ => by kernel_rfl) fun E W hb0 => by
 refine vQ ?_
 refine JO.alloc Z13 rfl fun b2 => ?_
 refine vP [0, 2] ?_
 refine Jm rfl (Jq (ZF (cs := [_]) Z1c qM qM (.cons rfl .nil) rfl rfl rfl) ?_)
 refine Jq (ZF (cs := [_]) Z7w qM qM (.cons rfl .nil) rfl rfl rfl) ?_
 refine JO.callPK (Lr := [_]) (Z2C T hc b ts hts (andP e) (Z6T he) 1 [(w_OR, 17)] qD Z30 hpart) rfl (.swap _ _ _) qF (.one rfl (.one rfl (.one rfl (.sub rfl (Sub.newSlG (en := sC) (sz := 1) (xs := [w_OR]) (fun _ => rfl) rfl rfl) (.sub rfl (Sub.newSlG (en := iC) (sz := 1) (xs := [17]) (fun _ => rfl) rfl rfl) .nil))))) (fun hbad => ?_) ?_
 · exact JX.pnI (hbad)
 intro z hz
 refine vD ?_
 refine JO.m (Z3 rfl rfl qU qC qO Zq) (by rfl) ?_
 refine vS [2] ?_
 refine vR ?_
 refine JX.toP ?_
 exact JX.retLCs (Lr := [_]) (L1 := fun z : Ex × List T3 => [PB T b z.2]) (R := fun z => .rep (ExR z.1)) rfl z hz (.refl _) rfl rfl hb0 rfl Za HasOwn.mem Z1J (Sub.refl _)
end Go.Proofs.YtbedigkncjbggaaGreatDoor
