/- The program logic, part 9. No condition. -/
import Derived.Test.YtbedigkncjbggaaGreatDoorXG7
namespace Go.Vc
open Go
def Stb (F : World → Prop) : Prop := ∀ (X : Nat → Prop) (w w' : World), Keeps X w w' → F w → F w'
theorem Z7U {N : Nat} {e : TypeId} {a : Option Addr} {len cap sz : Nat} : Stb (FreshW N e a len cap sz) := fun X w w' hk h hn => by
 obtain ⟨b, cs, h1, h2, h3, h4⟩ := h hn
 obtain ⟨cs', h5, h6⟩ := hk.shp b cs e _ h3
 exact ⟨b, cs', h1, h2, h5, h6.trans h4⟩
theorem Z8N : Stb (fun _ => True) := fun _ _ _ _ _ => trivial
section
variable {P : Program} {c : Ctx} {K : List (Nat × Ty)} {L : List Own} {Φ : List (World → Prop)} {Q : Exit → Act → World → Prop}
theorem SA.claimFr {E0 : Nat → Prop} {w0 : World} {e : TypeId} {bn on len cap sz : Nat} {X : Nat → Prop} {a : Act} {w : World} (hs : SA c K L Φ X a w) (hn : len ≠ 0) (hW : c.W0.heap.size ≤ w0.heap.size) (hK : K.all (fun p => p.2.isIs) = true) (hL : L.all (fun o => o.T.isIs && (o.ety != e)) = true)
    (hF : FreshW w0.heap.size e (some ⟨bn, on, none⟩) len cap sz ∈ Φ) (hM : Keeps E0 w0 ∈ Φ) (hΦ : ∀ F ∈ Φ, F = Keeps E0 w0 ∨ Stb F ∨ Pers E0 w0 F) :
    ∃ (cs : List Value) (X' : Nat → Prop), on = 0 ∧ cs.length = cap * sz ∧ SA c K (⟨bn, e, .is (.agg cs.toArray)⟩ :: L) Φ X' a w := by
  obtain ⟨b, cs, h1, h2, h3, h4⟩ := (hs.f _ hF).now hn
  injection h1 with h1
  injection h1 with h1 h5 _
  subst h1 h5
  have hkp := ZbZ (hs.f _ hM) h2
  refine ⟨cs.toList, fun q => X q ∨ q = bn, rfl, by simpa using h4, hs.n, hs.d, ?_, ?_, ?_, ?_, ?_, fun q hq => .inl (hs.x q hq), hs.xs, hs.keeps, ?_⟩
  · rintro q (hq | rfl)
    · exact hs.wf q hq
    · exact ZF h3
  · intro s T hl
    obtain ⟨v, rfl⟩ := ZcD hK s T hl
    exact hs.k s _ hl
  · intro o ho
    rcases List.mem_cons.1 ho with rfl | ho
    · exact ⟨.inr rfl, .agg cs, h3, rfl⟩
    · obtain ⟨g1, v, g2, g3⟩ := hs.l o ho
      have := List.all_eq_true.1 hL o ho
      cases hT : o.T with
      | is u => rw [hT] at g3; exact ⟨.inl g1, v, g2, by rw [hT]; exact g3⟩
      | _ => rw [hT] at this; simp [Ty.isIs] at this
  · show ((⟨bn, e, .is (.agg cs.toList.toArray)⟩ : Own) :: L |>.map (·.b)).Nodup
    rw [List.map_cons, List.nodup_cons]
    refine ⟨fun hm => ?_, hs.ld⟩
    obtain ⟨m, hm, e'⟩ := List.mem_map.1 hm
    have e'' : m.b = bn := e'
    have hall := List.all_eq_true.1 hL m hm
    have hat := hs.l m hm
    obtain ⟨mb, me, mT⟩ := m
    cases mT with
    | is u =>
      simp only [Ty.isIs, Bool.true_and] at hall
      have := Z2E hat rfl
      simp only at e''
      rw [show (⟨mb, me, .is u⟩ : Own).b = bn from e'', h3] at this
      injection this with this
      injection this with _ this _
      subst this
      simp at hall
    | _ => simp [Ty.isIs] at hall
  · intro F hF'
    rcases hΦ F hF' with rfl | hst | hp
    · exact hkp
    · exact fun w' hk => hst _ w w' hk (hs.f F hF').now
    · exact fun w' hk => hp w' (hkp w' hk)
  · intro o ho
    rcases List.mem_cons.1 ho with rfl | ho
    · exact .inr (Nat.le_trans hW h2)
    · exact hs.may o ho
theorem JO.claimFr {ops : Array Oper} {l : List Oper} {E0 : Nat → Prop} {w0 : World} {e : TypeId} {bn on len cap sz : Nat} (hn : len ≠ 0) (hW : c.W0.heap.size ≤ w0.heap.size) (hK : K.all (fun p => p.2.isIs) = true) (hL : L.all (fun o => o.T.isIs && (o.ety != e)) = true)
    (hF : FreshW w0.heap.size e (some ⟨bn, on, none⟩) len cap sz ∈ Φ) (hM : Keeps E0 w0 ∈ Φ) (hΦ : ∀ F ∈ Φ, F = Keeps E0 w0 ∨ Stb F ∨ Pers E0 w0 F)
    (h : ∀ cs : List Value, on = 0 → cs.length = cap * sz → JO P c K (⟨bn, e, .is (.agg cs.toArray)⟩ :: L) Φ ops l Q) : JO P c K L Φ ops l Q :=
  ⟨fun X a w hs => by
    obtain ⟨cs, X', h1, h2, h3⟩ := hs.claimFr hn hW hK hL hF hM hΦ
    exact (h cs h1 h2).out X' a w h3⟩
theorem J.shapeEG {α : Type} {E : Enc α} {G : GoS} {x : Code} {xs : List α} {v : Value} (h : SlE E G xs v ∈ Φ) (hj : ∀ (ps : List (Cel E)) (a : Option Addr) (len cap b o : Nat), ps.map Cel.x = xs → v = .slice a len cap → ps.length = len → len ≤ cap → (len ≠ 0 → a = some ⟨b, o, none⟩) → J P c K L (G a len cap :: RowG Cel.cs E.sz ps a len :: CelF E ps :: Φ) x Q) : J P c K L Φ x Q := by
  refine ⟨fun X a' w hs => ?_⟩
  obtain ⟨ps, a, len, cap, h1, h2, h3, h4, ⟨b, o, h5⟩, h6, h7, h8⟩ := Z9G (hs.f _ h)
  have key : SA c K L ([G a len cap, RowG Cel.cs E.sz ps a len, CelF E ps] ++ Φ) X a' w := ⟨hs.n, hs.d, hs.wf, hs.k, hs.l, hs.ld, fun F hF => by
    rcases List.mem_append.1 hF with hF | hF
    · simp only [List.mem_cons, List.mem_nil_iff, or_false] at hF
      rcases hF with rfl | rfl | rfl
      · exact h8
      · exact h6
      · exact h7
    · exact hs.f F hF, hs.x, hs.xs, hs.keeps, hs.may⟩
  exact (hj ps a len cap b o h1 h2 h4 h3 h5).out X a' w key
end
end Go.Vc
