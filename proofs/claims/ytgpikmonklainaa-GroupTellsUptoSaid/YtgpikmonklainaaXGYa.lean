/- The document on groups: appended upon nothing; rows of rows of which there are none, or nothing in them. No condition. -/
import Derived.Test.YtgpikmonklainaaXGX
import Derived.Test.YtgpikmonklainaaXOJ
namespace Go.Vc
open Go
section
variable {α : Type} {en : α → List Value} {sz : Nat} {P : Program} {c : Ctx} {K : List (Nat × Ty)} {L : List Own} {Φ : List (World → Prop)} {Q : Exit → Act → World → Prop} {H : Know} {t tx e ty : TypeId} {s x : Operand} {bytes : Nat} {pos : String} {after : Array Edge}
theorem ob_ap00n {TX : Ty} {dst : Option Nat} {g : Option (Nat × Bool)} (hT : ApTy P t e sz bytes) (h0 : H s (.is (.slice none 0 0))) (hx : H x TX) (hS : SrcOf P L Φ sz tx TX 0 []) :
    Ob P L Φ H ⟨dst, .call { callee := .builtin .append, args := #[s, x], argTypes := #[t, tx] }, ty, pos, after, g⟩ (.is (.slice none 0 0)) := fun E w ρ hp => by
  obtain ⟨i, z, hi, hz, hzs, rfl, rfl⟩ := hT.get
  have e1 : ρ s = .slice none 0 0 := hp.x s _ (by simp [Op.operands, Call.operands]) h0
  have e2 := hS E w (ρ x) hp.l hp.f (hp.x x _ (by simp [Op.operands, Call.operands]) hx)
  have hr := run_append_nothing (P := P) (ty := ty) (a := none) hT.ht hi e2
  have hrun : (execOp ρ ⟨dst, .call { callee := .builtin .append, args := #[s, x], argTypes := #[t, tx] }, ty, pos, after, g⟩).run P w = .ok (.value (.slice none 0 0)) w := by
    simp [execOp, resolve, invoke, builtin, e1, hr]
  rw [hrun]
  exact ⟨.refl _ _, rfl⟩
theorem JO.apN {ops : Array Oper} {rest : List Oper} {d : Nat} {TX : Ty} (ys : List α) (hT : ApTy P t e sz bytes) (h0 : opTy K s = some (.is (.slice none 0 0))) (hx : opTy K x = some TX) (hS : SrcOf P L Φ sz tx TX ys.length (ys.flatMap en)) (hfit : ys.length * bytes ≤ 140737488355328) (h63 : ys.length ≤ 9223372036854775807) (hd : Nat.blt d c.n = true)
    (hn : ∀ st cap, Grows en sz ys st cap → JO P c ((d, .is (sliceO st ys.length cap)) :: K) (ownO st e L) Φ ops rest Q) :
    JO P c K L Φ ops (⟨some d, .call { callee := .builtin .append, args := #[s, x], argTypes := #[t, tx] }, ty, pos, after, none⟩ :: rest) Q := by
  by_cases hy : ys = []
  · subst hy
    exact JO.t (ob_ap00n hT h0 hx hS) hd (hn none 0 rfl)
  · exact JO.ap0 hT h0 (fun E v w h => ⟨none, h⟩) hx hS hfit h63 hd (fun h => absurd (List.length_eq_zero_iff.1 h) hy) fun _ b cap cs h1 h2 h3 => hn (some (b, cs)) cap ⟨h1, h2, h3⟩
theorem JX.coer {xx : Exit} {s : Nat} {T T' : Ty} (h : look K s = some T) (hS : Sub L Φ T T') (hj : JX c ((s, T') :: K) L Φ xx Q) : JX c K L Φ xx Q :=
  ⟨fun E a w hs => hj.out E a w ⟨hs.n, hs.d, hs.wf, fun s' U hl => by
    simp only [look] at hl
    cases hq : Nat.beq s s' with
    | true =>
      rw [hq, cond_true] at hl
      injection hl with hl
      subst hl
      rw [← Nat.eq_of_beq_eq_true hq]
      exact hS E _ w ⟨hs.l, hs.f⟩ (hs.k s T h)
    | false => rw [hq, cond_false] at hl; exact hs.k s' U hl, hs.l, hs.ld, hs.f, hs.x, hs.xs, hs.keeps, hs.may⟩⟩
theorem ob_lenRows {G : RvG} {rows : List (List V3)} {dst : Option Nat} {g : Option (Nat × Bool)} (hu : P.underlying t = some (.slice e)) (hx : H x (.rep (RowsR G rows))) : Ob P L Φ H ⟨dst, .call { callee := .builtin .len, args := #[x], argTypes := #[t] }, ty, pos, after, g⟩ (.is (.int .i64 (rows.length : Nat))) := fun E w ρ hp => by
  have h1 : Pers E w (RowsR G rows (ρ x)) := hp.x x _ (by simp [Op.operands, Call.operands]) hx
  obtain ⟨ps, a, len, cap, hm, hv, _, hR, _⟩ := h1.now
  have hl : len = rows.length := by rw [← hm, List.length_map, hR.1]
  refine ob_len (P := P) (L := L) (Φ := Φ) (H := fun y T => y = x ∧ T = .is (.slice a len cap)) (dst := dst) (ty := ty) (pos := pos) (after := after) (g := g) hu ⟨rfl, rfl⟩ E w ρ ⟨hp.wf, hp.l, hp.f, fun y T hy hT => ?_⟩ |> fun h => by rw [← hl]; exact h
  obtain ⟨rfl, rfl⟩ := hT
  exact hv
abbrev nG : RvG := fun _ a len cap _ => len = 0 → a = none ∧ cap = 0
theorem Sub.rowsNilN : Sub L Φ (.is (.slice none 0 0)) (.rep (RowsR nG [])) := fun E v w hf e => by
  rw [show v = _ from e]
  exact fun w' _ => ⟨[], none, 0, 0, rfl, rfl, Nat.le_refl _, ⟨rfl, fun h => absurd rfl h⟩, (fun p hp => absurd hp List.not_mem_nil : RVF [] w'), fun _ => ⟨rfl, rfl⟩⟩
theorem Sub.rowsON {ps rps : List RV} {rows : List (List V3)} {st : Option (Nat × List Value)} {cap : Nat} (hG : Grows RV.c 1 ps st cap) (hz : ps = [] → st = none) (hR : RowG RV.c 1 ps (adO st) ps.length ∈ Φ) (hF : RVF rps ∈ Φ) (hm : ∀ p ∈ ps, p ∈ rps) (hr : ps.map RV.row = rows) : Sub L Φ (.is (sliceO st ps.length cap)) (.rep (RowsR nG rows)) := by
  obtain ⟨h1, h2⟩ := hG.sl
  rw [h1]
  refine fun E v w hf e1 => ?_
  rw [show v = _ from e1]
  exact fun w' hk => ⟨ps, adO st, ps.length, capO st cap, hr, rfl, h2, hf.2 _ hR w' hk, fun p hp => hf.2 _ hF w' hk p (hm p hp), fun h0 => by rw [hz (List.length_eq_zero_iff.1 h0)]; exact ⟨rfl, rfl⟩⟩
theorem Sub.rowsNG {G : RvG} {rows : List (List V3)} : Sub L Φ (.rep (RowsR G rows)) (.rep (RowsR noG rows)) := fun E v w hf h => fun w' hk => by
  obtain ⟨ps, a, len, cap, h1, h2, h3, h4, h5, _⟩ := h w' hk
  exact ⟨ps, a, len, cap, h1, h2, h3, h4, h5, trivial⟩
end
end Go.Vc
namespace Go.Proofs.Ytgpikmonklainaa
open Go Go.Vc Go.Vl Go.Od
theorem flat_rv0 (n : Nat) : (List.replicate n rv0).flatMap RV.c = List.replicate n (.slice none 0 0) := by
  rw [flatC, List.map_replicate]
  rfl
theorem Sub.rowsNone {L : List Own} {Φ : List (World → Prop)} {n b : Nat} {ts : TypeId} (hH : HeapIs b (List.replicate n (.slice none 0 0)) ts ∈ Φ) : Sub L Φ (.is (.slice (some ⟨b, 0, none⟩) n n)) (.rep (RowsR noG (List.replicate n []))) := fun E v w hf e => by
  rw [show v = _ from e]
  intro w' hk
  have h1 := hf.2 _ hH w' hk
  rw [← flat_rv0] at h1
  have h3 : RowG RV.c 1 (List.replicate n rv0) (some ⟨b, 0, none⟩) n w' := by
    obtain ⟨a, len, cap, e1, hr⟩ := sl_of_heap (enc := RV.c) (sz := 1) RV.c_len (n := n) (xs := List.replicate n rv0) List.length_replicate (by rw [Nat.mul_one, List.take_of_length_le (by rw [flat_rv0, List.length_replicate]; exact Nat.le_refl _)]) h1 n
    injection e1 with e1 e2 e3
    subst e1 e2 e3
    exact hr
  exact ⟨List.replicate n rv0, _, n, n, by rw [List.map_replicate]; rfl, rfl, Nat.le_refl _, h3, fun p hp => by rw [(List.mem_replicate.1 hp).2]; exact ⟨Nat.le_refl _, rfl, fun h => absurd rfl h⟩, trivial⟩
end Go.Proofs.Ytgpikmonklainaa
namespace Go.Vc
open Go
section
variable {c : Ctx} {K : List (Nat × Ty)} {L L' : List Own} {Φ Φ' : List (World → Prop)} {Q : Exit → Act → World → Prop} {x : Exit}
theorem JX.subL2 (hL : ∀ o ∈ L', o ∈ L) (hn : (L.map (·.b)).Nodup → (L'.map (·.b)).Nodup) (hj : JX c K L' Φ x Q) : JX c K L Φ x Q :=
  ⟨fun E a w hs => hj.out E a w (hs.sub (fun _ _ => id) hL (hn hs.ld) (fun _ => id))⟩
theorem JX.subΦ2 (hF : ∀ F ∈ Φ', F ∈ Φ) (hj : JX c K L Φ' x Q) : JX c K L Φ x Q :=
  ⟨fun E a w hs => hj.out E a w (hs.sub (fun _ _ => id) (fun _ => id) hs.ld hF)⟩
theorem JX.fact (F : World → Prop) (hF : ∀ E w, (∀ G ∈ Φ, Pers E w G) → (∀ o ∈ L, o.at E w) → Pers E w F) (hj : JX c K L (F :: Φ) x Q) : JX c K L Φ x Q :=
  ⟨fun E a w hs => hj.out E a w ⟨hs.n, hs.d, hs.wf, hs.k, hs.l, hs.ld, fun G hG => by
    rcases List.mem_cons.1 hG with rfl | hG
    · exact hF E w hs.f hs.l
    · exact hs.f G hG, hs.x, hs.xs, hs.keeps, hs.may⟩⟩
theorem JX.freeze {b : Nat} {e : TypeId} {cs : List Value} (h0 : ∀ q, ¬ c.X0 q) (hK : K.all (fun p => p.2.out) = true) (hL : L.all (fun o => o.T.out) = true) (h : JX c K L (HeapIs b cs e :: Φ) x Q) : JX c K (⟨b, e, .is (.agg cs.toArray)⟩ :: L) Φ x Q :=
  ⟨fun E a w hs => by
    obtain ⟨E', hs'⟩ := hs.freeze h0 (look_out hK) (fun o ho => List.all_eq_true.1 hL o ho)
    exact h.out E' a w hs'⟩
theorem JX.freezeO {α : Type} {en : α → List Value} {sz : Nat} {xs : List α} {cap : Nat} {st : Option (Nat × List Value)} {e : TypeId} (hen : ∀ x, (en x).length = sz) (hG : Grows en sz xs st cap) (hTl : Tl e L st L') (h0 : ∀ q, ¬ c.X0 q) (hK : K.all (fun p => p.2.out) = true) (hL : L'.all (fun o => o.T.out) = true)
    (h : JX c K L' (RowG en sz xs (adO st) xs.length :: Φ) x Q) : JX c K L Φ x Q := by
  refine JX.subL2 (L' := ownO st e L') (fun o ho => (hTl.perm.mem_iff).1 ho) (fun hn => ((hTl.perm.map _).nodup_iff).2 hn) ?_
  cases st with
  | none =>
    have hG : xs = [] := hG
    subst hG
    exact JX.fact _ (fun E w _ _ => fun w' _ => ⟨rfl, fun h => absurd rfl h⟩) h
  | some p =>
    obtain ⟨b, cs⟩ := p
    obtain ⟨h1, h2, h3⟩ := hG
    refine JX.freeze (b := b) (e := e) (cs := cs) h0 hK hL ?_
    refine JX.fact (RowG en sz xs (adO (some (b, cs))) xs.length) (fun E w hF _ => fun w' hk => ?_) (JX.subΦ2 (fun F hF => ?_) h)
    · have hh := hF _ List.mem_cons_self w' hk
      obtain ⟨a, len, cap', e1, hr⟩ := sl_of_heap hen rfl h3 hh cap
      injection e1 with e1 e2 e3
      subst e1 e2
      exact hr
    · rcases List.mem_cons.1 hF with rfl | hF
      · exact List.mem_cons_self
      · exact List.mem_cons_of_mem _ (List.mem_cons_of_mem _ hF)
end
end Go.Vc
namespace Go.Proofs.Ytgpikmonklainaa
open Go Go.Vc Go.Vl Go.Od
theorem lt0 (p q : Ln) (hp : p.2 = []) (hq : q.2 = []) : ltL [] p q = ltR p.1 q.1 := by
  rw [ltL_eq (by rw [hp]; rfl) (by rw [hq]; rfl)]
  unfold lineC
  rw [hp, hq]
  rfl
theorem top_srt {keys : List (List V3)} (hk : ∀ r ∈ keys, r.all okV = true) : topO keys (List.replicate keys.length []) [] (-1) = srt ltR keys := by
  have h0 : ∀ p ∈ keys.zip (List.replicate keys.length ([] : List V3)), p.2 = [] := fun p hp => (List.mem_replicate.1 (List.of_mem_zip hp).2).2
  have hok : allOk keys (List.replicate keys.length []) [] = true := by
    unfold allOk
    rw [Bool.and_eq_true, beq_iff_eq, List.length_replicate]
    refine ⟨rfl, ?_⟩
    rw [List.all_eq_true]
    intro p hp
    unfold okL
    rw [h0 p hp, hk _ (List.of_mem_zip hp).1]
    rfl
  rw [topO_ok hok]
  unfold topRows cut
  rw [if_pos (by decide)]
  have hpm := srt_perm (lt := ltL []) (keys.zip (List.replicate keys.length ([] : List V3)))
  refine srt_uniq ordR (fun _ _ => trivial) ?_ (srt_srt ordR fun _ _ => trivial) ?_
  · show List.Pairwise _ _
    rw [List.pairwise_map]
    have h1 := srt_srt (ordL []) (S := keys.zip (List.replicate keys.length ([] : List V3))) (fun y hy => by rw [h0 y hy]; rfl)
    refine List.Pairwise.imp_of_mem (fun {a b} ha hb h => ?_) h1
    rw [← lt0 b a (h0 _ (hpm.mem_iff.1 hb)) (h0 _ (hpm.mem_iff.1 ha))]
    exact h
  · refine (hpm.map Prod.fst).trans ?_
    rw [List.map_fst_zip (by rw [List.length_replicate]; exact Nat.le_refl _)]
    exact (srt_perm _).symm
def restK (S : List (List V3)) (i : Nat) : List (List V3) := if i = 0 then dd S else ddP (S.getD (i - 1) []) (S.drop i)
theorem restK_end {S : List (List V3)} {i : Nat} (h : S.length ≤ i) : restK S i = [] := by
  unfold restK
  split
  · have : S = [] := List.length_eq_zero_iff.1 (by omega)
    rw [this]; rfl
  · rw [List.drop_eq_nil_of_le h]; rfl
theorem restK_new {S : List (List V3)} {i : Nat} (h : i < S.length) (hn : i = 0 ∨ S.getD (i - 1) [] ≠ S.getD i []) : restK S i = S.getD i [] :: restK S (i + 1) := by
  have e : S.drop i = S.getD i [] :: S.drop (i + 1) := drop_get (getD_some h)
  unfold restK
  rw [if_neg (show ¬ i + 1 = 0 by omega), Nat.add_sub_cancel]
  split
  · rename_i h0
    subst h0
    rw [List.drop_zero] at e
    conv => lhs; rw [e]
    rfl
  · rw [e]
    show (if rowsC _ _ == 0 then _ else _) = _
    rw [if_neg (by rw [beq_iff_eq, rowsC_zero]; exact hn.resolve_left (by assumption))]
theorem restK_same {S : List (List V3)} {i : Nat} (h : i < S.length) (h0 : 0 < i) (hs : S.getD (i - 1) [] = S.getD i []) : restK S i = restK S (i + 1) := by
  have e : S.drop i = S.getD i [] :: S.drop (i + 1) := drop_get (getD_some h)
  unfold restK
  rw [if_neg (show ¬ i + 1 = 0 by omega), Nat.add_sub_cancel, if_neg (by omega), e]
  show (if rowsC _ _ == 0 then _ else _) = _
  rw [if_pos (by rw [beq_iff_eq, rowsC_zero]; exact hs)]
theorem col_step {ps : List KA} {i k : Nat} {p : KA} {key : List V3} (h : ps[i]? = some p) (hk : p.1 = key) : col (ps.take (i + 1)) key k = col (ps.take i) key k ++ [p.2.getD k v3E] := by
  unfold col
  rw [List.take_add_one, h, Option.toList_some, List.filter_append, List.map_append]
  congr 1
  rw [List.filter_cons, if_pos (by rw [beq_iff_eq, rowsC_zero]; exact hk)]
  rfl
theorem col_skip {ps : List KA} {i k : Nat} {p : KA} {key : List V3} (h : ps[i]? = some p) (hk : p.1 ≠ key) : col (ps.take (i + 1)) key k = col (ps.take i) key k := by
  unfold col
  rw [List.take_add_one, h, Option.toList_some, List.filter_append, List.map_append]
  rw [List.filter_cons, if_neg (by rw [beq_iff_eq, rowsC_zero]; exact hk)]
  simp
theorem tellsG_get {ks : List Int} {ps : List KA} {key : List V3} {k : Nat} (h : k < ks.length) : (tellsG ks (key, cols ks.length ps key))[k]? = some (tellV (ks.getD k 0) (nn (col ps key k))) := by
  unfold tellsG cols
  rw [List.getElem?_zipWith, getD_some (d := 0) h, List.getElem?_map, List.getElem?_range h]
  rfl
theorem keysD_dd {keys : List (List V3)} {whole : Bool} : keysD keys whole = dd (if whole && (srt ltR keys).isEmpty then [[]] else srt ltR keys) := by
  have : (srt ltR keys).isEmpty = keys.isEmpty := by
    cases h : keys with
    | nil => rfl
    | cons a l =>
      have h1 := srt_len (lt := ltR) (a :: l)
      cases h2 : srt ltR (a :: l) with
      | nil => rw [h2] at h1; cases h1
      | cons b m => rfl
  unfold keysD
  rw [this]
  split
  · rfl
  · rfl
end Go.Proofs.Ytgpikmonklainaa
namespace Go.Proofs.Ytgpikmonklainaa
open Go Go.Vc Go.Vl Go.Od
theorem chk_keys {keys args : List (List V3)} {ks : List Int} (h : chk keys args ks = 0) : ∀ r ∈ keys, r.all okV = true := by
  have hl := (chk_ok h).1
  unfold chk at h
  split at h
  · cases h
  split at h
  · cases h
  rename_i h2
  simp only [Bool.not_eq_true, Bool.not_eq_false'] at h2
  rw [List.all_eq_true] at h2
  intro r hr
  obtain ⟨i, hi⟩ := List.getElem?_of_mem hr
  have hl2 := (List.getElem?_eq_some_iff.1 hi).1
  have h5 := h2 (r, args[i]'(by omega)) (List.mem_of_getElem? (i := i) (by rw [List.getElem?_zip_eq_some]; exact ⟨hi, List.getElem?_eq_getElem _⟩))
  simp only [okR, Bool.and_eq_true, beq_iff_eq] at h5
  exact h5.2
theorem col_le (ps : List KA) (key : List V3) (k : Nat) : (col ps key k).length ≤ ps.length := by
  unfold col
  rw [List.length_map]
  exact List.length_filter_le _ _
theorem col_mem {ps : List KA} {key : List V3} {k : Nat} {v : V3} (h : v ∈ col ps key k) : ∃ p ∈ ps, p.2.getD k v3E = v := by
  unfold col at h
  obtain ⟨p, h1, h2⟩ := List.mem_map.1 h
  exact ⟨p, (List.mem_filter.1 h1).1, h2⟩
end Go.Proofs.Ytgpikmonklainaa
