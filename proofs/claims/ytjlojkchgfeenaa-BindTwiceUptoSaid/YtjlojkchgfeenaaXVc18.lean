/- The row's last step: true, and the arguments read as before. No condition. -/
import Derived.Test.YtjlojkchgfeenaaXVc17
import Derived.Carry
import Derived.ChangeSame
namespace Go.Vc
open Go Go.RowKit Go.WideShapes Go.ChangeShapes
theorem Keeps.below {w w' : World} (h : Keeps noX w w') : Below w.heap.size w w' := ⟨h.os, h.tape, h.output, h.size, fun k hk => h.blk k hk id⟩
section
variable {H : Type} {enc : TypeId × Value → H} {P : Program}
theorem trodAll_stays (hl : laidOutB P = true) {W W' : World} {sp : Nat → Bool} (hb : Below W.heap.size W W') : ∀ {ts : List TypeId} {vs : List Value} {ds : List (DataW H)} {ps : List MemPlace},
    (∀ t ∈ ts, P.readableRec t = true ∧ t < P.types.size) → DataW.TrodAll enc P W 0 (fun _ => true) true ts vs ds ps → (∀ p ∈ ps, p.block < W.heap.size) → (∀ p ∈ ps, sp p.block = true) → DataW.TrodAll enc P W' 0 sp true ts vs ds ps
  | [], [], [], _, _, h, _, _ => h
  | t :: ts, _ :: _, _ :: _, _, hT, ⟨p, q, h1, h2, e⟩, hlt, hs => by
    subst e
    have ht := hT t List.mem_cons_self
    exact ⟨p, q, WideElems.Trod_stays hl ht.1 ht.2 h1 (fun x hx => hb.same (hlt x (List.mem_append_left _ hx))) (fun x hx => hs x (List.mem_append_left _ hx)),
      trodAll_stays hl hb (fun u hu => hT u (List.mem_cons_of_mem _ hu)) h2 (fun x hx => hlt x (List.mem_append_right _ hx)) (fun x hx => hs x (List.mem_append_right _ hx)), rfl⟩
theorem post_true {f : Func} {s : ChangeSpec} {handsOn again : Bool} {tB : TypeId} {W W' : World} {args : Array Value} {ds : List (DataW H)} {before : List MemPlace}
    (hl : laidOutB P = true) (hT : ∀ t ∈ f.params.toList, P.readableRec t = true ∧ t < P.types.size) (hB : P.underlying tB = some .bool) (hr : f.resultTypes = #[tB]) (hv : s.vars = [])
    (hs1 : (s.fn H ds).results = [.lit (.bool true)]) (hs2 : (s.fn H ds).args = ds) (hs3 : (s.fn H ds).vars = [])
    (hW : DataW.Whole enc P f.params.toList s.vars false W args.toList ds [] before) (hk : Keeps noX W W') : s.post enc P f false true handsOn again W args (.bool true) W' := by
  have hb := hk.below
  have hlt : ∀ p ∈ before, p.block < W.heap.size := fun p hp => hW.lt p hp
  have hW' := hW
  obtain ⟨p, q, hA, hV, rfl, hz, hn⟩ := hW
  rw [hv] at hV
  obtain ⟨_, rfl⟩ := trodVars_none hV
  simp only [List.append_nil] at hlt hz
  have hA' : ∀ sp : Nat → Bool, (∀ x ∈ p, sp x.block = true) → DataW.TrodAll enc P W' 0 sp true f.params.toList args.toList ds p := fun sp hsp => trodAll_stays hl hb hT hA hlt hsp
  have hres : ∀ (b : Nat) (sp : Nat → Bool) (hd : Bool), DataW.TrodAll enc P W' b sp hd f.resultTypes.toList ((Value.bool true).resultList f.resultTypes.size) (s.fn H (ds ++ [])).results [] := fun b sp hd => by
    rw [List.append_nil, hs1, hr]
    exact trodAll_mk1 (shut_bool hB _)
  have hold : ∀ x ∈ p, (fun b => decide (b < W.heap.size)) x.block = true := fun x hx => by simpa using hlt x hx
  have hvar : ∀ sp : Nat → Bool, DataW.TrodVars enc P W' sp s.vars (s.fn H (ds ++ [])).vars [] := fun sp => by
    rw [List.append_nil, hs3, hv]
    rfl
  have harg : ∀ sp : Nat → Bool, (∀ x ∈ p, sp x.block = true) → DataW.TrodAll enc P W' 0 sp true f.params.toList args.toList (s.fn H (ds ++ [])).args p := fun sp hsp => by
    rw [List.append_nil, hs2]
    exact hA' sp hsp
  refine ⟨ds, [], p ++ [], [], p, [], hW', hres _ _ _, harg _ hold, hvar _, World.keptBut_mono (fun x hx => ⟨hx, Or.inr (by simpa using hx)⟩) (hb.frame (· ∈ p ++ [])), fun _ => ?_⟩
  refine ⟨ok_one (by rw [hr]) rfl (okWide_bool_mk hB _), _, _, ([] ++ p) ++ [], ⟨[] ++ p, [], trodAll_append (harg _ (fun _ _ => rfl)) (hres _ _ _), hvar _, rfl, ?_, ?_⟩, ?_⟩
  · intro b off hp
    have hin : MemPlace.cell b off ∈ p := by simpa using hp
    rw [hb.frozen (hlt _ hin)]
    exact hz b off hin
  · intro ha
    cases ha
  · intro x hx _
    simpa using hx
theorem pers_ex {tE tEs tV tI tJ tS : TypeId} (T : ExTy P tE tEs tV tI tJ tS) (hl : laidOutB P = true) (hr : P.readableRec tE = true ∧ tE < P.types.size) {W : World} {v : Value} {d : DataW H} {ps : List MemPlace}
    (h : DataW.Trod enc P W 0 (fun _ => true) true tE v d ps) (hlt : ∀ p ∈ ps, p.block < W.heap.size) : ∃ x, Pers noX W (ExR x v) ∧ exRng x := by
  obtain ⟨n, hn⟩ := h
  obtain ⟨h8, h1, h2⟩ := read_ex T n _ _ hn
  have hv : ∃ cs, v = .agg cs := by
    cases v with
    | agg cs => exact ⟨cs, rfl⟩
    | _ => simp [Value.cells] at h8
  obtain ⟨cs, rfl⟩ := hv
  refine ⟨exOf n d, fun W' hk => ?_, h2⟩
  have := DataW.trod_stays (sp' := fun _ => true) (kids_book hl hr.1) (book_sized hr.1) (fun h => by cases h) ⟨hr.2, book_self tE⟩ hn (fun x hx => hk.below.same (hlt x hx)) (fun _ _ => rfl)
  obtain ⟨_, h1', _⟩ := read_ex T n _ _ this
  simpa [Value.cells] using h1'
theorem pers_row {tVs tV tI tJ tS : TypeId} (T : ValTy P tV tI tJ tS) (hVs : P.underlying tVs = some (.slice tV)) (hl : laidOutB P = true) (hr : P.readableRec tVs = true ∧ tVs < P.types.size) {W : World} {v : Value} {d : DataW H} {ps : List MemPlace}
    (h : DataW.Trod enc P W 0 (fun _ => true) true tVs v d ps) (hlt : ∀ p ∈ ps, p.block < W.heap.size) (hag : ∀ cs, v ≠ .agg cs) : ∃ vals, Pers noX W (RowS vals v) ∧ ∀ y ∈ vals, y.rng := by
  obtain ⟨n, hn⟩ := h
  obtain ⟨h1, h2⟩ := read_row T hVs hn hag
  refine ⟨rowOf d, fun W' hk => ?_, h2⟩
  have := DataW.trod_stays (sp' := fun _ => true) (kids_book hl hr.1) (book_sized hr.1) (fun h => by cases h) ⟨hr.2, book_self tVs⟩ hn (fun x hx => hk.below.same (hlt x hx)) (fun _ _ => rfl)
  exact (read_row T hVs this hag).1
end
end Go.Vc
namespace Go.Vc
open Go Go.WideShapes
theorem noagg {P : Program} {w : World} {r : Reach} {base : Nat} {t e : TypeId} {v : Value} (ht : P.underlying t = some (.slice e)) (h : Value.okWide P w r base t v) : ∀ cs, v ≠ .agg cs := by
  obtain ⟨a, l, c, rfl⟩ := okWide_slice ht h
  intro cs e
  cases e
end Go.Vc
namespace Go.Vc
open Go
theorem mem1 {p : TypeId → Prop} {a : TypeId} (ha : p a) : ∀ t ∈ [a], p t := by simpa using ha
theorem mem2 {p : TypeId → Prop} {a b : TypeId} (ha : p a) (hb : p b) : ∀ t ∈ [a, b], p t := by simpa using ⟨ha, hb⟩
theorem mem3 {p : TypeId → Prop} {a b c : TypeId} (ha : p a) (hb : p b) (hc : p c) : ∀ t ∈ [a, b, c], p t := by simpa using ⟨ha, hb, hc⟩
end Go.Vc
namespace Go.Vc
open Go
theorem wf_u8 {n : Int} (h : (Lit.int .u8 n).wf = true) : 0 ≤ n ∧ n < 256 := by
  simp [Lit.wf, IntKind.min, IntKind.max, IntKind.signed, IntKind.bits] at h
  omega
end Go.Vc
namespace Go.Vc
open Go Go.RowKit Go.WideShapes Go.ChangeShapes
theorem pers_rowD {H : Type} {enc : TypeId × Value → H} {P : Program} {tVs tV tI tJ tS : TypeId} (T : ValTy P tV tI tJ tS) (hVs : P.underlying tVs = some (.slice tV)) (hl : laidOutB P = true) (hr : P.readableRec tVs = true ∧ tVs < P.types.size) {W : World} {v : Value} {d : DataW H} {ps : List MemPlace}
    (h : DataW.Trod enc P W 0 (fun _ => true) true tVs v d ps) (hlt : ∀ p ∈ ps, p.block < W.heap.size) (hag : ∀ cs, v ≠ .agg cs) : Pers noX W (RowS (rowOf d) v) ∧ ∀ y ∈ rowOf d, y.rng := by
  obtain ⟨n, hn⟩ := h
  obtain ⟨h1, h2⟩ := read_row T hVs hn hag
  refine ⟨fun W' hk => ?_, h2⟩
  have := DataW.trod_stays (sp' := fun _ => true) (kids_book hl hr.1) (book_sized hr.1) (fun h => by cases h) ⟨hr.2, book_self tVs⟩ hn (fun x hx => hk.below.same (hlt x hx)) (fun _ _ => rfl)
  exact (read_row T hVs this hag).1
end Go.Vc
