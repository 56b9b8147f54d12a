/- group: a group begins. No condition. -/
import Derived.Test.YtgpikmonklainaaXGO
set_option maxRecDepth 20000
namespace Go.Proofs.Ytgpikmonklainaa
open Go Go.Vc
open Go.Vl Go.Od
def GKi (ks : List Int) (da : Option Addr) (dcap b : Nat) (w : World) : Prop := HeapIs b [.slice da ks.length dcap] ty_sl_int w ∧ RowG kC 1 ks da ks.length w
abbrev TV := Int × Nat × List V3
def tO (t : TV) : Own := ⟨t.2.1, ttK t.1, .is (.agg (tc t.1 t.2.2).toArray)⟩
def tI (t : TV) : Value := .iface (tpK t.1) (.pointer (some ⟨t.2.1, 0, none⟩))
def ptrG (b : Nat) : Value := .pointer (some ⟨b, 0, none⟩)
theorem cnt_sl {st : Option (Nat × List Value)} {n cap : Nat} : Cnt (.is (sliceO st n cap)) 1 := cnt_is (by rw [sliceO_cells]; rfl) (by rw [sliceO_cells]; simp [sliceO_one])
structure GZ where
  gb : Nat
  st : Option (Nat × List Value)
  cap : Nat
  ts : List TV
  st2 : Option (Nat × List Value)
  cap2 : Nat
def isNew (ks : List Int) (ts : List TV) : Prop := ts.map Prod.fst = ks ∧ ∀ t ∈ ts, t.2.2 = []
theorem isNew.snoc {ks : List Int} {ts : List TV} {k : Int} {b : Nat} (h : isNew ks ts) : isNew (ks ++ [k]) (ts ++ [(k, b, [])]) := by
  refine ⟨by rw [List.map_append, h.1]; rfl, fun t ht => ?_⟩
  rcases List.mem_append.1 ht with ht | ht
  · exact h.2 t ht
  · rw [List.mem_singleton.1 ht]
theorem isNew.len {ks : List Int} {ts : List TV} (h : isNew ks ts) : ts.length = ks.length := by rw [← h.1, List.length_map]
theorem tO_is (ts : List TV) : (ts.map tO).all (fun o => o.T.isIs) = true := by
  rw [List.all_eq_true]
  intro o ho
  obtain ⟨t, _, rfl⟩ := List.mem_map.1 ho
  rfl
theorem ownO_is (st : Option (Nat × List Value)) (e : TypeId) {L : List Own} (h : L.all (fun o => o.T.isIs) = true) : (ownO st e L).all (fun o => o.T.isIs) = true := by
  cases st with
  | none => exact h
  | some p => show ((⟨p.1, e, _⟩ : Own) :: L).all _ = true; rw [List.all_cons, h]; rfl
theorem is_out {L : List Own} (h : L.all (fun o => o.T.isIs) = true) : L.all (fun o => o.T.out) = true := by
  rw [List.all_eq_true] at h ⊢
  intro o ho
  have := h o ho
  cases hT : o.T <;> rw [hT] at this <;> first | rfl | simp [Ty.isIs] at this
abbrev MK (N : Nat) (k : Int) : Value → World → Prop := MadeR (fun _ : Nat => True) N (fun z => z) (fun _ => ttK k) (fun _ => tc k []) (fun z => .iface (tpK k) (.pointer (some ⟨z, 0, none⟩)))
theorem mk_if {N : Nat} {k : Int} (v : Value) (w : World) (h : MK N k v w) : ∃ t u, v = .iface t u := by
  obtain ⟨z, _, e, _⟩ := h
  exact ⟨_, _, e⟩
theorem ownO_mid (s : Option (Nat × List Value)) (e : TypeId) (A : Own) (X : List Own) : (A :: ownO s e X).Perm (ownO s e (A :: X)) := by
  cases s with
  | none => exact .refl _
  | some p => exact List.Perm.swap _ _ _
theorem gz_perm {A B : Own} {s s2 : Option (Nat × List Value)} {e e2 : TypeId} {rs : List TV} : (A :: B :: ownO s e (ownO s2 e2 (rs.map tO))).Perm ((B :: ownO s e (A :: ownO s2 e2 (rs.reverse.map tO))) ++ []) := by
  rw [List.append_nil]
  refine (List.Perm.swap _ _ _).trans (List.Perm.cons _ ((ownO_mid _ _ _ _).trans (ownO_perm _ _ (List.Perm.cons _ (ownO_perm _ _ ?_)))))
  exact (List.reverse_perm rs).symm.map tO
abbrev GrV (xs : List Value) (st : Option (Nat × List Value)) (cap : Nat) : Prop := Grows vC 1 xs st cap
theorem c_group_Rows_2 (ks : List Int) (hk : ∀ k ∈ ks, 20 ≤ k ∧ k ≤ 23) (hks : ks.length ≤ 1048576) (a : Option Addr) (len cap : Nat) (b6 b13 : Nat) (da : Option Addr) (dcap : Nat) (ps : List Value) (st : Option (Nat × List Value)) (pcap : Nat) (hG : GrV ps st pcap) (hps : ps.length ≤ 1048576) : CallL Try.prog f_group_Rows_2 (⟨b13, ty_sl_p_group_group, .is (sliceO st ps.length pcap)⟩ :: ownO st ty_p_group_group []) [GKi ks da dcap b6] [.is (.slice a len cap), .is (.pointer (some ⟨b6, 0, none⟩)), .is (.pointer (some ⟨b13, 0, none⟩))] (fun z : GZ => isNew ks z.ts ∧ GrV (z.ts.map tI) z.st z.cap ∧ GrV (ps ++ [ptrG z.gb]) z.st2 z.cap2) (fun z => ⟨b13, ty_sl_p_group_group, .is (sliceO z.st2 (ps.length + 1) z.cap2)⟩ :: ownO z.st2 ty_p_group_group (⟨z.gb, ty_group_group, .is (.agg [.slice a len cap, sliceO z.st ks.length z.cap].toArray)⟩ :: ownO z.st ty_group_teller (z.ts.map tO))) (fun _ => .is (.tuple #[])) :=
CallL.of (fn := Try.f36) Try.func36 (n := 32) rfl rfl rfl (fun _ _ => by kernel_rfl) fun E W hb0 => by
  refine J.fact (HeapIs b6 [.slice da ks.length dcap] ty_sl_int) (fun E w hG _ => fun w2 hk => (hG (GKi ks da dcap b6) (by repeat (first | exact List.mem_cons_self | apply List.mem_cons_of_mem)) w2 hk).1) ?_
  refine J.fact (RowG kC 1 ks da ks.length) (fun E w hG _ => fun w2 hk => (hG (GKi ks da dcap b6) (by repeat (first | exact List.mem_cons_self | apply List.mem_cons_of_mem)) w2 hk).2) ?_
  refine J.knG (enc := kC) (sz := 1) (xs := ks) (a := da) (len := ks.length) (by repeat (first | exact List.mem_cons_self | apply List.mem_cons_of_mem)) (fun db dof _ hda => ?_)
  repeat refine J.seq ?_
  refine J.plain ?_
  refine JO.t (ob_move rfl) rfl ?_
  refine JO.t (ob_build (cs := [_, _]) sh_group_group (.cons rfl .nil) rfl rfl) rfl ?_
  refine JO.box rfl rfl fun b9 => ?_
  refine JO.t (ob_assign rfl) rfl ?_
  refine JO.nil ?_
  repeat (first | refine JX.next ?_ | refine JX.normal_block ?_)
  refine J.sel [1, 2, 4] (.cons rfl (.cons rfl (.cons rfl .nil))) ?_
  repeat refine J.seq ?_
  refine J.plain ?_
  refine JO.t (ob_ldF1 sz_sl_int rfl (by repeat (first | exact List.mem_cons_self | apply List.mem_cons_of_mem)) rfl) rfl ?_
  refine JO.t (ob_len un_sl_int rfl) rfl ?_
  refine JO.t (ob_move rfl) rfl ?_
  refine JO.nil ?_
  repeat (first | refine JX.next ?_ | refine JX.normal_block ?_)
  refine J.sel [2, 4, 10, 11, 12] (.cons rfl (.cons rfl (.cons rfl (.cons rfl (.cons rfl .nil))))) ?_
  repeat refine J.seq ?_
  refine J.block ?_
  repeat refine J.seq ?_
  refine J.loopG (α := Option (Nat × List Value) × Nat × List TV × Nat) (fun y => [(2, .is (.pointer (some ⟨b13, 0, none⟩))), (4, .is (.pointer (some ⟨b9, 0, none⟩))), (10, .is (.slice da ks.length dcap)), (11, .is (.int .i64 (ks.length : Nat))), (12, .is (.int .i64 (y.2.2.2 : Nat)))]) (fun y => ⟨b9, ty_group_group, .is (.agg [.slice a len cap, sliceO y.1 y.2.2.2 y.2.1].toArray)⟩ :: ⟨b13, ty_sl_p_group_group, .is (sliceO st ps.length pcap)⟩ :: ownO st ty_p_group_group (ownO y.1 ty_group_teller (y.2.2.1.map tO))) (fun y => fun _ => True) (fun y => isNew (ks.take y.2.2.2) y.2.2.1.reverse ∧ y.2.2.2 ≤ ks.length ∧ GrV (y.2.2.1.reverse.map tI) y.1 y.2.1) (fun y => ks.length - y.2.2.2) (none, 0, [], 0) [2, 4, 10, 11, 12] (.cons rfl (.cons rfl (.cons rfl (.cons rfl (.cons rfl .nil))))) rfl (fun _ => trivial) ⟨⟨rfl, fun t ht => absurd ht List.not_mem_nil⟩, Nat.zero_le _, rfl⟩ fun ⟨st1, cp1, rs, n⟩ ⟨hts, hle, hG1⟩ => ?_
  try dsimp only
  try dsimp only at cp1
  try dsimp only at rs
  try dsimp only at n
  try dsimp only at hts
  try dsimp only at hle
  try dsimp only at hG1
  repeat refine J.seq ?_
  refine J.plain ?_
  refine JO.t (ob_lss rfl rfl) rfl ?_
  refine JO.nil ?_
  repeat (first | refine JX.next ?_ | refine JX.normal_block ?_)
  refine J.sel [2, 4, 10, 11, 12, 13] (.cons rfl (.cons rfl (.cons rfl (.cons rfl (.cons rfl (.cons rfl .nil)))))) ?_
  repeat refine J.seq ?_
  refine J.cond rfl (fun ht13 => ?_) (fun ht13 => ?_)
  ·
    try simp only [decide_eq_true_eq, decide_eq_false_iff_not] at ht13
    refine J.skip ?_
    repeat (first | refine JX.next ?_ | refine JX.normal_block ?_)
    repeat refine J.seq ?_
    refine J.block ?_
    have hlm : (rs.reverse.map tI).length = n := by rw [List.length_map, hts.len, List.length_take]; omega
    refine J.mark (fun E0 w0 hW h0 => ?_)
    repeat refine J.seq ?_
    refine J.plain ?_
    refine JO.t (ob_indexAddr el_sl_int rfl (hda (by omega)) rfl (by omega) (by omega)) rfl ?_
    refine JO.t (ob_loadG1 (enc := kC) (sz := 1) (i := n) (j := 0) (y := ks.getD n 0) (u := .int .i64 (ks.getD n 0)) sz_int rfl (by repeat (first | exact List.mem_cons_self | apply List.mem_cons_of_mem)) (hda (by omega)) (getD_some (by omega)) (by omega) rfl) rfl ?_
    refine JO.t (ob_assign rfl) rfl ?_
    refine JO.nil ?_
    repeat (first | refine JX.next ?_ | refine JX.normal_block ?_)
    refine J.sel [2, 4, 6, 10, 11, 12] (.cons rfl (.cons rfl (.cons rfl (.cons rfl (.cons rfl (.cons rfl .nil)))))) ?_
    obtain ⟨k, hke⟩ : ∃ k, k = ks.getD n 0 := ⟨_, rfl⟩
    have hkm : k ∈ ks := by rw [hke]; exact getD_mem (by omega)
    rw [← hke]
    repeat refine J.seq ?_
    refine J.regBm (G := (v2 : Value) × GrG vC 1 (rs.reverse.map tI ++ [v2])) (Tg := fun g => .rep (fun v w => v = sliceO g.2.1.1 (rs.reverse.map tI ++ [g.1]).length g.2.1.2 ∧ MK w0.heap.size k g.1 w)) (Lg := fun g => ⟨b9, ty_group_group, .is (.agg [.slice a len cap, sliceO st1 n cp1].toArray)⟩ :: ⟨b13, ty_sl_p_group_group, .is (sliceO st ps.length pcap)⟩ :: ownO st ty_p_group_group (ownO g.2.1.1 ty_group_teller (rs.map tO))) 8 9 [⟨b9, ty_group_group, .is (.agg [.slice a len cap, sliceO st1 n cp1].toArray)⟩] rfl rfl rfl rfl hmx (by kernel_rfl) rfl (by kernel_rfl) (fun o ho => by rw [List.mem_singleton.1 ho]; exact List.mem_cons_self) (fun g o ho => by rw [List.mem_singleton.1 ho]; exact List.mem_cons_self) ?_
    refine RT.t (ob_move rfl) ?_
    refine RT.t (ob_move rfl) ?_
    refine RT.t (ob_nilCheck rfl) ?_
    refine RT.t (ob_fieldAddr fo_group_group_1 rfl) ?_
    refine RT.t (ob_ld1 sz_sl_group_teller rfl rfl) ?_
    refine RT.t (ob_move rfl) ?_
    refine RT.t (ob_callN (N := w0.heap.size) (Zp := fun _ : Nat => True) (bz := fun z => z) (ez := fun _ => ttK k) (cz := fun _ => tc k []) (vz := fun z => .iface (tpK k) (.pointer (some ⟨z, 0, none⟩))) rfl (c_group_made k (hk k hkm)) (by repeat (first | exact List.mem_cons_self | apply List.mem_cons_of_mem)) (.one rfl .nil)) ?_
    refine RT.t (ob_build1R (R := MK w0.heap.size k) sl_sl_group_teller mk_if rfl) ?_
    refine RT.big (big_apR (R := MK w0.heap.size k) ap_sl_group_teller (.there (.there (.past .here))) (xs := rs.reverse.map tI) hG1 (by rw [hlm]; rfl) mk_if un_sl_group_teller rfl (by rw [hlm]; omega) (by rw [hlm]; omega)) ?_
    refine RT.nil ?_
    rintro ⟨v', ⟨⟨st2, cp2⟩, hG2⟩⟩
    dsimp only at hG2 ⊢
    refine JO.openV (s := 24) rfl ?_
    refine JO.t (ob_nilCheck rfl) rfl ?_
    refine JO.t (ob_fieldAddr fo_group_group_1 rfl) rfl ?_
    rw [List.length_append, hlm]
    refine JO.m (obm_storeF1 (cs' := [.slice a len cap, sliceO st2 (n + 1) cp2]) (sliceO_cells _ _ _) (sliceO_one _ _ _) rfl rfl (by repeat (first | exact .here | apply Upd.there)) rfl rfl ss_sl_group_teller) (by rfl) ?_
    refine JO.nil ?_
    repeat (first | refine JX.next ?_ | refine JX.normal_block ?_)
    refine J.sel [2, 4, 10, 11, 12] (.cons rfl (.cons rfl (.cons rfl (.cons rfl (.cons rfl .nil))))) ?_
    refine J.know (∃ z, v' = .iface (tpK k) (.pointer (some ⟨z, 0, none⟩))) (fun E w hG _ => by
      obtain ⟨z, _, e, _⟩ := (hG (MK w0.heap.size k v') (by repeat (first | exact List.mem_cons_self | apply List.mem_cons_of_mem))).now
      exact ⟨z, e⟩) (fun ⟨zb, hz⟩ => ?_)
    subst hz
    refine J.know (w0.heap.size ≤ zb) (fun E w hG _ => by
      obtain ⟨z, _, e, h1, _⟩ := (hG (MK w0.heap.size k _) (by repeat (first | exact List.mem_cons_self | apply List.mem_cons_of_mem))).now
      injection e with _ e; injection e with e; injection e with e; injection e with e
      rw [e]; exact h1) (fun hzN => ?_)
    refine J.fact (HeapIs zb (tc k []) (ttK k)) (fun E w hG _ => fun w2 hk2 => by
      obtain ⟨z, _, e, _, h2⟩ := hG (MK w0.heap.size k _) (by repeat (first | exact List.mem_cons_self | apply List.mem_cons_of_mem)) w2 hk2
      injection e with _ e; injection e with e; injection e with e; injection e with e
      rw [e]; exact h2) ?_
    refine J.claimT (b := zb) (cs := tc k []) (e := ttK k) hW hzN h0 (tc_ne _ _) rfl (by simp only [List.all_cons, Bool.and_eq_true]; exact ⟨rfl, rfl, ownO_is _ _ (ownO_is _ _ (tO_is _))⟩) (by repeat (first | exact List.mem_cons_self | apply List.mem_cons_of_mem)) (by repeat (first | exact List.mem_cons_self | apply List.mem_cons_of_mem)) ?_
    repeat refine J.seq ?_
    refine J.plain ?_
    refine JO.t (ob_addc (cc := ((n + 1 : Nat) : Int)) rfl rfl (by omega) (by omega) (by omega)) rfl ?_
    refine JO.t (ob_move rfl) rfl ?_
    refine JO.nil ?_
    repeat refine JX.normal_block ?_
    refine JX.roundG (x := (st1, cp1, rs, n)) (st2, cp2, (k, zb, []) :: rs, n + 1) ?_ ?_ [2, 4, 10, 11, 12] ?_ ?_ ?_ ?_
    · exact ⟨by
    show isNew (ks.take (n + 1)) ((k, zb, []) :: rs).reverse
    rw [List.reverse_cons, List.take_add_one, getD_some (d := 0) (by omega), ← hke]
    exact hts.snoc, by show n + 1 ≤ _; omega, by
    show GrV (((k, zb, []) :: rs).reverse.map tI) _ _
    rw [List.reverse_cons, List.map_append]; exact hG2⟩
    · exact (by show ks.length - (n + 1) < ks.length - n; omega)
    · exact (.cons rfl (.cons rfl (.cons rfl (.cons rfl (.cons rfl .nil)))))
    · repeat (first | exact .all | exact .nil | refine Has.own (by repeat (first | exact .here | apply Tl.past | apply Tl.there)) ?_ | refine Has.cons (by repeat (first | exact .here | apply Pk.past | apply Pk.there)) ?_)
    · exact fun G hG => by repeat (first | exact hG | refine List.mem_cons_of_mem _ ?_)
    · exact fun _ _ _ => fun _ _ => trivial
  ·
    try simp only [decide_eq_true_eq, decide_eq_false_iff_not] at ht13
    repeat refine J.seq ?_
    refine J.exit ?_
    repeat (first | refine JX.hit ?_ | refine JX.miss rfl ?_ | refine JX.exit_pass ?_)
    repeat (first | refine JX.next ?_ | refine JX.normal_block ?_)
    have hll : n = ks.length := by omega
    subst hll
    rw [List.take_length] at hts
    have hrl := hts.len
    repeat refine J.seq ?_
    refine J.plain ?_
    refine JO.t (ob_ld1 sz_sl_p_group_group rfl (by rw [sliceO_cells]; rfl)) rfl ?_
    refine JO.t (ob_move rfl) rfl ?_
    refine JO.t (ob_buildSlice (cs := [_]) sl_sl_p_group_group (by omega) (by omega) (.cons rfl .nil) rfl rfl rfl) rfl ?_
    refine JO.apX ([ptrG b9]) ap_sl_p_group_group (fun _ => rfl) (by repeat (first | exact .here | apply Cx.past | apply Cx.there)) hG rfl rfl (fun L => src_new un_sl_p_group_group rfl rfl) (.inr (by simp)) (by simp; omega) (by simp; omega) rfl (fun st3 cp3 hG3 => ?_)
    try dsimp only
    refine JO.m (obm_store rfl rfl (by repeat (first | exact .here | apply Upd.there)) cnt_sl cnt_sl ss_sl_p_group_group) (by rfl) ?_
    refine JO.nil ?_
    refine JX.normal_ret ?_
    rw [List.length_append, show [ptrG b9].length = 1 from rfl]
    exact JX.retL0 (fn := Try.f36) (Zp := fun z : GZ => isNew ks z.ts ∧ GrV (z.ts.map tI) z.st z.cap ∧ GrV (ps ++ [ptrG z.gb]) z.st2 z.cap2) (L1 := fun z : GZ => ⟨b13, ty_sl_p_group_group, .is (sliceO z.st2 (ps.length + 1) z.cap2)⟩ :: ownO z.st2 ty_p_group_group (⟨z.gb, ty_group_group, .is (.agg [.slice a len cap, sliceO z.st ks.length z.cap].toArray)⟩ :: ownO z.st ty_group_teller (z.ts.map tO))) (R := fun _ => .is (.tuple #[])) (Lr := []) rfl ⟨b9, st1, cp1, rs.reverse, st3, cp3⟩ ⟨hts, hG1, hG3⟩ gz_perm (by refine is_out ?_; simp only [List.all_cons, Bool.and_eq_true]; exact ⟨rfl, ownO_is _ _ (by simp only [List.all_cons, Bool.and_eq_true]; exact ⟨rfl, ownO_is _ _ (tO_is _)⟩)⟩) hb0 rfl
end Go.Proofs.Ytgpikmonklainaa
